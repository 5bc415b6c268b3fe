/- jsonval.encode for simple trees. -/
import Derived.Test.YtmonbhoeplmieaaDoorJshWl
import Derived.Test.YtmonbhoeplmieaaDoorJshEs
import Derived.Test.YtmonbhoeplmieaaDoorJshVa
import Derived.Deep.QuietTactic
import Derived.BigQuiet
import Derived.Deep.LoopGhost
import Derived.Shelf.Abstract
namespace Go.Proofs.YtmonbhoeplmieaaDoor.Js
open Go.RowKit Go.Proofs.YtmonbhoeplmieaaDoorW.PrintWords Go.Proofs.YtmonbhoeplmieaaDoorW.PrintLast Go.Proofs.YtmonbhoeplmieaaDoorW.PrintMore
open Go.Proofs.YtmonbhoeplmieaaDoor
set_option linter.unusedVariables false
set_option linter.unusedSimpArgs false

open Go.Shelf
theorem isB_move {B b : Nat} {bs : List Value} {w w1 : World} (h : Lib.IsBuilder 49 5 B b bs w) (hm : ∀ (k : Nat) (c : Array Value) (t : TypeId), (t = 49 ∨ t = 5) → w.heap[k]? = some (.cells c t (0, 0)) → w1.heap[k]? = w.heap[k]?) : Lib.IsBuilder 49 5 B b bs w1 := by
  rcases h with ⟨hB, v, hbk, hown, hne⟩ | ⟨hB, v, hbk, hown, hne⟩
  · exact Or.inl ⟨hB, v, (hm b _ _ (Or.inl rfl) hbk).trans hbk, own_move hown (fun k hk => by obtain ⟨cells, hc⟩ := own_typed hown k hk; exact hm k _ _ (Or.inr rfl) hc), hne⟩
  · exact Or.inr ⟨hB, v, (hm b _ _ (Or.inl rfl) hbk).trans hbk, own_move hown (fun k hk => by obtain ⟨cells, hc⟩ := own_typed hown k hk; exact hm k _ _ (Or.inr rfl) hc), hne⟩
theorem isB_lt {B b : Nat} {bs : List Value} {w : World} (h : Lib.IsBuilder 49 5 B b bs w) : b < w.heap.size := by
  rcases h with ⟨_, v, hbk, _, _⟩ | ⟨_, v, hbk, _, _⟩
  · exact blk_lt hbk
  · exact blk_lt hbk
theorem isB_below {B b : Nat} {bs : List Value} {w w1 : World} (h : Lib.IsBuilder 49 5 B b bs w) (hb : Below w.heap.size w w1) : Lib.IsBuilder 49 5 B b bs w1 := isB_move h fun k c t _ hk => hb.block k (blk_lt hk)
theorem isB_far {B b g j : Nat} {bs : List Value} {w : World} {cs : Array Value} {v : Value} (h : Lib.IsBuilder 49 5 B b bs w) (hg : w.heap[g]? = some (.cells cs 25 (0, 0))) : Lib.IsBuilder 49 5 B b bs (w.setCell ⟨g, j, none⟩ v) :=
  isB_move h fun k c t ht hk => Below.heap_setCell w ⟨g, j, none⟩ v k (by
    intro e
    have e' : k = g := e
    subst e'
    rw [hg] at hk
    injection hk with hk
    injection hk with _ hk
    rcases ht with ht | ht <;> (rw [ht] at hk; exact absurd hk (by decide)))
theorem isB_far5 {B b g : Nat} {bs : List Value} {w : World} {cs : Array Value} {v0 v1 v2 v3 v4 : Value} (h : Lib.IsBuilder 49 5 B b bs w) (hg : w.heap[g]? = some (.cells cs 25 (0, 0))) :
    Lib.IsBuilder 49 5 B b bs (((((w.setCell ⟨g, 0, none⟩ v0).setCell ⟨g, 1, none⟩ v1).setCell ⟨g, 2, none⟩ v2).setCell ⟨g, 3, none⟩ v3).setCell ⟨g, 4, none⟩ v4) :=
  isB_far (isB_far (isB_far (isB_far (isB_far h hg) (blk_set hg 0 v0)) (blk_set (blk_set hg 0 v0) 1 v1)) (blk_set (blk_set (blk_set hg 0 v0) 1 v1) 2 v2)) (blk_set (blk_set (blk_set (blk_set hg 0 v0) 1 v1) 2 v2) 3 v3)
theorem kept_below (b : Nat) {w w1 : World} (hb : Below w.heap.size w w1) : Bl.Kept b w w1 := fun k c t _ _ hk => (hb.block k (blk_lt hk)).trans hk
theorem kept_put {b g j : Nat} {w w1 : World} {v : Value} (h : Bl.Kept b w w1) (hg : w.heap.size ≤ g) : Bl.Kept b w (w1.setCell ⟨g, j, none⟩ v) := fun k c t ht hk hc => (Below.heap_setCell w1 ⟨g, j, none⟩ v k (by intro e; have e' : k = g := e; have h_ := blk_lt hc; omega)).trans (h k c t ht hk hc)
theorem far_ {w : World} {g g' j : Nat} {o : Obj} {v : Value} (h : w.heap[g]? = some o) (hne : g ≠ g') : (w.setCell ⟨g', j, none⟩ v).heap[g]? = some o := (Below.heap_setCell w ⟨g', j, none⟩ v g hne).trans h
mutual
/-- the text of a simple tree, as cells -/
def encC : S25 → List Value
  | .mk k _ t ns es => if k = 0 then Lib.strCells ⟨#[110, 117, 108, 108]⟩ else if k = 2 then Lib.strCells ⟨#[49]⟩ else if k = 3 then quo t else [.int .u8 123] ++ encM 0 ns es ++ [.int .u8 125]
def encM : Nat → List ByteArray → List S25 → List Value
  | i, nm :: ns, e :: es => (if 0 < i then [.int .u8 44] else []) ++ (quo nm ++ [.int .u8 58] ++ encC e) ++ encM (i + 1) ns es
  | _, _, _ => []
end
mutual
/-- simple trees: null, the number 1, a plain text, an object with plain names -/
def pl : S25 → Prop
  | .mk k n t ns es => (k = 0 ∨ (k = 2 ∧ n = 1) ∨ (k = 3 ∧ plain t) ∨ (k = 5 ∧ ns.length = es.length ∧ ∀ x ∈ ns, plain x)) ∧ pls es
def pls : List S25 → Prop
  | [] => True
  | e :: es => pl e ∧ pls es
end
theorem pl_eq (j : S25) : pl j ↔ ((j.f0 = 0 ∨ (j.f0 = 2 ∧ j.f1 = 1) ∨ (j.f0 = 3 ∧ plain j.f2) ∨ (j.f0 = 5 ∧ j.f3.length = j.f4.length ∧ ∀ x ∈ j.f3, plain x)) ∧ pls j.f4) := by cases j; first | (rw [pl]; done) | (rw [pl]; rfl)
theorem pls_mem : ∀ {es : List S25} {x : S25}, pls es → x ∈ es → pl x
  | [], _, _, h => by cases h
  | e :: es, x, hs, h => by
    rw [pls] at hs
    rcases List.mem_cons.1 h with rfl | h
    · exact hs.1
    · exact pls_mem hs.2 h
theorem encC_eq (j : S25) : encC j = if j.f0 = 0 then Lib.strCells ⟨#[110, 117, 108, 108]⟩ else if j.f0 = 2 then Lib.strCells ⟨#[49]⟩ else if j.f0 = 3 then quo j.f2 else [.int .u8 123] ++ encM 0 j.f3 j.f4 ++ [.int .u8 125] := by cases j; first | (rw [encC]; done) | (rw [encC]; rfl)
theorem encM_cons (i : Nat) (nm : ByteArray) (ns : List ByteArray) (e : S25) (es : List S25) : encM i (nm :: ns) (e :: es) = (if 0 < i then [.int .u8 44] else []) ++ (quo nm ++ [.int .u8 58] ++ encC e) ++ encM (i + 1) ns es := by rw [encM]
theorem encM_nil (i : Nat) (ns : List ByteArray) : encM i ns [] = [] := by cases ns <;> simp [encM]
def EncSays (n : Nat) : Prop := ∀ (j : S25) (W0 : World) (An : Option Addr) (cn : Nat) (Ae : Option Addr) (ce : Nat) (b : Nat) (bs : List Value) (w : World), SizeOf.sizeOf j < n →
    k25.K W0 j [.int .i64 j.f0, .int .i64 j.f1, .string j.f2, .slice An j.f3.length cn, .slice Ae j.f4.length ce] → pl j → Below W0.heap.size W0 w → Lib.IsBuilder 49 5 W0.heap.size b bs w → bs.length + (encC j).length ≤ 1000000 →
    Calls Tryd.prog 21 #[.pointer (some ⟨b, 0, none⟩), .agg #[.int .i64 j.f0, .int .i64 j.f1, .string j.f2, .slice An j.f3.length cn, .slice Ae j.f4.length ce]] w fun e w' => e = .returned (.tuple #[]) ∧ Lib.IsBuilder 49 5 W0.heap.size b (bs ++ encC j) w' ∧ Below W0.heap.size W0 w' ∧ Bl.Kept b w w' ∧ w.heap.size ≤ w'.heap.size
set_option maxHeartbeats 8000000 in
set_option maxRecDepth 100000 in
theorem elements_step (n : Nat) (ih : EncSays n) (j : S25) (W0 : World) (An : Option Addr) (cn : Nat) (Ae : Option Addr) (ce : Nat) (b : Nat) (bs : List Value) (w : World) (hsz : SizeOf.sizeOf j < n + 1)
    (hK : k25.K W0 j [.int .i64 j.f0, .int .i64 j.f1, .string j.f2, .slice An j.f3.length cn, .slice Ae j.f4.length ce]) (hp : pl j) (hk5 : j.f0 = 5) (hW : Below W0.heap.size W0 w) (hI : Lib.IsBuilder 49 5 W0.heap.size b bs w) (hl : bs.length + (encC j).length ≤ 1000000) :
    Calls Tryd.prog 36 #[.pointer (some ⟨b, 0, none⟩), .agg #[.int .i64 j.f0, .int .i64 j.f1, .string j.f2, .slice An j.f3.length cn, .slice Ae j.f4.length ce]] w fun e w' => e = .returned (.tuple #[]) ∧ Lib.IsBuilder 49 5 W0.heap.size b (bs ++ encC j) w' ∧ Below W0.heap.size W0 w' ∧ Bl.Kept b w w' ∧ w.heap.size ≤ w'.heap.size := by
  have hu25 := Tryd.underlying25
  have hu23 := Tryd.underlying23
  have hu22 := Tryd.underlying22
  have hu9 := Tryd.underlying9
  obtain ⟨An', cn', Ae', ce', heq, hln, hcn, hle, hce⟩ := k25_open hK
  simp only [List.cons.injEq, Value.slice.injEq, and_true, true_and] at heq
  obtain ⟨⟨rfl, rfl⟩, rfl, rfl⟩ := heq
  have hpl := (pl_eq j).1 hp
  have h5 : j.f3.length = j.f4.length ∧ ∀ x ∈ j.f3, plain x := by
    rcases hpl.1 with h | h | h | h
    · rw [hk5] at h; exact absurd h (by decide)
    · rw [hk5] at h; exact absurd h.1 (by decide)
    · rw [hk5] at h; exact absurd h.1 (by decide)
    · exact h.2
  have henc : encC j = [.int .u8 123] ++ encM 0 j.f3 j.f4 ++ [.int .u8 125] := by rw [encC_eq, if_neg (by rw [hk5]; decide), if_neg (by rw [hk5]; decide), if_neg (by rw [hk5]; decide)]
  have HEC := Aside0.mk henc
  have HPN := Aside0.mk h5
  have HPS := Aside0.mk hpl.2
  have HI := Aside0.mk hI
  have HB := Aside0.mk hW
  have HK := Aside0.mk (Bl.Kept.refl b w)
  have HT0 := Aside0.mk (show bs.length + 2 + (encM 0 j.f3 j.f4).length ≤ 1000000 from by rw [henc] at hl; simp only [List.length_append, List.length_cons, List.length_nil] at hl; omega)
  have HS := Aside0.mk hsz
  have HCN := Aside0.mk hcn
  have HCE := Aside0.mk hce
  obtain ⟨kd, hkd⟩ : ∃ kd, j.f0 = kd := ⟨_, rfl⟩
  obtain ⟨nu, hnu⟩ : ∃ nu, j.f1 = nu := ⟨_, rfl⟩
  obtain ⟨tx, htx⟩ : ∃ tx, j.f2 = tx := ⟨_, rfl⟩
  obtain ⟨k, hk⟩ : ∃ k, j.f4.length = k := ⟨_, rfl⟩
  obtain ⟨m, hm⟩ : ∃ m, j.f3.length = m := ⟨_, rfl⟩
  have HE := Aside0.mk hk
  have HM := Aside0.mk hm
  have HMK := Aside0.mk (show m = k from by rw [← hm, ← hk]; exact h5.1)
  have HLN := Aside0.mk (show m ≤ cn from by rw [← hm]; exact hln)
  have HLE := Aside0.mk (show k ≤ ce from by rw [← hk]; exact hle)
  rw [hk5] at hkd
  subst hkd
  rw [hk5, hnu, htx, hk, hm]
  have i0 : ∀ w, (Instr.index 9 (.string ⟨#[123, 125]⟩) (.int .i64 0)).run Tryd.prog w = .ok (.int .u8 123) w := fun w => by kernel_rfl
  have i1 : ∀ w, (Instr.index 9 (.string ⟨#[123, 125]⟩) (.int .i64 1)).run Tryd.prog w = .ok (.int .u8 125) w := fun w => by kernel_rfl
  clear hsz hK hp hk5 hW hI hl hpl h5 henc hln hcn hle hce hnu htx hk hm
  have HL := Aside0.mk (show bs.length + 2 ≤ 1000000 from by have h_ := HT0.out; omega)
  go_enter Tryd.func36, Tryd.ntmps36
  go_wp2_with (first | ((with_reducible refine gate_dst (N := 3) rfl ?_); refine box_event ?hg (N := 3) ?hd (cs := #[.int .i64 5, .int .i64 nu, .string tx, .slice An m cn, .slice Ae k ce]) (t := 25) ?hr ?_; (case hd => rfl); (case hg => rfl); (case hr => first | (go_simp; done) | (go_simp; rfl)); intro g3 hg w3 hbox hb; have PB := Aside0.mk hbox; have NB := Aside0.mk (show g3 ≠ b from by rw [hg]; exact Nat.ne_of_gt (isB_lt HI.out)); have GE3 := Aside0.mk (show w.heap.size ≤ g3 from by rw [hg]; exact Nat.le_refl _); have n0_ := Aside0.mk (isB_below HI.out hb); have n1_ := Aside0.mk (below_step HB.out hb); have n2_ := Aside0.mk (kept_below b hb); have HKS := Aside0.mk (show w.heap.size ≤ w3.heap.size from hb.size); clear HI HB HK; have HI := n0_; have HB := n1_; have HK := n2_; clear n0_ n1_ n2_; (try clear q0 q1 q2 q3 q4); have q0 : w3.cell? ⟨g3, 0, none⟩ = some (.int .i64 5) := (blk_cell PB.out 0).trans rfl; have q1 : w3.cell? ⟨g3, 1, none⟩ = some (.int .i64 nu) := (blk_cell PB.out 1).trans rfl; have q2 : w3.cell? ⟨g3, 2, none⟩ = some (.string tx) := (blk_cell PB.out 2).trans rfl; have q3 : w3.cell? ⟨g3, 3, none⟩ = some (.slice An m cn) := (blk_cell PB.out 3).trans rfl; have q4 : w3.cell? ⟨g3, 4, none⟩ = some (.slice Ae k ce) := (blk_cell PB.out 4).trans rfl; clear hbox hb hg) | (go_at_call 50; refine (Bl.writeByte W0.heap.size b (bs) 123 _ (HI.out) (by have h_ := HL.out; (try simp only [List.length_append, List.length_cons, List.length_nil, quo_len, Bl.cs_len]); omega) (HB.out.size)).mono ?_; rintro e_ w7 ⟨rfl, hi_, hb_, hk_⟩; have n0_ := Aside0.mk (show Lib.IsBuilder 49 5 W0.heap.size b _ w7 from Or.inr hi_); have n1_ := Aside0.mk (HB.out.trans hb_); have n2_ := Aside0.mk (HK.out.trans hk_); have n3_ := Aside0.mk (hk_ g3 _ _ (by decide) NB.out (PB.out)); have n5_ := Aside0.mk (Nat.le_trans HKS.out hb_.size); clear HI HB HK PB HKS hi_ hb_ hk_; have HI := n0_; have HB := n1_; have HK := n2_; have PB := n3_; have HKS := n5_; clear n0_ n1_ n2_ n3_ n5_; (try clear q0 q1 q2 q3 q4); have q0 : w7.cell? ⟨g3, 0, none⟩ = some (.int .i64 5) := (blk_cell PB.out 0).trans rfl; have q1 : w7.cell? ⟨g3, 1, none⟩ = some (.int .i64 nu) := (blk_cell PB.out 1).trans rfl; have q2 : w7.cell? ⟨g3, 2, none⟩ = some (.string tx) := (blk_cell PB.out 2).trans rfl; have q3 : w7.cell? ⟨g3, 3, none⟩ = some (.slice An m cn) := (blk_cell PB.out 3).trans rfl; have q4 : w7.cell? ⟨g3, 4, none⟩ = some (.slice Ae k ce) := (blk_cell PB.out 4).trans rfl))
  clear HL
  go_loopg [17] k (fun gq s17 wx => ∃ (dn td : List S25) (nd nt : List ByteArray) (acc : List Value), j.f4 = dn ++ td ∧ j.f3 = nd ++ nt ∧ nd.length = dn.length ∧ gq = td.length ∧ s17 = .int .i64 (dn.length : Int) ∧ acc ++ encM dn.length nt td = encM 0 j.f3 j.f4 ∧ Lib.IsBuilder 49 5 W0.heap.size b (bs ++ [.int .u8 123] ++ acc) wx ∧ Below W0.heap.size W0 wx ∧ Bl.Kept b w wx ∧ wx.heap[g3]? = some (.cells #[.int .i64 5, .int .i64 nu, .string tx, .slice An m cn, .slice Ae k ce] 25 (0, 0)) ∧ w.heap.size ≤ wx.heap.size)
  case atStart => exact ⟨[], j.f4, [], j.f3, [], rfl, rfl, rfl, HE.out.symm, rfl, rfl, by rw [List.append_nil]; exact HI.out, HB.out, HK.out, PB.out, HKS.out⟩
  case round =>
    clear HI HB HK PB HKS q0 q1 q2 q3 q4
    obtain ⟨dn, td, nd, nt, acc, hdt, hnt, hnd, rfl, rfl, hac, hi_, hb_, hk_, hp_, hs_⟩ := hrel
    have HI := Aside0.mk hi_
    have HB := Aside0.mk hb_
    have HK := Aside0.mk hk_
    have PB := Aside0.mk hp_
    have HKS := Aside0.mk hs_
    clear hi_ hb_ hk_ hp_ hs_
    have HAC := Aside0.mk hac
    have HDT := Aside0.mk hdt
    have HNT := Aside0.mk hnt
    have hlen : k = dn.length + td.length := by rw [← HE.out, hdt, List.length_append]
    have hlen2 : k = nd.length + nt.length := by rw [← HMK.out, ← HM.out, hnt, List.length_append]
    obtain ⟨i, hi⟩ : ∃ i, i = dn.length := ⟨_, rfl⟩
    have HII := Aside0.mk hi
    rw [← hi]
    have q0 : wr.cell? ⟨g3, 0, none⟩ = some (.int .i64 5) := (blk_cell PB.out 0).trans rfl
    have q3 : wr.cell? ⟨g3, 3, none⟩ = some (.slice An m cn) := (blk_cell PB.out 3).trans rfl
    cases td with
    | nil =>
      have b1 : k ≤ i := by simp at hlen; omega
      have e5 : decide ((i : Int) < (k : Int)) = false := decide_eq_false (by omega)
      have HL := Aside0.mk (show bs.length + 2 + acc.length ≤ 1000000 from by have h_ := HT0.out; rw [← hac, List.length_append] at h_; omega)
      have HA2 := Aside0.mk (show acc = encM 0 j.f3 j.f4 from by rw [← hac, encM_nil, List.append_nil])
      clear hdt hnt hnd hac hlen hlen2 hi q0 q3
      go_wp2_with (go_at_call 50; refine (Bl.writeByte W0.heap.size b (bs ++ [.int .u8 123] ++ acc) 125 _ (HI.out) (by have h_ := HL.out; (try simp only [List.length_append, List.length_cons, List.length_nil, quo_len, Bl.cs_len]); omega) (HB.out.size)).mono ?_; rintro e_ w9 ⟨rfl, hi_, hb_, hk_⟩; have n0_ := Aside0.mk (show Lib.IsBuilder 49 5 W0.heap.size b _ w9 from Or.inr hi_); have n1_ := Aside0.mk (HB.out.trans hb_); have n2_ := Aside0.mk (HK.out.trans hk_); have n3_ := Aside0.mk (hk_ g3 _ _ (by decide) NB.out (PB.out)); have n5_ := Aside0.mk (Nat.le_trans HKS.out hb_.size); clear HI HB HK PB HKS hi_ hb_ hk_; have HI := n0_; have HB := n1_; have HK := n2_; have PB := n3_; have HKS := n5_; clear n0_ n1_ n2_ n3_ n5_; skip)
      go_end0
      refine ⟨rfl, ?_, HB.out, HK.out, HKS.out⟩
      rw [HEC.out, ← HA2.out, show bs ++ ([Value.int .u8 123] ++ acc ++ [Value.int .u8 125]) = bs ++ [Value.int .u8 123] ++ acc ++ [Value.int .u8 125] from by simp only [List.append_assoc]]
      exact HI.out
    | cons e t =>
      cases nt with
      | nil => exfalso; simp at hlen hlen2; omega
      | cons nm nt' =>
      have b1 : i < k := by simp at hlen; omega
      have e5 : decide ((i : Int) < (k : Int)) = true := decide_eq_true (by omega)
      have him : i < m := by rw [HMK.out]; exact b1
      have hkce := HLE.out
      have hmcn := HLN.out
      have HKB := Aside0.mk (show i + 1 ≤ 9223372036854775807 from by have h_ := HCE.out.2.1; rw [HE.out] at h_; omega)
      obtain ⟨ad, x, An2, cn2, Ae2, ce2, ea, hxe, c0, c1, c2, c3, c4, hKx⟩ := at_J HCE.out i (by rw [HE.out]; exact b1)
      obtain rfl : x = e := by
        rw [hdt, hi, List.getElem?_append_right (Nat.le_refl _), Nat.sub_self] at hxe
        exact (Option.some.inj hxe).symm
      have p0 := (HB.out.cell (World.block_lt_of_cell? _ _ c0)).trans c0
      have p1 := (HB.out.cell (World.block_lt_of_cell? _ _ c1)).trans c1
      have p2 := (HB.out.cell (World.block_lt_of_cell? _ _ c2)).trans c2
      have p3 := (HB.out.cell (World.block_lt_of_cell? _ _ c3)).trans c3
      have p4 := (HB.out.cell (World.block_lt_of_cell? _ _ c4)).trans c4
      obtain ⟨adn, ean, hnm⟩ := Kd.at_string HCN.out (i : Int) (by omega) (by rw [HM.out]; omega)
      have hget : rdOf ByteArray.empty j.f3 (i : Int) = nm := by
        unfold rdOf
        rw [Int.toNat_natCast, hi, ← hnd, hnt]
        simp [List.getD]
      rw [hget, Int.toNat_natCast] at hnm
      have HNM := Aside0.mk (show ∀ w' : World, Below W0.heap.size W0 w' → w'.cell? (adn.add i) = some (.string nm) from fun w' h_ => (h_.cell (World.block_lt_of_cell? _ _ hnm)).trans hnm)
      have nmf := HNM.out _ HB.out
      have HPL := Aside0.mk (HPN.out.2 nm (by rw [hnt]; simp))
      have hxm : x ∈ j.f4 := by rw [hdt]; simp
      have HT := Aside0.mk (show bs.length + 2 + acc.length + (if 0 < i then [Value.int .u8 44] else []).length + (nm.size + 2) + 1 + (encC x).length ≤ 1000000 from by
        have h_ := HT0.out
        rw [← hac, ← hi, encM_cons] at h_
        simp only [List.length_append, quo_len, List.length_cons, List.length_nil] at h_ ⊢
        omega)
      have IH := Aside0.mk (show ∀ (b : Nat) (bs : List Value) (w' : World), Below W0.heap.size W0 w' → Lib.IsBuilder 49 5 W0.heap.size b bs w' → bs.length + (encC x).length ≤ 1000000 → Calls Tryd.prog 21 #[.pointer (some ⟨b, 0, none⟩), .agg #[.int .i64 x.f0, .int .i64 x.f1, .string x.f2, .slice An2 x.f3.length cn2, .slice Ae2 x.f4.length ce2]] w' fun e w'' => e = .returned (.tuple #[]) ∧ Lib.IsBuilder 49 5 W0.heap.size b (bs ++ encC x) w'' ∧ Below W0.heap.size W0 w'' ∧ Bl.Kept b w' w'' ∧ w'.heap.size ≤ w''.heap.size from fun b bs w' h1 h2 h3 =>
        ih x W0 An2 cn2 Ae2 ce2 b bs w' (by have h_ := elem_lt hxm; have h2_ := HS.out; omega) hKx (pls_mem HPS.out hxm) h1 h2 h3)
      subst ea
      subst ean
      by_cases hi0 : i = 0
      · have e6 : decide ((i : Int) > 0) = false := decide_eq_false (by omega)
        have e7 : decide ((0 : Int) < (i : Int)) = false := decide_eq_false (by omega)
        have e8 : decide (0 < i) = false := decide_eq_false (by omega)
        have HL := Aside0.mk (show bs.length + 2 + acc.length + (nm.size + 2) + 1 + (encC x).length ≤ 1000000 from by have h_ := HT.out; omega)
        have HEN := Aside0.mk (show acc ++ quo nm ++ [.int .u8 58] ++ encC x ++ encM (i + 1) nt' t = encM 0 j.f3 j.f4 from by rw [← hac, ← hi, encM_cons, if_neg (by omega)]; simp only [List.append_assoc, List.nil_append])
        clear hdt hnt hac hlen hlen2 hxe c0 c1 c2 c3 c4 hKx hnm hget hxm HT
        have HND := Aside0.mk hnd
        clear hnd hi hi0
        go_upto_region 10 with ((with_reducible refine gate_dst (N := 6) rfl ?_); refine box_event ?hg (N := 6) ?hd (cs := #[.int .i64 0, .int .i64 0, .string ByteArray.empty, .slice none 0 0, .slice none 0 0]) (t := 25) ?hr ?_; (case hd => rfl); (case hg => rfl); (case hr => first | (go_simp; done) | (go_simp; rfl)); intro g6 hg w6 hbox hb; have B6 := Aside0.mk hbox; have NB6 := Aside0.mk (show g6 ≠ b from by rw [hg]; exact Nat.ne_of_gt (isB_lt HI.out)); have NE36 := Aside0.mk (show g3 ≠ g6 from by rw [hg]; exact Nat.ne_of_lt (blk_lt PB.out)); have GE6 := Aside0.mk (show W0.heap.size ≤ g6 from by rw [hg]; exact HB.out.size); have GW6 := Aside0.mk (show w.heap.size ≤ g6 from by rw [hg]; exact HKS.out); have n0_ := Aside0.mk (isB_below HI.out hb); have n1_ := Aside0.mk (below_step HB.out hb); have n2_ := Aside0.mk (HK.out.trans (kept_below b hb)); have n3_ := Aside0.mk (blk_below PB.out hb); have n4_ := Aside0.mk (Nat.le_trans HKS.out hb.size); clear HI HB HK PB HKS; have HI := n0_; have HB := n1_; have HK := n2_; have PB := n3_; have HKS := n4_; clear n0_ n1_ n2_ n3_ n4_; have z0 : w6.cell? ⟨g6, 0, none⟩ = some (.int .i64 0) := (blk_cell B6.out 0).trans rfl; have zf0 := blk_frozen B6.out 0; have z1 : w6.cell? ⟨g6, 1, none⟩ = some (.int .i64 0) := (blk_cell B6.out 1).trans rfl; have zf1 := blk_frozen B6.out 1; have z2 : w6.cell? ⟨g6, 2, none⟩ = some (.string ByteArray.empty) := (blk_cell B6.out 2).trans rfl; have zf2 := blk_frozen B6.out 2; have z3 : w6.cell? ⟨g6, 3, none⟩ = some (.slice none 0 0) := (blk_cell B6.out 3).trans rfl; have zf3 := blk_frozen B6.out 3; have z4 : w6.cell? ⟨g6, 4, none⟩ = some (.slice none 0 0) := (blk_cell B6.out 4).trans rfl; have zf4 := blk_frozen B6.out 4; clear hbox hb hg)
        have n0_ := Aside0.mk (show Lib.IsBuilder 49 5 W0.heap.size b (bs ++ [.int .u8 123] ++ acc) (((((w6.setCell ⟨g6, 0, none⟩ (.int .i64 x.f0)).setCell ⟨g6, 1, none⟩ (.int .i64 x.f1)).setCell ⟨g6, 2, none⟩ (.string x.f2)).setCell ⟨g6, 3, none⟩ (.slice An2 x.f3.length cn2)).setCell ⟨g6, 4, none⟩ (.slice Ae2 x.f4.length ce2)) from isB_far5 HI.out B6.out)
        have n1_ := Aside0.mk (show Below W0.heap.size W0 (((((w6.setCell ⟨g6, 0, none⟩ (.int .i64 x.f0)).setCell ⟨g6, 1, none⟩ (.int .i64 x.f1)).setCell ⟨g6, 2, none⟩ (.string x.f2)).setCell ⟨g6, 3, none⟩ (.slice An2 x.f3.length cn2)).setCell ⟨g6, 4, none⟩ (.slice Ae2 x.f4.length ce2)) from (below_put (below_put (below_put (below_put (below_put HB.out GE6.out) GE6.out) GE6.out) GE6.out) GE6.out))
        have n2_ := Aside0.mk (show Bl.Kept b w (((((w6.setCell ⟨g6, 0, none⟩ (.int .i64 x.f0)).setCell ⟨g6, 1, none⟩ (.int .i64 x.f1)).setCell ⟨g6, 2, none⟩ (.string x.f2)).setCell ⟨g6, 3, none⟩ (.slice An2 x.f3.length cn2)).setCell ⟨g6, 4, none⟩ (.slice Ae2 x.f4.length ce2)) from (kept_put (kept_put (kept_put (kept_put (kept_put HK.out GW6.out) GW6.out) GW6.out) GW6.out) GW6.out))
        have n3_ := Aside0.mk (show (((((w6.setCell ⟨g6, 0, none⟩ (.int .i64 x.f0)).setCell ⟨g6, 1, none⟩ (.int .i64 x.f1)).setCell ⟨g6, 2, none⟩ (.string x.f2)).setCell ⟨g6, 3, none⟩ (.slice An2 x.f3.length cn2)).setCell ⟨g6, 4, none⟩ (.slice Ae2 x.f4.length ce2)).heap[g3]? = some (.cells #[.int .i64 5, .int .i64 nu, .string tx, .slice (some adn) m cn, .slice (some ad) k ce] 25 (0, 0)) from (far_ (far_ (far_ (far_ (far_ PB.out NE36.out) NE36.out) NE36.out) NE36.out) NE36.out))
        have n4_ := Aside0.mk (show (((((w6.setCell ⟨g6, 0, none⟩ (.int .i64 x.f0)).setCell ⟨g6, 1, none⟩ (.int .i64 x.f1)).setCell ⟨g6, 2, none⟩ (.string x.f2)).setCell ⟨g6, 3, none⟩ (.slice An2 x.f3.length cn2)).setCell ⟨g6, 4, none⟩ (.slice Ae2 x.f4.length ce2)).heap[g6]? = some (.cells #[.int .i64 x.f0, .int .i64 x.f1, .string x.f2, .slice An2 x.f3.length cn2, .slice Ae2 x.f4.length ce2] 25 (0, 0)) from by refine blk_put (cs := #[.int .i64 x.f0, .int .i64 x.f1, .string x.f2, .slice An2 x.f3.length cn2, .slice none 0 0]) ?_ 4 _ rfl; refine blk_put (cs := #[.int .i64 x.f0, .int .i64 x.f1, .string x.f2, .slice none 0 0, .slice none 0 0]) ?_ 3 _ rfl; refine blk_put (cs := #[.int .i64 x.f0, .int .i64 x.f1, .string ByteArray.empty, .slice none 0 0, .slice none 0 0]) ?_ 2 _ rfl; refine blk_put (cs := #[.int .i64 x.f0, .int .i64 0, .string ByteArray.empty, .slice none 0 0, .slice none 0 0]) ?_ 1 _ rfl; refine blk_put (cs := #[.int .i64 0, .int .i64 0, .string ByteArray.empty, .slice none 0 0, .slice none 0 0]) ?_ 0 _ rfl; exact B6.out)
        have n5_ := Aside0.mk (show w.heap.size ≤ (((((w6.setCell ⟨g6, 0, none⟩ (.int .i64 x.f0)).setCell ⟨g6, 1, none⟩ (.int .i64 x.f1)).setCell ⟨g6, 2, none⟩ (.string x.f2)).setCell ⟨g6, 3, none⟩ (.slice An2 x.f3.length cn2)).setCell ⟨g6, 4, none⟩ (.slice Ae2 x.f4.length ce2)).heap.size from by simp only [World.size_setCell]; exact HKS.out)
        clear HI HB HK PB B6 HKS z0 z1 z2 z3 z4 zf0 zf1 zf2 zf3 zf4 q0 q3 nmf p0 p1 p2 p3 p4
        have HI := n0_
        have HB := n1_
        have HK := n2_
        have PB := n3_
        have B6 := n4_
        have HKS := n5_
        clear n0_ n1_ n2_ n3_ n4_ n5_
        generalize (((((w6.setCell ⟨g6, 0, none⟩ (.int .i64 x.f0)).setCell ⟨g6, 1, none⟩ (.int .i64 x.f1)).setCell ⟨g6, 2, none⟩ (.string x.f2)).setCell ⟨g6, 3, none⟩ (.slice An2 x.f3.length cn2)).setCell ⟨g6, 4, none⟩ (.slice Ae2 x.f4.length ce2)) = w65 at HI HB HK PB B6 HKS ⊢
        (try clear q0 q1 q2 q3 q4)
        have q0 : w65.cell? ⟨g3, 0, none⟩ = some (.int .i64 5) := (blk_cell PB.out 0).trans rfl
        have q1 : w65.cell? ⟨g3, 1, none⟩ = some (.int .i64 nu) := (blk_cell PB.out 1).trans rfl
        have q2 : w65.cell? ⟨g3, 2, none⟩ = some (.string tx) := (blk_cell PB.out 2).trans rfl
        have q3 : w65.cell? ⟨g3, 3, none⟩ = some (.slice (some adn) m cn) := (blk_cell PB.out 3).trans rfl
        have q4 : w65.cell? ⟨g3, 4, none⟩ = some (.slice (some ad) k ce) := (blk_cell PB.out 4).trans rfl
        (try clear y0 y1 y2 y3 y4)
        have y0 : w65.cell? ⟨g6, 0, none⟩ = some (.int .i64 x.f0) := (blk_cell B6.out 0).trans rfl
        have y1 : w65.cell? ⟨g6, 1, none⟩ = some (.int .i64 x.f1) := (blk_cell B6.out 1).trans rfl
        have y2 : w65.cell? ⟨g6, 2, none⟩ = some (.string x.f2) := (blk_cell B6.out 2).trans rfl
        have y3 : w65.cell? ⟨g6, 3, none⟩ = some (.slice An2 x.f3.length cn2) := (blk_cell B6.out 3).trans rfl
        have y4 : w65.cell? ⟨g6, 4, none⟩ = some (.slice Ae2 x.f4.length ce2) := (blk_cell B6.out 4).trans rfl
        (try clear nmf)
        have nmf := HNM.out _ HB.out
        go_wp2_with (first | (go_at_call 35; refine (encodeString_says (nm) HPL.out W0.heap.size b (bs ++ [.int .u8 123] ++ acc) _ (HI.out) (by have h_ := HL.out; (try simp only [List.length_append, List.length_cons, List.length_nil, quo_len, Bl.cs_len]); omega) (HB.out.size)).mono ?_; rintro e_ w9 ⟨rfl, hi_, hb_, hk_⟩; have n0_ := Aside0.mk (show Lib.IsBuilder 49 5 W0.heap.size b _ w9 from hi_); have n1_ := Aside0.mk (HB.out.trans hb_); have n2_ := Aside0.mk (HK.out.trans hk_); have n3_ := Aside0.mk (hk_ g3 _ _ (by decide) NB.out (PB.out)); have n5_ := Aside0.mk (Nat.le_trans HKS.out hb_.size); have n4_ := Aside0.mk (hk_ g6 _ _ (by decide) NB6.out B6.out); clear B6; have B6 := n4_; clear n4_; clear HI HB HK PB HKS hi_ hb_ hk_; have HI := n0_; have HB := n1_; have HK := n2_; have PB := n3_; have HKS := n5_; clear n0_ n1_ n2_ n3_ n5_; (try clear q0 q1 q2 q3 q4); have q0 : w9.cell? ⟨g3, 0, none⟩ = some (.int .i64 5) := (blk_cell PB.out 0).trans rfl; have q1 : w9.cell? ⟨g3, 1, none⟩ = some (.int .i64 nu) := (blk_cell PB.out 1).trans rfl; have q2 : w9.cell? ⟨g3, 2, none⟩ = some (.string tx) := (blk_cell PB.out 2).trans rfl; have q3 : w9.cell? ⟨g3, 3, none⟩ = some (.slice (some adn) m cn) := (blk_cell PB.out 3).trans rfl; have q4 : w9.cell? ⟨g3, 4, none⟩ = some (.slice (some ad) k ce) := (blk_cell PB.out 4).trans rfl; (try clear y0 y1 y2 y3 y4); have y0 : w9.cell? ⟨g6, 0, none⟩ = some (.int .i64 x.f0) := (blk_cell B6.out 0).trans rfl; have y1 : w9.cell? ⟨g6, 1, none⟩ = some (.int .i64 x.f1) := (blk_cell B6.out 1).trans rfl; have y2 : w9.cell? ⟨g6, 2, none⟩ = some (.string x.f2) := (blk_cell B6.out 2).trans rfl; have y3 : w9.cell? ⟨g6, 3, none⟩ = some (.slice An2 x.f3.length cn2) := (blk_cell B6.out 3).trans rfl; have y4 : w9.cell? ⟨g6, 4, none⟩ = some (.slice Ae2 x.f4.length ce2) := (blk_cell B6.out 4).trans rfl; (try clear nmf); have nmf := HNM.out _ HB.out) | (go_at_call 50; refine (Bl.writeByte W0.heap.size b (bs ++ [.int .u8 123] ++ acc ++ quo nm) 58 _ (HI.out) (by have h_ := HL.out; (try simp only [List.length_append, List.length_cons, List.length_nil, quo_len, Bl.cs_len]); omega) (HB.out.size)).mono ?_; rintro e_ w10 ⟨rfl, hi_, hb_, hk_⟩; have n0_ := Aside0.mk (show Lib.IsBuilder 49 5 W0.heap.size b _ w10 from Or.inr hi_); have n1_ := Aside0.mk (HB.out.trans hb_); have n2_ := Aside0.mk (HK.out.trans hk_); have n3_ := Aside0.mk (hk_ g3 _ _ (by decide) NB.out (PB.out)); have n5_ := Aside0.mk (Nat.le_trans HKS.out hb_.size); have n4_ := Aside0.mk (hk_ g6 _ _ (by decide) NB6.out B6.out); clear B6; have B6 := n4_; clear n4_; clear HI HB HK PB HKS hi_ hb_ hk_; have HI := n0_; have HB := n1_; have HK := n2_; have PB := n3_; have HKS := n5_; clear n0_ n1_ n2_ n3_ n5_; (try clear q0 q1 q2 q3 q4); have q0 : w10.cell? ⟨g3, 0, none⟩ = some (.int .i64 5) := (blk_cell PB.out 0).trans rfl; have q1 : w10.cell? ⟨g3, 1, none⟩ = some (.int .i64 nu) := (blk_cell PB.out 1).trans rfl; have q2 : w10.cell? ⟨g3, 2, none⟩ = some (.string tx) := (blk_cell PB.out 2).trans rfl; have q3 : w10.cell? ⟨g3, 3, none⟩ = some (.slice (some adn) m cn) := (blk_cell PB.out 3).trans rfl; have q4 : w10.cell? ⟨g3, 4, none⟩ = some (.slice (some ad) k ce) := (blk_cell PB.out 4).trans rfl; (try clear y0 y1 y2 y3 y4); have y0 : w10.cell? ⟨g6, 0, none⟩ = some (.int .i64 x.f0) := (blk_cell B6.out 0).trans rfl; have y1 : w10.cell? ⟨g6, 1, none⟩ = some (.int .i64 x.f1) := (blk_cell B6.out 1).trans rfl; have y2 : w10.cell? ⟨g6, 2, none⟩ = some (.string x.f2) := (blk_cell B6.out 2).trans rfl; have y3 : w10.cell? ⟨g6, 3, none⟩ = some (.slice An2 x.f3.length cn2) := (blk_cell B6.out 3).trans rfl; have y4 : w10.cell? ⟨g6, 4, none⟩ = some (.slice Ae2 x.f4.length ce2) := (blk_cell B6.out 4).trans rfl; (try clear nmf); have nmf := HNM.out _ HB.out) | (go_at_call 21; refine (IH.out b _ _ HB.out HI.out (by have h_ := HL.out; (try simp only [List.length_append, List.length_cons, List.length_nil, quo_len, Bl.cs_len]); omega)).mono ?_; rintro e_ w11 ⟨rfl, hi_, hb_, hk_, hs_⟩; have n0_ := Aside0.mk (show Lib.IsBuilder 49 5 W0.heap.size b _ w11 from hi_); have n1_ := Aside0.mk (hb_); have n2_ := Aside0.mk (HK.out.trans hk_); have n3_ := Aside0.mk (hk_ g3 _ _ (by decide) NB.out (PB.out)); have n5_ := Aside0.mk (Nat.le_trans HKS.out hs_); have n4_ := Aside0.mk (hk_ g6 _ _ (by decide) NB6.out B6.out); clear B6; have B6 := n4_; clear n4_; clear HI HB HK PB HKS hi_ hb_ hk_ hs_; have HI := n0_; have HB := n1_; have HK := n2_; have PB := n3_; have HKS := n5_; clear n0_ n1_ n2_ n3_ n5_; skip))
        go_roundg t.length
        case measure => exact Nat.lt_succ_self _
        case rel => exact ⟨dn ++ [x], t, nd ++ [nm], nt', acc ++ quo nm ++ [.int .u8 58] ++ encC x, by rw [HDT.out]; simp, by rw [HNT.out]; simp, by rw [List.length_append, List.length_append, HND.out]; rfl, rfl, congrArg (Value.int .i64) (by have h_ := HKB.out; have h2_ := HII.out; rw [List.length_append]; simp only [List.length_cons, List.length_nil]; unfold wrap64; omega), by rw [List.length_append, ← HII.out]; exact HEN.out, by simp only [← List.append_assoc]; exact HI.out, HB.out, HK.out, PB.out, HKS.out⟩
      · have e6 : decide ((i : Int) > 0) = true := decide_eq_true (by omega)
        have e7 : decide ((0 : Int) < (i : Int)) = true := decide_eq_true (by omega)
        have e8 : decide (0 < i) = true := decide_eq_true (by omega)
        have HL := Aside0.mk (show bs.length + 2 + acc.length + 1 + (nm.size + 2) + 1 + (encC x).length ≤ 1000000 from by have h_ := HT.out; rw [if_pos (by omega)] at h_; exact h_)
        have HEN := Aside0.mk (show acc ++ [.int .u8 44] ++ quo nm ++ [.int .u8 58] ++ encC x ++ encM (i + 1) nt' t = encM 0 j.f3 j.f4 from by rw [← hac, ← hi, encM_cons, if_pos (by omega)]; simp only [List.append_assoc])
        clear hdt hnt hac hlen hlen2 hxe c0 c1 c2 c3 c4 hKx hnm hget hxm HT
        have HND := Aside0.mk hnd
        clear hnd hi hi0
        go_upto_region 9 with ((with_reducible refine gate_dst (N := 6) rfl ?_); refine box_event ?hg (N := 6) ?hd (cs := #[.int .i64 0, .int .i64 0, .string ByteArray.empty, .slice none 0 0, .slice none 0 0]) (t := 25) ?hr ?_; (case hd => rfl); (case hg => rfl); (case hr => first | (go_simp; done) | (go_simp; rfl)); intro g6 hg w6 hbox hb; have B6 := Aside0.mk hbox; have NB6 := Aside0.mk (show g6 ≠ b from by rw [hg]; exact Nat.ne_of_gt (isB_lt HI.out)); have NE36 := Aside0.mk (show g3 ≠ g6 from by rw [hg]; exact Nat.ne_of_lt (blk_lt PB.out)); have GE6 := Aside0.mk (show W0.heap.size ≤ g6 from by rw [hg]; exact HB.out.size); have GW6 := Aside0.mk (show w.heap.size ≤ g6 from by rw [hg]; exact HKS.out); have n0_ := Aside0.mk (isB_below HI.out hb); have n1_ := Aside0.mk (below_step HB.out hb); have n2_ := Aside0.mk (HK.out.trans (kept_below b hb)); have n3_ := Aside0.mk (blk_below PB.out hb); have n4_ := Aside0.mk (Nat.le_trans HKS.out hb.size); clear HI HB HK PB HKS; have HI := n0_; have HB := n1_; have HK := n2_; have PB := n3_; have HKS := n4_; clear n0_ n1_ n2_ n3_ n4_; have z0 : w6.cell? ⟨g6, 0, none⟩ = some (.int .i64 0) := (blk_cell B6.out 0).trans rfl; have zf0 := blk_frozen B6.out 0; have z1 : w6.cell? ⟨g6, 1, none⟩ = some (.int .i64 0) := (blk_cell B6.out 1).trans rfl; have zf1 := blk_frozen B6.out 1; have z2 : w6.cell? ⟨g6, 2, none⟩ = some (.string ByteArray.empty) := (blk_cell B6.out 2).trans rfl; have zf2 := blk_frozen B6.out 2; have z3 : w6.cell? ⟨g6, 3, none⟩ = some (.slice none 0 0) := (blk_cell B6.out 3).trans rfl; have zf3 := blk_frozen B6.out 3; have z4 : w6.cell? ⟨g6, 4, none⟩ = some (.slice none 0 0) := (blk_cell B6.out 4).trans rfl; have zf4 := blk_frozen B6.out 4; clear hbox hb hg)
        have n0_ := Aside0.mk (show Lib.IsBuilder 49 5 W0.heap.size b (bs ++ [.int .u8 123] ++ acc) (((((w6.setCell ⟨g6, 0, none⟩ (.int .i64 x.f0)).setCell ⟨g6, 1, none⟩ (.int .i64 x.f1)).setCell ⟨g6, 2, none⟩ (.string x.f2)).setCell ⟨g6, 3, none⟩ (.slice An2 x.f3.length cn2)).setCell ⟨g6, 4, none⟩ (.slice Ae2 x.f4.length ce2)) from isB_far5 HI.out B6.out)
        have n1_ := Aside0.mk (show Below W0.heap.size W0 (((((w6.setCell ⟨g6, 0, none⟩ (.int .i64 x.f0)).setCell ⟨g6, 1, none⟩ (.int .i64 x.f1)).setCell ⟨g6, 2, none⟩ (.string x.f2)).setCell ⟨g6, 3, none⟩ (.slice An2 x.f3.length cn2)).setCell ⟨g6, 4, none⟩ (.slice Ae2 x.f4.length ce2)) from (below_put (below_put (below_put (below_put (below_put HB.out GE6.out) GE6.out) GE6.out) GE6.out) GE6.out))
        have n2_ := Aside0.mk (show Bl.Kept b w (((((w6.setCell ⟨g6, 0, none⟩ (.int .i64 x.f0)).setCell ⟨g6, 1, none⟩ (.int .i64 x.f1)).setCell ⟨g6, 2, none⟩ (.string x.f2)).setCell ⟨g6, 3, none⟩ (.slice An2 x.f3.length cn2)).setCell ⟨g6, 4, none⟩ (.slice Ae2 x.f4.length ce2)) from (kept_put (kept_put (kept_put (kept_put (kept_put HK.out GW6.out) GW6.out) GW6.out) GW6.out) GW6.out))
        have n3_ := Aside0.mk (show (((((w6.setCell ⟨g6, 0, none⟩ (.int .i64 x.f0)).setCell ⟨g6, 1, none⟩ (.int .i64 x.f1)).setCell ⟨g6, 2, none⟩ (.string x.f2)).setCell ⟨g6, 3, none⟩ (.slice An2 x.f3.length cn2)).setCell ⟨g6, 4, none⟩ (.slice Ae2 x.f4.length ce2)).heap[g3]? = some (.cells #[.int .i64 5, .int .i64 nu, .string tx, .slice (some adn) m cn, .slice (some ad) k ce] 25 (0, 0)) from (far_ (far_ (far_ (far_ (far_ PB.out NE36.out) NE36.out) NE36.out) NE36.out) NE36.out))
        have n4_ := Aside0.mk (show (((((w6.setCell ⟨g6, 0, none⟩ (.int .i64 x.f0)).setCell ⟨g6, 1, none⟩ (.int .i64 x.f1)).setCell ⟨g6, 2, none⟩ (.string x.f2)).setCell ⟨g6, 3, none⟩ (.slice An2 x.f3.length cn2)).setCell ⟨g6, 4, none⟩ (.slice Ae2 x.f4.length ce2)).heap[g6]? = some (.cells #[.int .i64 x.f0, .int .i64 x.f1, .string x.f2, .slice An2 x.f3.length cn2, .slice Ae2 x.f4.length ce2] 25 (0, 0)) from by refine blk_put (cs := #[.int .i64 x.f0, .int .i64 x.f1, .string x.f2, .slice An2 x.f3.length cn2, .slice none 0 0]) ?_ 4 _ rfl; refine blk_put (cs := #[.int .i64 x.f0, .int .i64 x.f1, .string x.f2, .slice none 0 0, .slice none 0 0]) ?_ 3 _ rfl; refine blk_put (cs := #[.int .i64 x.f0, .int .i64 x.f1, .string ByteArray.empty, .slice none 0 0, .slice none 0 0]) ?_ 2 _ rfl; refine blk_put (cs := #[.int .i64 x.f0, .int .i64 0, .string ByteArray.empty, .slice none 0 0, .slice none 0 0]) ?_ 1 _ rfl; refine blk_put (cs := #[.int .i64 0, .int .i64 0, .string ByteArray.empty, .slice none 0 0, .slice none 0 0]) ?_ 0 _ rfl; exact B6.out)
        have n5_ := Aside0.mk (show w.heap.size ≤ (((((w6.setCell ⟨g6, 0, none⟩ (.int .i64 x.f0)).setCell ⟨g6, 1, none⟩ (.int .i64 x.f1)).setCell ⟨g6, 2, none⟩ (.string x.f2)).setCell ⟨g6, 3, none⟩ (.slice An2 x.f3.length cn2)).setCell ⟨g6, 4, none⟩ (.slice Ae2 x.f4.length ce2)).heap.size from by simp only [World.size_setCell]; exact HKS.out)
        clear HI HB HK PB B6 HKS z0 z1 z2 z3 z4 zf0 zf1 zf2 zf3 zf4 q0 q3 nmf p0 p1 p2 p3 p4
        have HI := n0_
        have HB := n1_
        have HK := n2_
        have PB := n3_
        have B6 := n4_
        have HKS := n5_
        clear n0_ n1_ n2_ n3_ n4_ n5_
        generalize (((((w6.setCell ⟨g6, 0, none⟩ (.int .i64 x.f0)).setCell ⟨g6, 1, none⟩ (.int .i64 x.f1)).setCell ⟨g6, 2, none⟩ (.string x.f2)).setCell ⟨g6, 3, none⟩ (.slice An2 x.f3.length cn2)).setCell ⟨g6, 4, none⟩ (.slice Ae2 x.f4.length ce2)) = w65 at HI HB HK PB B6 HKS ⊢
        (try clear q0 q1 q2 q3 q4)
        have q0 : w65.cell? ⟨g3, 0, none⟩ = some (.int .i64 5) := (blk_cell PB.out 0).trans rfl
        have q1 : w65.cell? ⟨g3, 1, none⟩ = some (.int .i64 nu) := (blk_cell PB.out 1).trans rfl
        have q2 : w65.cell? ⟨g3, 2, none⟩ = some (.string tx) := (blk_cell PB.out 2).trans rfl
        have q3 : w65.cell? ⟨g3, 3, none⟩ = some (.slice (some adn) m cn) := (blk_cell PB.out 3).trans rfl
        have q4 : w65.cell? ⟨g3, 4, none⟩ = some (.slice (some ad) k ce) := (blk_cell PB.out 4).trans rfl
        (try clear y0 y1 y2 y3 y4)
        have y0 : w65.cell? ⟨g6, 0, none⟩ = some (.int .i64 x.f0) := (blk_cell B6.out 0).trans rfl
        have y1 : w65.cell? ⟨g6, 1, none⟩ = some (.int .i64 x.f1) := (blk_cell B6.out 1).trans rfl
        have y2 : w65.cell? ⟨g6, 2, none⟩ = some (.string x.f2) := (blk_cell B6.out 2).trans rfl
        have y3 : w65.cell? ⟨g6, 3, none⟩ = some (.slice An2 x.f3.length cn2) := (blk_cell B6.out 3).trans rfl
        have y4 : w65.cell? ⟨g6, 4, none⟩ = some (.slice Ae2 x.f4.length ce2) := (blk_cell B6.out 4).trans rfl
        (try clear nmf)
        have nmf := HNM.out _ HB.out
        go_upto_region 12 with (first | (go_at_call 50; refine (Bl.writeByte W0.heap.size b (bs ++ [.int .u8 123] ++ acc) 44 _ (HI.out) (by have h_ := HL.out; (try simp only [List.length_append, List.length_cons, List.length_nil, quo_len, Bl.cs_len]); omega) (HB.out.size)).mono ?_; rintro e_ w8 ⟨rfl, hi_, hb_, hk_⟩; have n0_ := Aside0.mk (show Lib.IsBuilder 49 5 W0.heap.size b _ w8 from Or.inr hi_); have n1_ := Aside0.mk (HB.out.trans hb_); have n2_ := Aside0.mk (HK.out.trans hk_); have n3_ := Aside0.mk (hk_ g3 _ _ (by decide) NB.out (PB.out)); have n5_ := Aside0.mk (Nat.le_trans HKS.out hb_.size); have n4_ := Aside0.mk (hk_ g6 _ _ (by decide) NB6.out B6.out); clear B6; have B6 := n4_; clear n4_; clear HI HB HK PB HKS hi_ hb_ hk_; have HI := n0_; have HB := n1_; have HK := n2_; have PB := n3_; have HKS := n5_; clear n0_ n1_ n2_ n3_ n5_; (try clear q0 q1 q2 q3 q4); have q0 : w8.cell? ⟨g3, 0, none⟩ = some (.int .i64 5) := (blk_cell PB.out 0).trans rfl; have q1 : w8.cell? ⟨g3, 1, none⟩ = some (.int .i64 nu) := (blk_cell PB.out 1).trans rfl; have q2 : w8.cell? ⟨g3, 2, none⟩ = some (.string tx) := (blk_cell PB.out 2).trans rfl; have q3 : w8.cell? ⟨g3, 3, none⟩ = some (.slice (some adn) m cn) := (blk_cell PB.out 3).trans rfl; have q4 : w8.cell? ⟨g3, 4, none⟩ = some (.slice (some ad) k ce) := (blk_cell PB.out 4).trans rfl; (try clear y0 y1 y2 y3 y4); have y0 : w8.cell? ⟨g6, 0, none⟩ = some (.int .i64 x.f0) := (blk_cell B6.out 0).trans rfl; have y1 : w8.cell? ⟨g6, 1, none⟩ = some (.int .i64 x.f1) := (blk_cell B6.out 1).trans rfl; have y2 : w8.cell? ⟨g6, 2, none⟩ = some (.string x.f2) := (blk_cell B6.out 2).trans rfl; have y3 : w8.cell? ⟨g6, 3, none⟩ = some (.slice An2 x.f3.length cn2) := (blk_cell B6.out 3).trans rfl; have y4 : w8.cell? ⟨g6, 4, none⟩ = some (.slice Ae2 x.f4.length ce2) := (blk_cell B6.out 4).trans rfl; (try clear nmf); have nmf := HNM.out _ HB.out) | (go_at_call 35; refine (encodeString_says (nm) HPL.out W0.heap.size b (bs ++ [.int .u8 123] ++ acc ++ [.int .u8 44]) _ (HI.out) (by have h_ := HL.out; (try simp only [List.length_append, List.length_cons, List.length_nil, quo_len, Bl.cs_len]); omega) (HB.out.size)).mono ?_; rintro e_ w9 ⟨rfl, hi_, hb_, hk_⟩; have n0_ := Aside0.mk (show Lib.IsBuilder 49 5 W0.heap.size b _ w9 from hi_); have n1_ := Aside0.mk (HB.out.trans hb_); have n2_ := Aside0.mk (HK.out.trans hk_); have n3_ := Aside0.mk (hk_ g3 _ _ (by decide) NB.out (PB.out)); have n5_ := Aside0.mk (Nat.le_trans HKS.out hb_.size); have n4_ := Aside0.mk (hk_ g6 _ _ (by decide) NB6.out B6.out); clear B6; have B6 := n4_; clear n4_; clear HI HB HK PB HKS hi_ hb_ hk_; have HI := n0_; have HB := n1_; have HK := n2_; have PB := n3_; have HKS := n5_; clear n0_ n1_ n2_ n3_ n5_; (try clear q0 q1 q2 q3 q4); have q0 : w9.cell? ⟨g3, 0, none⟩ = some (.int .i64 5) := (blk_cell PB.out 0).trans rfl; have q1 : w9.cell? ⟨g3, 1, none⟩ = some (.int .i64 nu) := (blk_cell PB.out 1).trans rfl; have q2 : w9.cell? ⟨g3, 2, none⟩ = some (.string tx) := (blk_cell PB.out 2).trans rfl; have q3 : w9.cell? ⟨g3, 3, none⟩ = some (.slice (some adn) m cn) := (blk_cell PB.out 3).trans rfl; have q4 : w9.cell? ⟨g3, 4, none⟩ = some (.slice (some ad) k ce) := (blk_cell PB.out 4).trans rfl; (try clear y0 y1 y2 y3 y4); have y0 : w9.cell? ⟨g6, 0, none⟩ = some (.int .i64 x.f0) := (blk_cell B6.out 0).trans rfl; have y1 : w9.cell? ⟨g6, 1, none⟩ = some (.int .i64 x.f1) := (blk_cell B6.out 1).trans rfl; have y2 : w9.cell? ⟨g6, 2, none⟩ = some (.string x.f2) := (blk_cell B6.out 2).trans rfl; have y3 : w9.cell? ⟨g6, 3, none⟩ = some (.slice An2 x.f3.length cn2) := (blk_cell B6.out 3).trans rfl; have y4 : w9.cell? ⟨g6, 4, none⟩ = some (.slice Ae2 x.f4.length ce2) := (blk_cell B6.out 4).trans rfl; (try clear nmf); have nmf := HNM.out _ HB.out))
        go_wp2_with (first | (go_at_call 50; refine (Bl.writeByte W0.heap.size b (bs ++ [.int .u8 123] ++ acc ++ [.int .u8 44] ++ quo nm) 58 _ (HI.out) (by have h_ := HL.out; (try simp only [List.length_append, List.length_cons, List.length_nil, quo_len, Bl.cs_len]); omega) (HB.out.size)).mono ?_; rintro e_ w10 ⟨rfl, hi_, hb_, hk_⟩; have n0_ := Aside0.mk (show Lib.IsBuilder 49 5 W0.heap.size b _ w10 from Or.inr hi_); have n1_ := Aside0.mk (HB.out.trans hb_); have n2_ := Aside0.mk (HK.out.trans hk_); have n3_ := Aside0.mk (hk_ g3 _ _ (by decide) NB.out (PB.out)); have n5_ := Aside0.mk (Nat.le_trans HKS.out hb_.size); have n4_ := Aside0.mk (hk_ g6 _ _ (by decide) NB6.out B6.out); clear B6; have B6 := n4_; clear n4_; clear HI HB HK PB HKS hi_ hb_ hk_; have HI := n0_; have HB := n1_; have HK := n2_; have PB := n3_; have HKS := n5_; clear n0_ n1_ n2_ n3_ n5_; (try clear q0 q1 q2 q3 q4); have q0 : w10.cell? ⟨g3, 0, none⟩ = some (.int .i64 5) := (blk_cell PB.out 0).trans rfl; have q1 : w10.cell? ⟨g3, 1, none⟩ = some (.int .i64 nu) := (blk_cell PB.out 1).trans rfl; have q2 : w10.cell? ⟨g3, 2, none⟩ = some (.string tx) := (blk_cell PB.out 2).trans rfl; have q3 : w10.cell? ⟨g3, 3, none⟩ = some (.slice (some adn) m cn) := (blk_cell PB.out 3).trans rfl; have q4 : w10.cell? ⟨g3, 4, none⟩ = some (.slice (some ad) k ce) := (blk_cell PB.out 4).trans rfl; (try clear y0 y1 y2 y3 y4); have y0 : w10.cell? ⟨g6, 0, none⟩ = some (.int .i64 x.f0) := (blk_cell B6.out 0).trans rfl; have y1 : w10.cell? ⟨g6, 1, none⟩ = some (.int .i64 x.f1) := (blk_cell B6.out 1).trans rfl; have y2 : w10.cell? ⟨g6, 2, none⟩ = some (.string x.f2) := (blk_cell B6.out 2).trans rfl; have y3 : w10.cell? ⟨g6, 3, none⟩ = some (.slice An2 x.f3.length cn2) := (blk_cell B6.out 3).trans rfl; have y4 : w10.cell? ⟨g6, 4, none⟩ = some (.slice Ae2 x.f4.length ce2) := (blk_cell B6.out 4).trans rfl; (try clear nmf); have nmf := HNM.out _ HB.out) | (go_at_call 21; refine (IH.out b _ _ HB.out HI.out (by have h_ := HL.out; (try simp only [List.length_append, List.length_cons, List.length_nil, quo_len, Bl.cs_len]); omega)).mono ?_; rintro e_ w11 ⟨rfl, hi_, hb_, hk_, hs_⟩; have n0_ := Aside0.mk (show Lib.IsBuilder 49 5 W0.heap.size b _ w11 from hi_); have n1_ := Aside0.mk (hb_); have n2_ := Aside0.mk (HK.out.trans hk_); have n3_ := Aside0.mk (hk_ g3 _ _ (by decide) NB.out (PB.out)); have n5_ := Aside0.mk (Nat.le_trans HKS.out hs_); have n4_ := Aside0.mk (hk_ g6 _ _ (by decide) NB6.out B6.out); clear B6; have B6 := n4_; clear n4_; clear HI HB HK PB HKS hi_ hb_ hk_ hs_; have HI := n0_; have HB := n1_; have HK := n2_; have PB := n3_; have HKS := n5_; clear n0_ n1_ n2_ n3_ n5_; skip))
        go_roundg t.length
        case measure => exact Nat.lt_succ_self _
        case rel => exact ⟨dn ++ [x], t, nd ++ [nm], nt', acc ++ [.int .u8 44] ++ quo nm ++ [.int .u8 58] ++ encC x, by rw [HDT.out]; simp, by rw [HNT.out]; simp, by rw [List.length_append, List.length_append, HND.out]; rfl, rfl, congrArg (Value.int .i64) (by have h_ := HKB.out; have h2_ := HII.out; rw [List.length_append]; simp only [List.length_cons, List.length_nil]; unfold wrap64; omega), by rw [List.length_append, ← HII.out]; exact HEN.out, by simp only [← List.append_assoc]; exact HI.out, HB.out, HK.out, PB.out, HKS.out⟩

set_option maxHeartbeats 8000000 in
set_option maxRecDepth 100000 in
theorem encode_step (n : Nat) (ih : EncSays n) : EncSays (n + 1) := by
  intro j W0 An cn Ae ce b bs w hsz hK hp hW hI hl
  have hu25 := Tryd.underlying25
  have hpl := (pl_eq j).1 hp
  have EL := Aside0.mk (show j.f0 = 5 → ∀ w', Below W0.heap.size W0 w' → Lib.IsBuilder 49 5 W0.heap.size b bs w' → Calls Tryd.prog 36 #[.pointer (some ⟨b, 0, none⟩), .agg #[.int .i64 j.f0, .int .i64 j.f1, .string j.f2, .slice An j.f3.length cn, .slice Ae j.f4.length ce]] w' fun e w'' => e = .returned (.tuple #[]) ∧ Lib.IsBuilder 49 5 W0.heap.size b (bs ++ encC j) w'' ∧ Below W0.heap.size W0 w'' ∧ Bl.Kept b w' w'' ∧ w'.heap.size ≤ w''.heap.size from fun h5 w' h1 h2 => elements_step n ih j W0 An cn Ae ce b bs w' hsz hK hp h5 h1 h2 hl)
  have HEC := Aside0.mk (encC_eq j)
  have HLL := Aside0.mk hl
  have HI := Aside0.mk hI
  have HB := Aside0.mk hW
  have HK := Aside0.mk (Bl.Kept.refl b w)
  obtain ⟨kd, hkd⟩ : ∃ kd, j.f0 = kd := ⟨_, rfl⟩
  obtain ⟨nu, hnu⟩ : ∃ nu, j.f1 = nu := ⟨_, rfl⟩
  obtain ⟨tx, htx⟩ : ∃ tx, j.f2 = tx := ⟨_, rfl⟩
  obtain ⟨k, hk⟩ : ∃ k, j.f4.length = k := ⟨_, rfl⟩
  obtain ⟨m, hm⟩ : ∃ m, j.f3.length = m := ⟨_, rfl⟩
  rw [hkd, hnu, htx, hk, hm] at EL
  rw [hkd, htx] at HEC
  have hp1 := hpl.1
  rw [hkd, hnu, htx] at hp1
  rw [hkd, hnu, htx, hk, hm]
  clear hsz hK hp hW hI hl hpl hkd hnu htx hk hm
  rcases hp1 with rfl | ⟨rfl, rfl⟩ | ⟨rfl, hpt⟩ | ⟨rfl, _⟩
  · clear EL
    rw [HEC.out, if_pos rfl]
    have HL := Aside0.mk (show bs.length + 4 ≤ 1000000 from by have h_ := HLL.out; rw [HEC.out, if_pos rfl, Lib.strCells_length] at h_; exact h_)
    clear HLL HEC
    go_enter Tryd.func21, Tryd.ntmps21
    go_wp2_with (first | ((with_reducible refine gate_dst (N := 3) rfl ?_); refine box_event ?hg (N := 3) ?hd (cs := #[.int .i64 (0 : Int), .int .i64 nu, .string tx, .slice An m cn, .slice Ae k ce]) (t := 25) ?hr ?_; (case hd => rfl); (case hg => rfl); (case hr => first | (go_simp; done) | (go_simp; rfl)); intro g3 hg w3 hbox hb; have PB := Aside0.mk hbox; have NB := Aside0.mk (show g3 ≠ b from by rw [hg]; exact Nat.ne_of_gt (isB_lt HI.out)); have GE3 := Aside0.mk (show w.heap.size ≤ g3 from by rw [hg]; exact Nat.le_refl _); have n0_ := Aside0.mk (isB_below HI.out hb); have n1_ := Aside0.mk (below_step HB.out hb); have n2_ := Aside0.mk (kept_below b hb); have HKS := Aside0.mk (show w.heap.size ≤ w3.heap.size from hb.size); clear HI HB HK; have HI := n0_; have HB := n1_; have HK := n2_; clear n0_ n1_ n2_; (try clear q0 q1 q2 q3 q4); have q0 : w3.cell? ⟨g3, 0, none⟩ = some (.int .i64 (0 : Int)) := (blk_cell PB.out 0).trans rfl; have q1 : w3.cell? ⟨g3, 1, none⟩ = some (.int .i64 nu) := (blk_cell PB.out 1).trans rfl; have q2 : w3.cell? ⟨g3, 2, none⟩ = some (.string tx) := (blk_cell PB.out 2).trans rfl; have q3 : w3.cell? ⟨g3, 3, none⟩ = some (.slice An m cn) := (blk_cell PB.out 3).trans rfl; have q4 : w3.cell? ⟨g3, 4, none⟩ = some (.slice Ae k ce) := (blk_cell PB.out 4).trans rfl; clear hbox hb hg) | (go_at_call 32; refine (Bl.writeString W0.heap.size b bs ⟨#[110, 117, 108, 108]⟩ _ (HI.out) (by have h_ := HL.out; show bs.length + 4 ≤ _; omega) (HB.out.size)).mono ?_; rintro e_ w9 ⟨rfl, hi_, hb_, hk_⟩; have n0_ := Aside0.mk (show Lib.IsBuilder 49 5 W0.heap.size b _ w9 from Or.inr hi_); have n1_ := Aside0.mk (HB.out.trans hb_); have n2_ := Aside0.mk (HK.out.trans hk_); have n3_ := Aside0.mk (hk_ g3 _ _ (by decide) NB.out (PB.out)); have n5_ := Aside0.mk (Nat.le_trans HKS.out hb_.size); clear HI HB HK PB HKS hi_ hb_ hk_; have HI := n0_; have HB := n1_; have HK := n2_; have PB := n3_; have HKS := n5_; clear n0_ n1_ n2_ n3_ n5_; skip))
    go_end0
    exact ⟨rfl, HI.out, HB.out, HK.out, HKS.out⟩
  · clear EL
    rw [HEC.out, if_neg (by decide), if_pos rfl]
    have HL := Aside0.mk (show bs.length + 1 ≤ 1000000 from by have h_ := HLL.out; rw [HEC.out, if_neg (by decide), if_pos rfl, Lib.strCells_length] at h_; exact h_)
    clear HLL HEC
    go_enter Tryd.func21, Tryd.ntmps21
    go_wp2_with (first | ((with_reducible refine gate_dst (N := 3) rfl ?_); refine box_event ?hg (N := 3) ?hd (cs := #[.int .i64 (2 : Int), .int .i64 (1 : Int), .string tx, .slice An m cn, .slice Ae k ce]) (t := 25) ?hr ?_; (case hd => rfl); (case hg => rfl); (case hr => first | (go_simp; done) | (go_simp; rfl)); intro g3 hg w3 hbox hb; have PB := Aside0.mk hbox; have NB := Aside0.mk (show g3 ≠ b from by rw [hg]; exact Nat.ne_of_gt (isB_lt HI.out)); have GE3 := Aside0.mk (show w.heap.size ≤ g3 from by rw [hg]; exact Nat.le_refl _); have n0_ := Aside0.mk (isB_below HI.out hb); have n1_ := Aside0.mk (below_step HB.out hb); have n2_ := Aside0.mk (kept_below b hb); have HKS := Aside0.mk (show w.heap.size ≤ w3.heap.size from hb.size); clear HI HB HK; have HI := n0_; have HB := n1_; have HK := n2_; clear n0_ n1_ n2_; (try clear q0 q1 q2 q3 q4); have q0 : w3.cell? ⟨g3, 0, none⟩ = some (.int .i64 (2 : Int)) := (blk_cell PB.out 0).trans rfl; have q1 : w3.cell? ⟨g3, 1, none⟩ = some (.int .i64 (1 : Int)) := (blk_cell PB.out 1).trans rfl; have q2 : w3.cell? ⟨g3, 2, none⟩ = some (.string tx) := (blk_cell PB.out 2).trans rfl; have q3 : w3.cell? ⟨g3, 3, none⟩ = some (.slice An m cn) := (blk_cell PB.out 3).trans rfl; have q4 : w3.cell? ⟨g3, 4, none⟩ = some (.slice Ae k ce) := (blk_cell PB.out 4).trans rfl; clear hbox hb hg) | (go_at_call 34; refine (Bl.itoa1 _).mono ?_; rintro e_ w_ ⟨rfl, rfl⟩) | (go_at_call 32; refine (Bl.writeString W0.heap.size b bs ⟨#[49]⟩ _ (HI.out) (by have h_ := HL.out; show bs.length + 1 ≤ _; omega) (HB.out.size)).mono ?_; rintro e_ w9 ⟨rfl, hi_, hb_, hk_⟩; have n0_ := Aside0.mk (show Lib.IsBuilder 49 5 W0.heap.size b _ w9 from Or.inr hi_); have n1_ := Aside0.mk (HB.out.trans hb_); have n2_ := Aside0.mk (HK.out.trans hk_); have n3_ := Aside0.mk (hk_ g3 _ _ (by decide) NB.out (PB.out)); have n5_ := Aside0.mk (Nat.le_trans HKS.out hb_.size); clear HI HB HK PB HKS hi_ hb_ hk_; have HI := n0_; have HB := n1_; have HK := n2_; have PB := n3_; have HKS := n5_; clear n0_ n1_ n2_ n3_ n5_; skip))
    go_end0
    exact ⟨rfl, HI.out, HB.out, HK.out, HKS.out⟩
  · clear EL
    rw [HEC.out, if_neg (by decide), if_neg (by decide), if_pos rfl]
    have HPL := Aside0.mk hpt
    have HL := Aside0.mk (show bs.length + (tx.size + 2) ≤ 1000000 from by have h_ := HLL.out; rw [HEC.out, if_neg (by decide), if_neg (by decide), if_pos rfl, quo_len] at h_; exact h_)
    clear HLL HEC hpt
    go_enter Tryd.func21, Tryd.ntmps21
    go_wp2_with (first | ((with_reducible refine gate_dst (N := 3) rfl ?_); refine box_event ?hg (N := 3) ?hd (cs := #[.int .i64 (3 : Int), .int .i64 nu, .string tx, .slice An m cn, .slice Ae k ce]) (t := 25) ?hr ?_; (case hd => rfl); (case hg => rfl); (case hr => first | (go_simp; done) | (go_simp; rfl)); intro g3 hg w3 hbox hb; have PB := Aside0.mk hbox; have NB := Aside0.mk (show g3 ≠ b from by rw [hg]; exact Nat.ne_of_gt (isB_lt HI.out)); have GE3 := Aside0.mk (show w.heap.size ≤ g3 from by rw [hg]; exact Nat.le_refl _); have n0_ := Aside0.mk (isB_below HI.out hb); have n1_ := Aside0.mk (below_step HB.out hb); have n2_ := Aside0.mk (kept_below b hb); have HKS := Aside0.mk (show w.heap.size ≤ w3.heap.size from hb.size); clear HI HB HK; have HI := n0_; have HB := n1_; have HK := n2_; clear n0_ n1_ n2_; (try clear q0 q1 q2 q3 q4); have q0 : w3.cell? ⟨g3, 0, none⟩ = some (.int .i64 (3 : Int)) := (blk_cell PB.out 0).trans rfl; have q1 : w3.cell? ⟨g3, 1, none⟩ = some (.int .i64 nu) := (blk_cell PB.out 1).trans rfl; have q2 : w3.cell? ⟨g3, 2, none⟩ = some (.string tx) := (blk_cell PB.out 2).trans rfl; have q3 : w3.cell? ⟨g3, 3, none⟩ = some (.slice An m cn) := (blk_cell PB.out 3).trans rfl; have q4 : w3.cell? ⟨g3, 4, none⟩ = some (.slice Ae k ce) := (blk_cell PB.out 4).trans rfl; clear hbox hb hg) | (go_at_call 35; refine (encodeString_says (tx) HPL.out W0.heap.size b (bs) _ (HI.out) (by have h_ := HL.out; (try simp only [List.length_append, List.length_cons, List.length_nil, quo_len, Bl.cs_len]); omega) (HB.out.size)).mono ?_; rintro e_ w9 ⟨rfl, hi_, hb_, hk_⟩; have n0_ := Aside0.mk (show Lib.IsBuilder 49 5 W0.heap.size b _ w9 from hi_); have n1_ := Aside0.mk (HB.out.trans hb_); have n2_ := Aside0.mk (HK.out.trans hk_); have n3_ := Aside0.mk (hk_ g3 _ _ (by decide) NB.out (PB.out)); have n5_ := Aside0.mk (Nat.le_trans HKS.out hb_.size); clear HI HB HK PB HKS hi_ hb_ hk_; have HI := n0_; have HB := n1_; have HK := n2_; have PB := n3_; have HKS := n5_; clear n0_ n1_ n2_ n3_ n5_; skip))
    go_end0
    exact ⟨rfl, HI.out, HB.out, HK.out, HKS.out⟩
  · replace EL := Aside0.mk (EL.out rfl)
    clear HLL HEC
    go_enter Tryd.func21, Tryd.ntmps21
    go_wp2_with (first | ((with_reducible refine gate_dst (N := 3) rfl ?_); refine box_event ?hg (N := 3) ?hd (cs := #[.int .i64 (5 : Int), .int .i64 nu, .string tx, .slice An m cn, .slice Ae k ce]) (t := 25) ?hr ?_; (case hd => rfl); (case hg => rfl); (case hr => first | (go_simp; done) | (go_simp; rfl)); intro g3 hg w3 hbox hb; have PB := Aside0.mk hbox; have NB := Aside0.mk (show g3 ≠ b from by rw [hg]; exact Nat.ne_of_gt (isB_lt HI.out)); have GE3 := Aside0.mk (show w.heap.size ≤ g3 from by rw [hg]; exact Nat.le_refl _); have n0_ := Aside0.mk (isB_below HI.out hb); have n1_ := Aside0.mk (below_step HB.out hb); have n2_ := Aside0.mk (kept_below b hb); have HKS := Aside0.mk (show w.heap.size ≤ w3.heap.size from hb.size); clear HI HB HK; have HI := n0_; have HB := n1_; have HK := n2_; clear n0_ n1_ n2_; (try clear q0 q1 q2 q3 q4); have q0 : w3.cell? ⟨g3, 0, none⟩ = some (.int .i64 (5 : Int)) := (blk_cell PB.out 0).trans rfl; have q1 : w3.cell? ⟨g3, 1, none⟩ = some (.int .i64 nu) := (blk_cell PB.out 1).trans rfl; have q2 : w3.cell? ⟨g3, 2, none⟩ = some (.string tx) := (blk_cell PB.out 2).trans rfl; have q3 : w3.cell? ⟨g3, 3, none⟩ = some (.slice An m cn) := (blk_cell PB.out 3).trans rfl; have q4 : w3.cell? ⟨g3, 4, none⟩ = some (.slice Ae k ce) := (blk_cell PB.out 4).trans rfl; clear hbox hb hg) | (go_at_call 36; refine (EL.out _ HB.out HI.out).mono ?_; rintro e_ w9 ⟨rfl, hi_, hb_, hk_, hs_⟩; have n0_ := Aside0.mk hi_; have n1_ := Aside0.mk hb_; have n2_ := Aside0.mk (HK.out.trans hk_); have n3_ := Aside0.mk (Nat.le_trans HKS.out hs_); clear HI HB HK HKS hi_ hb_ hk_ hs_; have HI := n0_; have HB := n1_; have HK := n2_; have HKS := n3_; clear n0_ n1_ n2_ n3_))
    go_end0
    exact ⟨rfl, HI.out, HB.out, HK.out, HKS.out⟩
theorem encode_says : ∀ n, EncSays n
  | 0 => fun _ _ _ _ _ _ _ _ _ h => absurd h (Nat.not_lt_zero _)
  | n + 1 => encode_step n (encode_says n)
theorem len_ (B b : Nat) (bs : List Value) (w : World) (h : Lib.IsBuilder 49 5 B b bs w) : Calls Tryd.prog 22 #[.pointer (some ⟨b, 0, none⟩)] w fun e w' => e = .returned (.int .i64 (bs.length : Int)) ∧ w' = w := by
  rcases h with h | h
  · exact Bl.len B b _ bs w h
  · exact Bl.len B b _ bs w h
set_option maxHeartbeats 8000000 in
set_option maxRecDepth 100000 in
theorem Encode_says (j : S25) (l : List UInt8) (An : Option Addr) (cn : Nat) (Ae : Option Addr) (ce : Nat) (w : World) (hK : k25.K w j [.int .i64 j.f0, .int .i64 j.f1, .string j.f2, .slice An j.f3.length cn, .slice Ae j.f4.length ce]) (hp : pl j) (hs : szd j) (hv : valid j = 0) (hT : Ts w) (hl : encC j = Lib.byteCells l) (hll : l.length ≤ 4000) :
    Calls Tryd.prog 12 #[.agg #[.int .i64 j.f0, .int .i64 j.f1, .string j.f2, .slice An j.f3.length cn, .slice Ae j.f4.length ce]] w fun e w' => e = .returned (.tuple #[.string ⟨l.toArray⟩, .int .i64 0]) ∧ Below w.heap.size w w' := by
  have hu25 := Tryd.underlying25
  have hbl : (Lib.byteCells l).length = l.length := Lib.byteCells_length l
  have VA := Aside0.mk (show ∀ w', Below w.heap.size w w' → Calls Tryd.prog 8 #[.agg #[.int .i64 j.f0, .int .i64 j.f1, .string j.f2, .slice An j.f3.length cn, .slice Ae j.f4.length ce]] w' fun e w'' => e = .returned (.int .i64 0) ∧ Below w'.heap.size w' w'' from fun w' h => by
    have h_ := Validate_says j w' An cn Ae ce w' (k25.K_below h hK) hs (hT.below h) (Below.refl _ _)
    rw [hv] at h_
    exact h_)
  have EN := Aside0.mk (show ∀ b w', Below w.heap.size w w' → Lib.IsBuilder 49 5 w.heap.size b [] w' → Calls Tryd.prog 21 #[.pointer (some ⟨b, 0, none⟩), .agg #[.int .i64 j.f0, .int .i64 j.f1, .string j.f2, .slice An j.f3.length cn, .slice Ae j.f4.length ce]] w' fun e w'' => e = .returned (.tuple #[]) ∧ Lib.IsBuilder 49 5 w.heap.size b (Lib.byteCells l) w'' ∧ Below w.heap.size w w'' from fun b w' h1 h2 =>
    (encode_says _ j w An cn Ae ce b [] w' (Nat.lt_succ_self _) hK hp h1 h2 (by rw [hl, hbl]; show 0 + l.length ≤ _; omega)).mono fun e w'' h_ => ⟨h_.1, by rw [← hl]; exact h_.2.1, h_.2.2.1⟩)
  obtain ⟨k, hk⟩ : ∃ k, j.f4.length = k := ⟨_, rfl⟩
  obtain ⟨m, hm⟩ : ∃ m, j.f3.length = m := ⟨_, rfl⟩
  rw [hk, hm] at VA EN ⊢
  have HLL := Aside0.mk hll
  have HBL := Aside0.mk hbl
  obtain ⟨q, hq⟩ : ∃ q, l.length = q := ⟨_, rfl⟩
  have HQ := Aside0.mk hq
  have e4 : decide ((q : Int) > 4000) = false := decide_eq_false (by omega)
  have e5 : decide ((4000 : Int) < (q : Int)) = false := decide_eq_false (by omega)
  clear hK hp hs hv hT hl hll hbl hk hm hq
  have HB := Aside0.mk (Below.refl w.heap.size w)
  go_enter Tryd.func12, Tryd.ntmps12
  go_wp2_with (first | ((with_reducible refine gate_dst (N := 1) rfl ?_); refine box_event ?hg (N := 1) ?hd (cs := #[.int .i64 j.f0, .int .i64 j.f1, .string j.f2, .slice An m cn, .slice Ae k ce]) (t := 25) ?hr ?_; (case hd => rfl); (case hg => rfl); (case hr => first | (go_simp; done) | (go_simp; rfl)); intro g1 hg w1 hbox hb; have PB := Aside0.mk hbox; have n0_ := Aside0.mk (below_step HB.out hb); clear HB; have HB := n0_; clear n0_; (try clear q0 q1 q2 q3 q4); have q0 : w1.cell? ⟨g1, 0, none⟩ = some (.int .i64 j.f0) := (blk_cell PB.out 0).trans rfl; have q1 : w1.cell? ⟨g1, 1, none⟩ = some (.int .i64 j.f1) := (blk_cell PB.out 1).trans rfl; have q2 : w1.cell? ⟨g1, 2, none⟩ = some (.string j.f2) := (blk_cell PB.out 2).trans rfl; have q3 : w1.cell? ⟨g1, 3, none⟩ = some (.slice An m cn) := (blk_cell PB.out 3).trans rfl; have q4 : w1.cell? ⟨g1, 4, none⟩ = some (.slice Ae k ce) := (blk_cell PB.out 4).trans rfl; clear hbox hb hg) | (go_at_call 8; refine (VA.out _ HB.out).mono ?_; rintro e_ w7 ⟨rfl, hb⟩; have n0_ := Aside0.mk (below_step HB.out hb); have n1_ := Aside0.mk (blk_below PB.out hb); clear HB PB hb; have HB := n0_; have PB := n1_; clear n0_ n1_; (try clear q0 q1 q2 q3 q4); have q0 : w7.cell? ⟨g1, 0, none⟩ = some (.int .i64 j.f0) := (blk_cell PB.out 0).trans rfl; have q1 : w7.cell? ⟨g1, 1, none⟩ = some (.int .i64 j.f1) := (blk_cell PB.out 1).trans rfl; have q2 : w7.cell? ⟨g1, 2, none⟩ = some (.string j.f2) := (blk_cell PB.out 2).trans rfl; have q3 : w7.cell? ⟨g1, 3, none⟩ = some (.slice An m cn) := (blk_cell PB.out 3).trans rfl; have q4 : w7.cell? ⟨g1, 4, none⟩ = some (.slice Ae k ce) := (blk_cell PB.out 4).trans rfl) | ((with_reducible refine gate_dst (N := 5) rfl ?_); refine box_event ?hg (N := 5) ?hd (cs := #[.pointer none, .slice none 0 0]) (t := 49) ?hr ?_; (case hd => rfl); (case hg => rfl); (case hr => first | (go_simp; done) | (go_simp; rfl)); intro g5 hg w5 hbox hb; have HI := Aside0.mk (Bl.fresh_ w.heap.size g5 w5 hbox (by rw [hg]; exact HB.out.size)); have n0_ := Aside0.mk (below_step HB.out hb); have n1_ := Aside0.mk (blk_below PB.out hb); clear HB PB; have HB := n0_; have PB := n1_; clear n0_ n1_; (try clear q0 q1 q2 q3 q4); have q0 : w5.cell? ⟨g1, 0, none⟩ = some (.int .i64 j.f0) := (blk_cell PB.out 0).trans rfl; have q1 : w5.cell? ⟨g1, 1, none⟩ = some (.int .i64 j.f1) := (blk_cell PB.out 1).trans rfl; have q2 : w5.cell? ⟨g1, 2, none⟩ = some (.string j.f2) := (blk_cell PB.out 2).trans rfl; have q3 : w5.cell? ⟨g1, 3, none⟩ = some (.slice An m cn) := (blk_cell PB.out 3).trans rfl; have q4 : w5.cell? ⟨g1, 4, none⟩ = some (.slice Ae k ce) := (blk_cell PB.out 4).trans rfl; clear hbox hb hg) | (go_at_call 21; refine (EN.out g5 _ HB.out HI.out).mono ?_; rintro e_ w12 ⟨rfl, hi_, hb_⟩; clear HB HI q0 q1 q2 q3 q4; have HB := Aside0.mk hb_; have HI := Aside0.mk hi_; clear hi_ hb_) | (go_at_call 22; refine (len_ w.heap.size g5 _ _ HI.out).mono ?_; rw [HBL.out, HQ.out]; rintro e_ w_ ⟨rfl, rfl⟩) | (go_at_call 23; refine (Bl.string w.heap.size g5 l _ HI.out HB.out.size).mono ?_; rintro e_ w15 ⟨rfl, hb_⟩; have n0_ := Aside0.mk (HB.out.trans hb_); clear HB hb_; have HB := n0_; clear n0_))
  go_ret2
  exact ⟨rfl, HB.out⟩
end Go.Proofs.YtmonbhoeplmieaaDoor.Js
