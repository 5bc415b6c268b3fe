/- journal.State: the assignments in effect, sorted by key. Condition: fewer than 3518437208883 records. -/
import Derived.Test.YtflemfibjjognaaJsx0
import Derived.Test.YtflemfibjjognaaMp
import Derived.Test.YtflemfibjjognaaJsm
import Derived.Test.YtflemfibjjognaaJshSo
namespace Go.Proofs.Ytflemfibjjognaa.Js
open Go.RowKit Go.Proofs.YtflemfibjjognaaW.PrintWords Go.Proofs.YtflemfibjjognaaW.PrintLast Go.Proofs.YtflemfibjjognaaW.PrintMore
open Go.Proofs.Ytflemfibjjognaa
set_option linter.unusedVariables false
set_option linter.unusedSimpArgs false

def encR (r : S31) : Value := .agg #[.string r.f0, .string r.f1, .bool r.f2]
theorem live_split (l1 l2 : List (ByteArray × S31)) (x : ByteArray) (u : S31) : (live (l1 ++ (x, u) :: l2)).Perm ((if u.f2 then [] else [u]) ++ live (l1 ++ l2)) := by
  unfold live
  simp only [List.map_append, List.map_cons, List.filter_append, List.filter_cons]
  by_cases h : u.f2 = true
  · simp [h]
  · simp only [Bool.not_eq_true] at h
    simp only [h, Bool.not_false, if_true, Bool.false_eq_true, if_false, List.singleton_append]
    exact List.perm_middle
theorem take_snoc (l : List S31) (i : Nat) (h : i < l.length) : l.take (i + 1) = l.take i ++ [rd_T31 l (i : Int)] := by
  rw [List.take_add_one, List.getElem?_eq_getElem h]
  unfold rd_T31
  simp [h]
theorem aset_length_le {κ β : Type} [DecidableEq κ] (l : List (κ × β)) (x : κ) (v : β) : (Mp.aset l x v).length ≤ l.length + 1 := by
  unfold Mp.aset
  split <;> simp
theorem lastOf_length (l : List S31) : (lastOf l).length ≤ l.length := by
  have key : ∀ (l : List S31) m, (l.foldl (fun m r => Mp.aset m r.f0 r) m).length ≤ m.length + l.length := by
    intro l
    induction l with
    | nil => intro m; simp
    | cons r l ih =>
      intro m
      have h1 := ih (Mp.aset m r.f0 r)
      have h2 := aset_length_le m r.f0 r
      simp only [List.foldl_cons, List.length_cons]
      omega
  have := key l []
  simp only [List.length_nil, Nat.zero_add] at this
  exact this
abbrev AtS (w : World) (b : Nat) (m : List (ByteArray × S31)) : Prop := Mp.At Try.prog 9 Value.string w b (Mp.vals encR m)
abbrev ItS (w : World) (b r : Nat) (m td : List (ByteArray × S31)) : Prop := Mp.Iter Try.prog 9 Value.string w b r (Mp.vals encR m) (Mp.vals encR td)
theorem KS : Go.Maps.Keyed Try.prog 9 := Go.Maps.string_keyed Try.underlying9
theorem keyS (s : ByteArray) (h : s.size ≤ maxLen) : keyOf Try.prog 9 (.string s) = some (.string s.data.toList) := by simp [keyOf, mapKey, Try.underlying9, h]
theorem w64_id' {n : Int} (h : -9223372036854775808 ≤ n) (h' : n ≤ 9223372036854775807) : wrap64 n = n := by unfold wrap64; omega
theorem rd_mem (l : List S31) (x : Int) (i : Nat) (e : x = i) (h : i < l.length) : rd_T31 l x ∈ l := by
  subst e
  unfold rd_T31
  simp [h]
theorem sinj : ∀ a b : ByteArray, Value.string a = Value.string b → a = b := fun _ _ h => by injection h

set_option maxHeartbeats 4000000 in
set_option maxRecDepth 100000 in
theorem state_calls (A0 : Option Addr) (c0 : Nat) (l0 : List (S31)) (w : World) (hr0 : Kd.C k31 w A0 l0.length l0) (hc0 : l0.length ≤ c0) (hlen : l0.length < 3518437208883) (hkey : ∀ r ∈ l0, r.f0.size ≤ maxLen) :
    Calls Try.prog 15 #[.slice A0 l0.length c0] w fun e w' => ∃ v0_ : Value, e = .returned (v0_) ∧ Kd.R k31 31 w' w.heap.size (fun _ => True) v0_ (stateL l0) ∧ Below w.heap.size w w' := by
  have hu31 := Try.underlying31
  have HR0 := Aside0.mk hr0
  have HC0 := Aside0.mk hc0
  have HLEN := Aside0.mk (And.intro hlen (lastOf_length l0))
  have HKEY := Aside0.mk hkey
  clear hr0 hc0 hlen hkey
  have HB := Aside0.mk (Below.refl w.heap.size w)
  go_enter Try.func15, Try.ntmps15
  go_wp2_with (refine Mp.wp_make (kt := 9) (et := 31) (enc := Value.string) rfl 48 rfl Try.underlying48 ?_; intro w1 hm hg hb hlt; have HM := Aside0.mk (show AtS w1 w.heap.size [] from hm); have HB1 := Aside0.mk (HB.out.trans hb); clear HB; have HB := HB1; clear HB1; clear hm hg hb hlt)
  go_loopg [12] l0.length (fun kq v12 w' => ∃ x : Int, v12 = .int .i64 x ∧ Aside0 (∃ i : Nat, x = i ∧ i + kq = l0.length ∧ AtS w' w.heap.size (lastOf (l0.take i))) ∧ Aside0 (Below w.heap.size w w'))
  case atStart => exact ⟨0, rfl, ⟨⟨0, rfl, by omega, HM.out⟩⟩, HB⟩
  case round =>
    clear HM HB
    obtain ⟨x, rfl, HX, HB⟩ := hrel
    by_cases c : x < (l0.length : Int)
    · have c1 : decide (x < (l0.length : Int)) = true := decide_eq_true c
      obtain ⟨i, e1, e2, HM⟩ := HX.out
      clear HX
      obtain ⟨k1, rfl⟩ : ∃ k1, gk = k1 + 1 := ⟨gk - 1, by omega⟩
      replace HM := Aside0.mk HM
      have E1 := Aside0.mk (And.intro e1 e2)
      have p1 : 0 ≤ (x : Int) := by omega
      obtain ⟨ad, ea, hx0, hx1, hx2⟩ := at_T31 HR0.out x p1 c
      cases ea
      replace hx0 := (HB.out.cell (World.block_lt_of_cell? w _ hx0)).trans hx0
      replace hx1 := (HB.out.cell (World.block_lt_of_cell? w _ hx1)).trans hx1
      replace hx2 := (HB.out.cell (World.block_lt_of_cell? w _ hx2)).trans hx2
      replace p1 := eq_true p1
      have q1 := eq_true c
      clear e1 e2 c
      go_wp2_with (first | ((with_reducible refine gate_dst (N := 5) rfl ?_); refine box_event ?hg (N := 5) ?hd (cs := #[.string (⟨#[]⟩ : ByteArray), .string (⟨#[]⟩ : ByteArray), .bool false]) (t := 31) ?hr ?_; (case hd => rfl); (case hg => rfl); (case hr => first | (go_simp; done) | (go_simp; rfl)); intro g1 hg w2 hbox hb; have n1_ := Aside0.mk (below_step (by repeat (first | (with_reducible first | exact HB.out | apply below_alloc | apply pw_below_drewN | apply below_drew1) | exact HB.out)) hb); have n2_ := Aside0.mk (hbox); have n3_ := Aside0.mk ((by rw [hg]; exact (below_size (by repeat (first | (with_reducible first | exact HB.out | apply below_alloc | apply pw_below_drewN | apply below_drew1) | exact HB.out))) : w.heap.size ≤ g1)); have n4_ := Aside0.mk (HM.out.below hb); have n5_ := Aside0.mk (show w.heap.size ≠ g1 from by have := HM.out.lt; omega); clear HM; have HM := n4_; have NE := n5_; clear n4_ n5_; clear HB; have HB := n1_; have BK := n2_; have GE := n3_; clear n1_ n2_ n3_; clear hb hbox hg; have hcz_0 : w2.cell? ⟨g1, 0, none⟩ = some (.string (⟨#[]⟩ : ByteArray)) := (blk_cell BK.out 0).trans rfl; have hcz_1 : w2.cell? ⟨g1, 1, none⟩ = some (.string (⟨#[]⟩ : ByteArray)) := (blk_cell BK.out 1).trans rfl; have hcz_2 : w2.cell? ⟨g1, 2, none⟩ = some (.bool false) := (blk_cell BK.out 2).trans rfl; have hfz_0 := blk_frozen BK.out 0; have hfz_1 := blk_frozen BK.out 1; have hfz_2 := blk_frozen BK.out 2) | (at_mapUpdate; refine Mp.wp_store rfl (.tmp 16) (.tmp 18) (.tmp 19) 48 rfl (kt := 9) (et := 31) (enc := Value.string) KS sinj Try.underlying48 (((HM.out.set (p := ⟨g1, 0, none⟩) NE.out _).set (p := ⟨g1, 1, none⟩) NE.out _).set (p := ⟨g1, 2, none⟩) NE.out _) (rd_T31 l0 x).f0 (keyS _ (HKEY.out _ (rd_mem l0 x i E1.out.1 (by have := E1.out; omega)))) (encR (rd_T31 l0 x)) rfl rfl rfl ?_; intro w3 hm hg hs; have n1_ := Aside0.mk (show AtS w3 w.heap.size (lastOf (l0.take (i + 1))) from by rw [take_snoc l0 i (by have := E1.out; omega), lastOf_snoc, ← E1.out.1]; rw [Mp.aset_vals] at hm; exact hm); have n2_ := Aside0.mk (Below.grown (show Below w.heap.size w _ from by repeat (first | exact HB.out | refine below_set ?_ GE.out)) hg (by have := HM.out.lt; first | exact Nat.le_of_lt (by simpa using this) | (simp only [World.size_setCell]; omega)) (fun k hk => by injection hk with hk; omega)); clear HM; clear HB; have HM := n1_; have HB := n2_; clear n1_ n2_ hm hg hs))
      go_roundg k1
      case measure => have := E1.out; omega
      case rel => exact ⟨wrap64 (x + 1), rfl, ⟨⟨i + 1, by have := E1.out; rw [w64_id' (by omega) (by have := HLEN.out; omega)]; omega, by have := E1.out; omega, HM.out⟩⟩, HB⟩
    · have c1 : decide (x < (l0.length : Int)) = false := decide_eq_false c
      obtain ⟨i, e1, e2, HM⟩ := HX.out
      clear HX
      obtain rfl : i = l0.length := by omega
      rw [List.take_length] at HM
      replace HM := Aside0.mk HM
      clear e1 e2 c
      go_wp2_with (at_range; refine Mp.wp_range rfl (.tmp 21) 48 rfl Try.underlying48 HM.out rfl ?_; intro w3 ri hri hit hg hb hlt; have HRI := Aside0.mk (show w.heap.size ≤ ri ∧ w.heap.size ≠ ri from by have := HM.out.lt; have := HB.out.size; omega); have HI := Aside0.mk (show ItS w3 w.heap.size ri (lastOf l0) (lastOf l0) from hit); have n1_ := Aside0.mk (HB.out.trans (hb.mono HB.out.size)); have n2_ := Aside0.mk (show w.heap.size ≤ w3.heap.size from by have := n1_.out.size; exact this); clear HB; have HB := n1_; have HBS := n2_; clear n1_ n2_ hri hit hg hb hlt HM)
      go_frame
      go_loopg [6] (lastOf l0).length (fun kq v6 w' => ∃ st td, Aside0 (kq = td.length ∧ st.length + td.length ≤ l0.length ∧ (st ++ live td).Perm (live (lastOf l0))) ∧ Aside0 (ItS w' w.heap.size ri (lastOf l0) td) ∧ Aside0 (Kd.R k31 31 w' w.heap.size (fun k => k ≠ w.heap.size ∧ k ≠ ri) v6 st) ∧ Aside0 (Below w.heap.size w w') ∧ Aside0 (w.heap.size ≤ w'.heap.size))
      case atStart => exact ⟨[], lastOf l0, ⟨rfl, by have := HLEN.out; simp only [List.length_nil]; omega, by simp⟩, HI, ⟨Kd.R_nil _ _ _ _ _⟩, HB, HBS⟩
      case round =>
        clear HI HB HBS
        obtain ⟨st, td, HT, HI, HO, HB, HBS⟩ := hrel
        by_cases hne : td = []
        · subst hne
          replace HI := Aside0.mk (show Mp.Iter Try.prog 9 Value.string wr w.heap.size ri (Mp.vals encR (lastOf l0)) [] from HI.out)
          go_upto_region 13 with (first | (at_next; refine Mp.wp_next_nil (κ := ByteArray) (P := Try.prog) (kt := 9) (enc := Value.string) (b := w.heap.size) (r := ri) (l := Mp.vals encR (lastOf l0)) rfl (.tmp 22) rfl sinj HI.out rfl ?_))
          go_wp2_with (go_at_call 24; refine (sort_calls HO.out (by have := HT.out; have := HLEN.out; simp only [List.length_nil] at *; omega)).mono ?_; rintro e w7 ⟨rfl, ys, hp, hs, hR, hg⟩; have HY := Aside0.mk (show ys = stateL l0 from state_one l0 ys (hp.trans (by have := HT.out.2.2; rw [show live [] = [] from rfl, List.append_nil] at this; exact this)) hs); have n1_ := Aside0.mk (HB.out.grown hg HBS.out (fun k hk => by obtain ⟨_, ho_⟩ := Kd.R_own HO.out; exact own_base ho_ k hk)); have n2_ := Aside0.mk hR; clear HB; clear HO; have HB := n1_; have HO := n2_; clear n1_ n2_ hp hs hR hg)
          go_ret
          exact ⟨_, rfl, by rw [← HY.out]; exact Kd.R_mono HO.out (fun _ _ => trivial), HB.out⟩
        · have HNE := Aside0.mk hne
          clear hne
          obtain ⟨k1, rfl⟩ : ∃ k1, gk = k1 + 1 := ⟨gk - 1, by have := HT.out; have := List.length_pos_iff.2 HNE.out; omega⟩
          go_upto_region 11 with (first | (at_next; refine Mp.wp_next_vals (κ := ByteArray) (P := Try.prog) (kt := 9) (enc := Value.string) (b := w.heap.size) (r := ri) (l := Mp.vals encR (lastOf l0)) (g := encR) rfl (.tmp 22) rfl sinj HI.out HNE.out rfl ?_; intro xk u l1 l2 w4 htd hit hgr hsz hen; have n1_ := Aside0.mk (HB.out.grown hgr HBS.out (fun k hk => by injection hk with hk; rw [← hk]; exact HRI.out.1)); have n2_ := Aside0.mk (show ItS w4 w.heap.size ri (lastOf l0) (l1 ++ l2) from hit); have n3_ := Aside0.mk (Kd.R_grown HO.out hgr (fun k hk he => hk.2 (by injection he))); have n4_ := Aside0.mk (show w.heap.size ≤ w4.heap.size from by rw [hsz]; exact HBS.out); clear HB; clear HI; clear HO; clear HBS; have HB := n1_; have HI := n2_; have HO := n3_; have HBS := n4_; have HTD := Aside0.mk htd; clear n1_ n2_ n3_ n4_ hit hgr hsz htd; unfold encR at hen ⊢) | ((with_reducible refine gate_dst (N := 8) rfl ?_); refine box_event ?hg (N := 8) ?hd (cs := #[.string (⟨#[]⟩ : ByteArray), .string (⟨#[]⟩ : ByteArray), .bool false]) (t := 31) ?hr ?_; (case hd => rfl); (case hg => rfl); (case hr => first | (go_simp; done) | (go_simp; rfl)); intro g2 hg w5 hbox hb; have n1_ := Aside0.mk (below_step (by repeat (first | (with_reducible first | exact HB.out | apply below_alloc | apply pw_below_drewN | apply below_drew1) | exact HB.out)) hb); have n2_ := Aside0.mk (hbox); have n3_ := Aside0.mk ((by rw [hg]; exact (below_size (by repeat (first | (with_reducible first | exact HB.out | apply below_alloc | apply pw_below_drewN | apply below_drew1) | exact HB.out))) : w.heap.size ≤ g2)); have n4_ := Aside0.mk (HI.out.below hb); have n5_ := Aside0.mk (show w.heap.size ≠ g2 ∧ ri ≠ g2 from by have := HI.out.lt; omega); have n6_ := Aside0.mk (Kd.R_below (Kd.R_elderB HO.out g2 (Nat.le_of_eq hg.symm)) hb); clear HI; clear HO; have HI := n4_; have NE := n5_; have HO := n6_; clear n4_ n5_ n6_; clear HB; have HB := n1_; have BK := n2_; have GE := n3_; clear n1_ n2_ n3_; clear hb hbox hg; have hcz_0 : w5.cell? ⟨g2, 0, none⟩ = some (.string (⟨#[]⟩ : ByteArray)) := (blk_cell BK.out 0).trans rfl; have hcz_1 : w5.cell? ⟨g2, 1, none⟩ = some (.string (⟨#[]⟩ : ByteArray)) := (blk_cell BK.out 1).trans rfl; have hcz_2 : w5.cell? ⟨g2, 2, none⟩ = some (.bool false) := (blk_cell BK.out 2).trans rfl; have hfz_0 := blk_frozen BK.out 0; have hfz_1 := blk_frozen BK.out 1; have hfz_2 := blk_frozen BK.out 2))
          cases hf : u.f2 with
          | true =>
            go_wp2
            go_roundg k1
            case measure => omega
            case rel => exact ⟨st, l1 ++ l2, ⟨by have := HT.out.1; rw [HTD.out] at this; simp only [List.length_append, List.length_cons] at this ⊢; omega, by have := HT.out.2.1; rw [HTD.out] at this; simp only [List.length_append, List.length_cons] at this ⊢; omega, by
              refine List.Perm.trans ?_ HT.out.2.2
              rw [HTD.out]
              refine List.Perm.append_left st ?_
              have := live_split l1 l2 xk u
              rw [hf] at this
              exact this.symm⟩, ⟨((HI.out.set (p := ⟨g2, 0, none⟩) NE.out.1 NE.out.2 _).set (p := ⟨g2, 1, none⟩) NE.out.1 NE.out.2 _).set (p := ⟨g2, 2, none⟩) NE.out.1 NE.out.2 _⟩, ⟨Kd.R_mono (Kd.R_far (p := ⟨g2, 2, none⟩) (Kd.R_far (p := ⟨g2, 1, none⟩) (Kd.R_far (p := ⟨g2, 0, none⟩) HO.out (fun _ hk => hk.2) (.string u.f0)) (fun _ hk => hk.2) (.string u.f1)) (fun _ hk => hk.2) (.bool true)) (fun _ hk => hk.1)⟩, ⟨by repeat (first | exact HB.out | refine below_set ?_ GE.out)⟩, ⟨Below.size (B := w.heap.size) (by repeat (first | exact HB.out | refine below_set ?_ GE.out))⟩⟩
          | false =>
            have HMK := Aside0.mk (fun (W : World) (b : Nat) (o : Nat → Prop) => (by rw [← hf]; exact k31_mkM W b o u : k31.M W b o u [.string u.f0, .string u.f1, .bool false]))
            go_wp2_with (at_builtin; refine Kd.R_append k31 (w0 := w) w.heap.size rfl (.tmp 30) (.tmp 32) 22 31 (.agg #[(.string ⟨#[]⟩), (.string ⟨#[]⟩), (.bool false)]) 40 rfl Try.underlying22 info31 rfl (by decide) (by omega) u6 st u [.string u.f0, .string u.f1, .bool false] (fun k => (k ≠ w.heap.size ∧ k ≠ ri) ∧ k ≠ g2) (fun _ => False) rfl (by first | (go_simp; done) | (go_simp; rfl)) (HMK.out _ _ _) (fun _ hk => hk.elim) ?aF ?aO ?aB ?aS ?aL ?_; (case aB => exact (by repeat (first | exact HB.out | refine below_set ?_ GE.out))); (case aO => exact (Kd.R_far (p := ⟨g2, 2, none⟩) (Kd.R_far (p := ⟨g2, 1, none⟩) (Kd.R_far (p := ⟨g2, 0, none⟩) HO.out (fun _ hk => hk.2) (.string u.f0)) (fun _ hk => hk.2) (.string u.f1)) (fun _ hk => hk.2) (.bool false))); (case aS => exact (below_size (by repeat (first | exact HB.out | refine below_set ?_ GE.out)))); (case aL => have := HT.out; have := HLEN.out; omega); (case aF => intro k_ hk; rw [World.size_setCell, World.size_setCell, World.size_setCell] at hk; have := HI.out.lt; have := blk_lt BK.out; omega); intro v1 w6 ho hb hg hat; have n1_ := Aside0.mk ((((HI.out.set (p := ⟨g2, 0, none⟩) NE.out.1 NE.out.2 _).set (p := ⟨g2, 1, none⟩) NE.out.1 NE.out.2 _).set (p := ⟨g2, 2, none⟩) NE.out.1 NE.out.2 _).grown hg (fun e => (HO.out.1 _ e.symm).1.1 rfl) (fun e => (HO.out.1 _ e.symm).1.2 rfl)); have n2_ := Aside0.mk (Kd.R_mono ho (fun _ hk => hk.1)); have n3_ := Aside0.mk hb; clear HB; clear HI; clear HO; have HI := n1_; have HO := n2_; have HB := n3_; clear n1_ n2_ n3_ ho hb hg hat)
            go_roundg k1
            case measure => omega
            case rel => exact ⟨st ++ [u], l1 ++ l2, ⟨by have := HT.out.1; rw [HTD.out] at this; simp only [List.length_append, List.length_cons] at this ⊢; omega, by have := HT.out.2.1; rw [HTD.out] at this; simp only [List.length_append, List.length_cons, List.length_nil] at this ⊢; omega, by
              refine List.Perm.trans ?_ HT.out.2.2
              rw [HTD.out, List.append_assoc]
              refine List.Perm.append_left st ?_
              have := live_split l1 l2 xk u
              rw [hf] at this
              exact this.symm⟩, HI, HO, HB, ⟨HB.out.size⟩⟩
def journal_State.f (l0 : List (S31)) : Option ((List (S31))) := if l0.length < 3518437208883 ∧ (l0.all fun r => decide (r.f0.size ≤ 9223372036854775807)) = true then some (stateL l0) else none
theorem journal_State.calls (A0 : Option Addr) (c0 : Nat) (l0 : List (S31)) (r : List (S31)) (w : World) (hr0 : Kd.C k31 w A0 l0.length l0) (hc0 : l0.length ≤ c0) (h : journal_State.f l0 = some r) :
    Calls Try.prog 15 #[.slice A0 l0.length c0] w fun e w' => ∃ v0_ : Value, e = .returned (v0_) ∧ Kd.R k31 31 w' w.heap.size (fun _ => True) v0_ r ∧ Below w.heap.size w w' := by
  unfold journal_State.f at h
  split at h
  · rename_i hc
    obtain rfl := Option.some.inj h
    exact state_calls A0 c0 l0 w hr0 hc0 hc.1 (fun x hx => by have := List.all_eq_true.1 hc.2 x hx; exact of_decide_eq_true this)
  · cases h
end Go.Proofs.Ytflemfibjjognaa.Js
