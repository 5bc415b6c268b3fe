/- slices.Clone of strings and of entries, wordindex.clone. Condition: fewer than 1000000 elements. -/
import Derived.Test.YtngolmiegfgmmaaWfhWd
import Derived.BigQuiet
namespace Go.Proofs.Ytngolmiegfgmmaa.Wf
open Go.RowKit Go.Sort Go.Proofs.YtngolmiegfgmmaaW.PrintWords Go.Proofs.YtngolmiegfgmmaaW.PrintLast Go.Proofs.YtngolmiegfgmmaaW.PrintMore
open Go.Proofs.Ytngolmiegfgmmaa
set_option linter.unusedVariables false
set_option linter.unusedSimpArgs false
attribute [local go_sem] Oper.semAt_some
theorem info43c : (Try.prog.info? 43).map (fun i => (i.zero, i.size, i.bytes)) = some (some (.agg #[.string ByteArray.empty, .int .u32 0, .slice none 0 0]), 3, 48) := by kernel_rfl
set_option maxHeartbeats 8000000 in
set_option maxRecDepth 100000 in
theorem clone40 (A : Option Addr) (c : Nat) (xs : List (ByteArray)) (W : World) (hr : Kd.C Kd.string W A xs.length xs) (hc : xs.length ≤ c) (hl : xs.length < 1000000) :
    Calls Try.prog 40 #[.slice A xs.length c] W fun e W' => ∃ v, e = .returned v ∧ Kd.R Kd.string 9 W' W.heap.size (fun _ => True) v xs ∧ Below W.heap.size W W' := by
  have hu_ := Try.underlying23
  have hue := Try.underlying9
  have HR := Aside0.mk hr
  have HL := Aside0.mk hl
  clear hr hl
  have HB := Aside0.mk (Below.refl W.heap.size W)
  cases A with
  | none =>
    have hq := fun w n c => Go.Lib.run_eql_slice_nil (P := Try.prog) w 23 9 none n c 0 0 hu_
    simp only [Option.isNone_none] at hq
    go_enter Try.func40, Try.ntmps40
    go_wp2
    go_ret
    have h0 : xs = [] := by
      rcases Nat.eq_zero_or_pos xs.length with h | h
      · exact List.eq_nil_of_length_eq_zero h
      · obtain ⟨ad, ea, _⟩ := HR.out.2.2 h
        cases ea
    subst h0
    exact ⟨_, rfl, Kd.R_nil _ _ _ _ _, HB.out⟩
  | some ad =>
    have hq := fun w n c => Go.Lib.run_eql_slice_nil (P := Try.prog) w 23 9 (some ad) n c 0 0 hu_
    simp only [Option.isNone_some] at hq
    go_enter Try.func40, Try.ntmps40
    go_wp2_with (first | ((with_reducible refine gate_dst (N := 5) rfl ?_); refine Kd.R_lit Kd.string _ 9 ?hg (N := 5) ?hd (xs := ([] : List (ByteArray))) (inner := []) (ok := fun _ => True) (okp := fun _ => True) ?hr ?hp (fun _ hk => hk) trivial (Below.refl _ _) (Nat.le_refl _) (by simp) ?_; (case hd => rfl); (case hg => rfl); (case hr => first | (go_simp; done) | (go_simp; rfl)); (case hp => exact Reps.none _ _); intro v5 w5 ho hb hg_ hnew_; clear hg_ hnew_; have HO := Aside0.mk ho; have HB5 := Aside0.mk hb; have HR5 := Aside0.mk (Kd.C_below HR.out hb); clear ho hb) | (at_builtin; (refine Kd.R_append_rows Kd.string (w0 := W) W.heap.size rfl (.tmp 5) (.tmp 6) 23 9 _ _ rfl Try.underlying23 info9 rfl (by decide) (by omega) v5 [] xs _ _ _ (fun _ => True) (fun _ => False) rfl rfl HO.out HR5.out (fun _ _ h => h) (fun _ h => h.elim) (fun _ _ => trivial) HB5.out HB5.out.size (by have := HL.out; simp only [List.length_nil]; omega) ?_; rintro v1 w1 hv hb _ _; have HV := Aside0.mk hv; have HBF := Aside0.mk hb; clear hv hb)))
    go_ret
    exact ⟨_, rfl, HV.out, HBF.out⟩
set_option maxHeartbeats 8000000 in
set_option maxRecDepth 100000 in
theorem clone39 (A : Option Addr) (c : Nat) (xs : List (List Value)) (W : World) (hr : Kd.C (Kd.raw 3) W A xs.length xs) (hc : xs.length ≤ c) (hl : xs.length < 1000000) :
    Calls Try.prog 39 #[.slice A xs.length c] W fun e W' => ∃ v, e = .returned v ∧ Kd.R (Kd.raw 3) 43 W' W.heap.size (fun _ => True) v xs ∧ Below W.heap.size W W' := by
  have hu_ := Try.underlying29
  have hue := Try.underlying43
  have HR := Aside0.mk hr
  have HL := Aside0.mk hl
  clear hr hl
  have HB := Aside0.mk (Below.refl W.heap.size W)
  cases A with
  | none =>
    have hq := fun w n c => Go.Lib.run_eql_slice_nil (P := Try.prog) w 29 43 none n c 0 0 hu_
    simp only [Option.isNone_none] at hq
    go_enter Try.func39, Try.ntmps39
    go_wp2
    go_ret
    have h0 : xs = [] := by
      rcases Nat.eq_zero_or_pos xs.length with h | h
      · exact List.eq_nil_of_length_eq_zero h
      · obtain ⟨ad, ea, _⟩ := HR.out.2.2 h
        cases ea
    subst h0
    exact ⟨_, rfl, Kd.R_nil _ _ _ _ _, HB.out⟩
  | some ad =>
    have hq := fun w n c => Go.Lib.run_eql_slice_nil (P := Try.prog) w 29 43 (some ad) n c 0 0 hu_
    simp only [Option.isNone_some] at hq
    go_enter Try.func39, Try.ntmps39
    go_wp2_with (first | ((with_reducible refine gate_dst (N := 5) rfl ?_); refine Kd.R_lit (Kd.raw 3) _ 43 ?hg (N := 5) ?hd (xs := ([] : List (List Value))) (inner := []) (ok := fun _ => True) (okp := fun _ => True) ?hr ?hp (fun _ hk => hk) trivial (Below.refl _ _) (Nat.le_refl _) (by simp) ?_; (case hd => rfl); (case hg => rfl); (case hr => first | (go_simp; done) | (go_simp; rfl)); (case hp => exact Reps.none _ _); intro v5 w5 ho hb hg_ hnew_; clear hg_ hnew_; have HO := Aside0.mk ho; have HB5 := Aside0.mk hb; have HR5 := Aside0.mk (Kd.C_below HR.out hb); clear ho hb) | (at_builtin; (refine Kd.R_append_rows (Kd.raw 3) (w0 := W) W.heap.size rfl (.tmp 5) (.tmp 6) 29 43 _ _ rfl Try.underlying29 info43c rfl (by decide) (by omega) v5 [] xs _ _ _ (fun _ => True) (fun _ => False) rfl rfl HO.out HR5.out (fun _ _ h => h) (fun _ h => h.elim) (fun _ _ => trivial) HB5.out HB5.out.size (by have := HL.out; simp only [List.length_nil]; omega) ?_; rintro v1 w1 hv hb _ _; have HV := Aside0.mk hv; have HBF := Aside0.mk hb; clear hv hb)))
    go_ret
    exact ⟨_, rfl, HV.out, HBF.out⟩
/-- an entry whose words are its own by now (none), or still another's: then its cells -/
def mx : Kd (S43 × Option (List Value)) where
  sz := 3
  E := k43.E
  K := fun w p cs => match p.2 with
    | none => k43.K w p.1 cs
    | some c => cs = c ∧ cs.length = 3 ∧ ∀ u ∈ cs, u.oneCell' = true
  M := fun w base ok p cs => match p.2 with
    | none => k43.M w base ok p.1 cs
    | some c => cs = c ∧ cs.length = 3 ∧ ∀ u ∈ cs, u.oneCell' = true
  K_len := fun {w x cs} h => by
    obtain ⟨x, _ | c⟩ := x
    · exact k43.K_len h
    · exact h.2.1
  K_one := fun {w x cs} h => by
    obtain ⟨x, _ | c⟩ := x
    · exact k43.K_one h
    · exact h.2.2
  K_below := fun {w w1 x cs} hb h => by
    obtain ⟨x, _ | c⟩ := x
    · exact k43.K_below hb h
    · exact h
  K_of_M := fun {w base ok x cs} h => by
    obtain ⟨x, _ | c⟩ := x
    · exact k43.K_of_M h
    · exact h
  M_mono := fun {w base ok ok' x cs} hk h => by
    obtain ⟨x, _ | c⟩ := x
    · exact k43.M_mono hk h
    · exact h
  M_bound := fun {w base ok x cs} h => by
    obtain ⟨x, _ | c⟩ := x
    · exact k43.M_bound h
    · exact h
  M_move := fun {w w1 base ok x cs} hk h => by
    obtain ⟨x, _ | c⟩ := x
    · exact k43.M_move hk h
    · exact h
  M_lower := fun {w base base' ok x cs} hk h => by
    obtain ⟨x, _ | c⟩ := x
    · exact k43.M_lower hk h
    · exact h
theorem rawC {w : World} {A : Option Addr} {n : Nat} {xs : List S43} (h : Kd.C k43 w A n xs) : ∃ cs : List (List Value), cs.length = n ∧ (Kd.raw 3).C w A n cs ∧ ∀ (j : Nat) (p : S43), xs[j]? = some p → ∃ c, cs[j]? = some c ∧ k43.K w p c := by
  rcases Nat.eq_zero_or_pos n with h0 | h0
  · subst h0
    have e0 : xs = [] := List.eq_nil_of_length_eq_zero h.1
    subst e0
    exact ⟨[], rfl, ⟨rfl, by omega, fun h => absurd h (Nat.lt_irrefl 0)⟩, fun j p hj => by simp at hj⟩
  · obtain ⟨ad, rfl, hc⟩ := h.2.2 h0
    have hx : ∀ j : Fin xs.length, ∃ c : List Value, c.length = 3 ∧ k43.K w xs[j] c ∧ ∀ i u, c[i]? = some u → w.cell? (ad.add (j.val * 3 + i)) = some u := fun j => hc j.val _ (List.getElem?_eq_getElem j.isLt)
    refine ⟨List.ofFn fun j => (hx j).choose, by rw [List.length_ofFn]; exact h.1, ⟨by rw [List.length_ofFn]; exact h.1, h.2.1, fun _ => ⟨ad, rfl, fun j p hj => ?_⟩⟩, fun j p hj => ?_⟩
    · obtain ⟨hlt, rfl⟩ := List.getElem?_eq_some_iff.1 hj
      rw [List.getElem_ofFn]
      have hlt' : j < xs.length := by simpa using hlt
      have hs := (hx ⟨j, hlt'⟩).choose_spec
      exact ⟨_, hs.1, ⟨rfl, hs.1, k43.K_one hs.2.1⟩, hs.2.2⟩
    · obtain ⟨hlt, rfl⟩ := List.getElem?_eq_some_iff.1 hj
      refine ⟨(hx ⟨j, hlt⟩).choose, ?_, (hx ⟨j, hlt⟩).choose_spec.2.1⟩
      rw [List.getElem?_eq_getElem (by rw [List.length_ofFn]; exact hlt), List.getElem_ofFn]
/-- how far the cloning has come -/
def Mix (l : List S43) (cs : List (List Value)) (i : Nat) (ys : List (S43 × Option (List Value))) : Prop := ys.length = l.length ∧ ∀ (j : Nat) (p : S43) (c : List Value), l[j]? = some p → cs[j]? = some c → ys[j]? = some (p, if j < i then none else some c)
theorem mix_start {W : World} {base : Nat} {ok : Nat → Prop} {v : Value} {l : List S43} {cs : List (List Value)} (h : Kd.R (Kd.raw 3) 43 W base ok v cs) (hl : cs.length = l.length) : ∃ ys, Mix l cs 0 ys ∧ Kd.S mx 43 W base ok v ys := by
  refine ⟨(l.zip cs).map fun p => (p.1, some p.2), ⟨by simp; omega, fun j p c hp hc => ?_⟩, fun _ => 0, h.1, ?_⟩
  · rw [List.getElem?_map, (List.getElem?_zip_eq_some (z := (p, c))).2 ⟨hp, hc⟩, if_neg (Nat.not_lt_zero _)]
    rfl
  · obtain ⟨inner, ho, hr⟩ := h.2
    have hlen : ((l.zip cs).map fun p => ((p.1, some p.2) : S43 × Option (List Value))).length = cs.length := by simp; omega
    refine ⟨inner, by rw [List.length_zipIdx, hlen]; exact ho, by rw [List.length_zipIdx, hlen]; exact hr.1, fun j p hj => ?_⟩
    rw [List.getElem?_zipIdx, Nat.zero_add] at hj
    obtain ⟨q, hq, rfl⟩ := Option.map_eq_some_iff.1 hj
    rw [List.getElem?_map] at hq
    obtain ⟨⟨a, b⟩, hab, rfl⟩ := Option.map_eq_some_iff.1 hq
    have hb := (List.getElem?_zip_eq_some.1 hab).2
    have := hr.2 j b hb
    exact this
theorem mix_end {W : World} {base : Nat} {ok : Nat → Prop} {v : Value} {l : List S43} {cs : List (List Value)} {ys : List (S43 × Option (List Value))} (hm : Mix l cs l.length ys) (hl : cs.length = l.length) (h : Kd.S mx 43 W base ok v ys) : Kd.S k43 43 W base ok v l := by
  obtain ⟨f, h0, inner, ho, hr⟩ := h
  rw [List.length_zipIdx, hm.1] at ho
  refine ⟨f, h0, inner, by rw [List.length_zipIdx]; exact ho, by have := hr.1; rw [List.length_zipIdx, hm.1] at this; rw [List.length_zipIdx]; exact this, fun j p hj => ?_⟩
  rw [List.getElem?_zipIdx, Nat.zero_add] at hj
  obtain ⟨q, hq, rfl⟩ := Option.map_eq_some_iff.1 hj
  have hjl : j < l.length := (List.getElem?_eq_some_iff.1 hq).1
  have hy := hm.2 j q _ hq (List.getElem?_eq_getElem (by omega))
  rw [if_pos hjl] at hy
  exact hr.2 j ((q, none), j) (Kd.zip_at hy)
theorem mix_step {l : List S43} {cs : List (List Value)} {i : Nat} {ys : List (S43 × Option (List Value))} (hm : Mix l cs i ys) {p : S43} (hp : l[i]? = some p) : Mix l cs (i + 1) (ys.set i (p, none)) := by
  refine ⟨by rw [List.length_set]; exact hm.1, fun j q c hq hc => ?_⟩
  have hi : i < ys.length := by rw [hm.1]; exact (List.getElem?_eq_some_iff.1 hp).1
  by_cases e : j = i
  · subst e
    rw [List.getElem?_set_self hi, if_pos (by omega)]
    rw [hp] at hq
    cases hq
    rfl
  · rw [List.getElem?_set_ne (Ne.symm e), hm.2 j q c hq hc]
    by_cases h : j < i
    · rw [if_pos h, if_pos (by omega)]
    · rw [if_neg h, if_neg (by omega)]
theorem cl_step {w wr w7 : World} {g n5 c5 : Nat} {x : Int} {ys : List (S43 × Option (List Value))} {p : S43} {A2 : Option Addr} {c2 : Nat} {vw : Value} (HS : Kd.S mx 43 wr w.heap.size (fun _ => True) (.slice (some ⟨g, 0, none⟩) n5 c5) ys) (X0 : 0 ≤ x) (X1 : x < (n5 : Int)) (YG : ys.getD x.toNat (z43, none) = (p, some [.string p.f0, .int .u32 p.f1, .slice A2 p.f2.length c2])) (hgl : g < wr.heap.size) (hws : w.heap.size ≤ wr.heap.size) (hvw : Kd.R Kd.string 9 w7 wr.heap.size (fun _ => True) vw p.f2) (hb : Below wr.heap.size wr w7) :
    w7.cell? ⟨g, x.toNat * 3 + 2, none⟩ = some (.slice A2 p.f2.length c2) ∧ w7.frozen? ⟨g, x.toNat * 3 + 2, none⟩ = false ∧ Kd.S mx 43 (w7.setCells g (x.toNat * 3 + 2) [vw]) w.heap.size (fun _ => True) (.slice (some ⟨g, 0, none⟩) n5 c5) (ys.set x.toNat (p, none)) := by
  have hvb : ∀ k, some k = vw.ownBlock → wr.heap.size ≤ k := fun k hk => Kd.R_base hvw k hk.symm
  have hS7 : Kd.S mx 43 w7 w.heap.size (fun k => True ∧ ¬ some k = vw.ownBlock) (.slice (some ⟨g, 0, none⟩) n5 c5) ys := Kd.S_mono (Kd.S_old HS hb) (fun k hk => ⟨trivial, fun h2 => by have a := hvb k h2; have b := hk.2; omega⟩)
  obtain ⟨oki, cc, hcl, hM, hcc, hfr, hoki, hH⟩ := Kd.S_elem hS7 (z43, none) x X0 X1
  rw [YG] at hM
  obtain ⟨rfl, _, _⟩ := hM
  have hvt : Kd.R Kd.string 9 w7 w.heap.size (fun k => some k = vw.ownBlock) vw p.f2 := Kd.R_tight rfl (Kd.R_lower hvw hws)
  have hnew : mx.M w7 w.heap.size (fun k => some k = vw.ownBlock) (p, none) [.string p.f0, .int .u32 p.f1, vw] := k43_mkM _ _ _ p hvt
  have HP := Kd.S_seg hH X0 X1 (seg := [vw]) (j := 2) (show 3 ≤ 3 from by decide) (okp := fun k => some k = vw.ownBlock) (x' := (p, none)) hnew (fun _ hk => Or.inr hk) (fun k hk => ⟨trivial, fun h2 => by have a := hvb k hk; omega⟩)
  exact ⟨hcc 2 _ rfl, hfr 2, HP.1⟩
set_option maxHeartbeats 8000000 in
set_option maxRecDepth 100000 in
theorem clone26 (A0 : Option Addr) (c0 : Nat) (l0 : List S43) (w : World) (hr0 : Kd.C k43 w A0 l0.length l0) (hc0 : l0.length ≤ c0) (hl0 : l0.length < 1000) (hw0 : ∀ x ∈ l0, x.f2.length < 1000000) :
    Calls Try.prog 26 #[.slice A0 l0.length c0] w fun e w' => ∃ v, e = .returned v ∧ Kd.S k43 43 w' w.heap.size (fun _ => True) v l0 ∧ Below w.heap.size w w' := by
  have hu29 := Try.underlying29
  have hu43 := Try.underlying43
  obtain ⟨cs, hcl, hC, hK⟩ := rawC hr0
  have LC := Aside0.mk hcl
  have HC := Aside0.mk hC
  have HK := Aside0.mk hK
  have HC0 := Aside0.mk hc0
  have HL := Aside0.mk hl0
  have HW0 := Aside0.mk hw0
  have HB := Aside0.mk (Below.refl w.heap.size w)
  clear hr0 hc0 hl0 hw0 hcl hC hK
  go_enter Try.func26, Try.ntmps26
  go_wp2_with (go_at_call 39; rw [show l0.length = cs.length from LC.out.symm]; refine (clone39 A0 c0 cs _ (LC.out.symm ▸ HC.out) (by have := LC.out; have := HC0.out; omega) (by have := LC.out; have := HL.out; omega)).mono ?_; rintro e_ w3 ⟨v3, rfl, hv, hb⟩; obtain ⟨A5, n5, c5, rfl⟩ : ∃ A n c, v3 = .slice A n c := (by obtain ⟨A, c, e_⟩ := Kd.R_slice hv; exact ⟨A, _, c, e_⟩); have HN5 := Aside0.mk (show n5 = l0.length from by obtain ⟨A, c, e_⟩ := Kd.R_slice hv; injection e_ with _ e2 _; rw [e2]; exact LC.out); have HV := Aside0.mk hv; have n1_ := Aside0.mk (below_step HB.out hb); clear HB hb hv; have HB := n1_; clear n1_)
  obtain ⟨ys0, hm0, hs0⟩ := mix_start (l := l0) HV.out LC.out
  have HM0 := Aside0.mk hm0
  have HS0 := Aside0.mk hs0
  have HLN := Aside0.mk (show n5 < 1000 from by rw [HN5.out]; exact HL.out)
  clear hm0 hs0 HV
  go_loopg [8] l0.length (fun kq v8 w' => ∃ x : Int, v8 = .int .i64 x ∧ Aside0 (∃ (i : Nat) (ys : List (S43 × Option (List Value))), x = i ∧ i + kq = l0.length ∧ Mix l0 cs i ys ∧ Kd.S mx 43 w' w.heap.size (fun _ => True) (.slice A5 n5 c5) ys) ∧ Aside0 (Below w.heap.size w w'))
  case atStart => exact ⟨0, rfl, ⟨⟨0, ys0, rfl, by omega, HM0.out, HS0.out⟩⟩, HB⟩
  case round =>
    clear HB HM0 HS0
    obtain ⟨x, rfl, HX, HB⟩ := hrel
    obtain ⟨i, ys, e1, e2, hm, hS⟩ := HX.out
    clear HX
    by_cases c : x < (n5 : Int)
    · have c1 : decide (x < (n5 : Int)) = true := decide_eq_true c
      have hil : i < l0.length := by have := HN5.out; omega
      obtain ⟨k1, rfl⟩ : ∃ k1, gk = k1 + 1 := ⟨gk - 1, by omega⟩
      have E1 := Aside0.mk (And.intro e1 e2)
      have p1 : 0 ≤ (x : Int) := by omega
      obtain ⟨p, hp⟩ : ∃ p, l0[i]? = some p := ⟨_, List.getElem?_eq_getElem hil⟩
      obtain ⟨cc0, hcc0, hKp⟩ := HK.out i p hp
      obtain ⟨A2, c2, rfl, hl2, hC2⟩ := k43_open hKp
      have hyg : ys.getD x.toNat (z43, none) = (p, some [.string p.f0, .int .u32 p.f1, .slice A2 p.f2.length c2]) := by
        rw [List.getD_eq_getElem?_getD, e1, Int.toNat_natCast, hm.2 i p _ hp hcc0, if_neg (Nat.lt_irrefl _)]
        rfl
      have hpos : 0 < ys.length := by rw [hm.1]; omega
      obtain ⟨g, cap, hv, hgb, hgl, cells, hgh⟩ := Kd.S_form hS hpos
      injection hv with e3 e4 e5
      subst e3 e5
      obtain ⟨_, cx, _, hMx, hccx, hfrx, _, _⟩ := Kd.S_elem hS (z43, none) x p1 c
      rw [hyg] at hMx
      obtain ⟨rfl, _, _⟩ := hMx
      have hx2 : wr.cell? ⟨g, x.toNat * 3 + 2, none⟩ = some (.slice A2 p.f2.length c2) := hccx 2 _ rfl
      have YG := Aside0.mk hyg
      have MS := Aside0.mk (mix_step hm hp)
      have HS := Aside0.mk hS
      have HCW := Aside0.mk hC2
      have HLW := Aside0.mk hl2
      have HSW := Aside0.mk (HW0.out p (List.mem_of_getElem? hp))
      have X0 := Aside0.mk p1
      have X1 := Aside0.mk c
      have GB := Aside0.mk hgb
      have GL := Aside0.mk hgl
      replace p1 := eq_true p1
      have q1 := eq_true c
      clear e1 e2 c hm hS hp hcc0 hKp hl2 hC2 hyg hpos e4 hgb hgl hgh hccx hfrx
      go_wp2_with (go_at_call 40; refine (clone40 A2 c2 p.f2 wr (Kd.C_below HCW.out HB.out) HLW.out HSW.out).mono ?_; rintro e_ w7 ⟨vw, rfl, hvw, hb⟩; obtain ⟨Aw, nw, cw, rfl⟩ : ∃ A n c, vw = .slice A n c := (by obtain ⟨A, c, e_⟩ := Kd.R_slice hvw; exact ⟨A, _, c, e_⟩); obtain ⟨q2, f2, hp⟩ := cl_step HS.out X0.out X1.out YG.out GL.out HB.out.size hvw hb; have HP1 := Aside0.mk hp; have n1_ := Aside0.mk (below_set (v := .slice Aw nw cw) (j := x.toNat * 3 + 2) (below_step HB.out hb) GB.out); clear HB hb HS hvw hp hx2; have HB := n1_; clear n1_)
      have E5 := Aside0.mk (show x.toNat = i from by have := E1.out; omega)
      have n1_ := HP1.out
      rw [E5.out] at n1_
      go_roundg k1
      case measure => have := E1.out; omega
      case rel => exact ⟨wrap64 (x + 1), rfl, ⟨⟨i + 1, _, by have := E1.out; rw [w64_id' (by omega) (by have := HLN.out; have := X1.out; omega)]; omega, by have := E1.out; omega, MS.out, by have h_ := E5.out; rw [h_]; exact n1_⟩⟩, HB⟩
    · have c1 : decide (x < (n5 : Int)) = false := decide_eq_false c
      have HI := Aside0.mk (show i = l0.length from by have := HN5.out; omega)
      have HMS := Aside0.mk (And.intro hm hS)
      clear c e1 e2 hm hS
      go_wp2
      go_ret
      exact ⟨_, rfl, mix_end (by have h_ := HMS.out.1; rw [HI.out] at h_; exact h_) LC.out HMS.out.2, HB.out⟩
end Go.Proofs.Ytngolmiegfgmmaa.Wf
