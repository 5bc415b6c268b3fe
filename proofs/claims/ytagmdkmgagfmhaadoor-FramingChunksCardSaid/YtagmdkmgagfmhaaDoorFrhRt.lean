/- the law FramingRoundTrip, walked. -/
import Derived.Test.YtagmdkmgagfmhaaDoorFrhSt
import Derived.Deep.QuietTactic
import Derived.BigQuiet
import Derived.Deep.LoopGhost
namespace Go.Proofs.YtagmdkmgagfmhaaDoor.Fr
open Go.RowKit Go.Sort Go.Shelf Go.Lib Go.Proofs.YtagmdkmgagfmhaaDoorW.PrintWords Go.Proofs.YtagmdkmgagfmhaaDoorW.PrintLast Go.Proofs.YtagmdkmgagfmhaaDoorW.PrintMore
open Go.Proofs.YtagmdkmgagfmhaaDoor
set_option linter.unusedVariables false
set_option linter.unusedSimpArgs false
attribute [local go_sem] max2_int min2_int max_two min_two

theorem eq_self (bs : List ByteArray) (hn : bs.length ≤ 1000) : glossatorref3_Equal_string.f (bs.length + 1) bs bs = some true := by
  unfold glossatorref3_Equal_string.f
  rw [if_pos rfl]
  have key : ∀ (k i : Nat), i + k = bs.length + 1 → 0 < k → glossatorref3_Equal_string.l0 k bs bs (bs.length : Int) (i : Int) = some true := by
    intro k
    induction k with
    | zero => intro i _ h; omega
    | succ k ih =>
      intro i hi _
      unfold glossatorref3_Equal_string.l0
      by_cases h : i < bs.length
      · rw [if_pos (by omega), if_pos (by omega), if_pos (by omega), if_pos (by omega), if_pos rfl]
        have e : wrap64 ((i : Int) + 1) = ((i + 1 : Nat) : Int) := by unfold wrap64; omega
        rw [e]
        exact ih (i + 1) (by omega) (by omega)
      · rw [if_neg (by omega)]
  exact key (bs.length + 1) 0 (by omega) (by omega)
theorem mod_in (a : Int) (k : Nat) (hk : 0 < k) (hk1 : k ≤ 1000000) : ∃ r : Nat, r < k ∧ glossatorref3_Mod.f a (k : Int) = some (r : Int) := by
  have h1 := Int.tmod_lt_of_pos a (show (0 : Int) < (k : Int) by omega)
  have h2 : -(k : Int) < Int.tmod a (k : Int) := by
    have h_ := Int.tmod_lt_of_pos (-a) (show (0 : Int) < (k : Int) by omega)
    rw [Int.neg_tmod] at h_
    omega
  unfold glossatorref3_Mod.f
  rw [if_neg (by omega)]
  by_cases h : Int.tmod a (k : Int) < 0
  · rw [if_pos h]
    refine ⟨(Int.tmod a (k : Int) + (k : Int)).toNat, by omega, ?_⟩
    congr 1
    unfold wrap64
    omega
  · rw [if_neg h]
    exact ⟨(Int.tmod a (k : Int)).toNat, by omega, by congr 1; omega⟩
theorem map_bl (bs : List ByteArray) : (bs.map bl).map ofL = bs := by
  rw [List.map_map]
  conv => rhs; rw [← List.map_id bs]
  exact List.map_congr_left fun x _ => ofL_bl x

set_option maxHeartbeats 1000000 in
set_option maxRecDepth 100000 in
theorem rt_no (A0 : Option Addr) (c0 : Nat) (bodies : List ByteArray) (cut : Int) (w : World) (hV : Vs w) (hr : Kd.C Kd.string w A0 bodies.length bodies) (hc : bodies.length ≤ c0) (hno : ¬ Fits ((bodies.take (min bodies.length 10)).map bl)) :
    Calls Tryd.prog 3 #[.slice A0 bodies.length c0, .int .i64 cut] w fun e w' => e = .returned (.bool true) ∧ Below w.heap.size w w' := by
  obtain ⟨i9, hi9, _, _, _⟩ := info_parts info9
  obtain ⟨m, hm⟩ : ∃ m, min bodies.length 10 = m := ⟨_, rfl⟩
  have hmn : m ≤ bodies.length := by omega
  have hm10 : m ≤ 10 := by omega
  have hcut := cut_to (P := Tryd.prog) 22 9 .i64 Tryd.underlying22 hi9 A0 bodies.length c0 (m : Int) (by omega) (by omega) hc
  rw [Int.toNat_natCast] at hcut
  have hmin : (if (10 : Int) < (bodies.length : Int) then (10 : Int) else (bodies.length : Int)) = (m : Int) := by split <;> omega
  obtain ⟨bs, hbs⟩ : ∃ bs, bodies.take m = bs := ⟨_, rfl⟩
  have hlen : bs.length = m := by rw [← hbs, List.length_take]; omega
  have hrb : Kd.C Kd.string w A0 bs.length bs := by have h_ := Kd.C_take hr hmn; rw [hbs] at h_; exact h_
  rw [hm, hbs] at hno
  have ST := Aside0.mk (show ∀ w' : World, Vs w' → Kd.C Kd.string w' A0 m bs → Calls Tryd.prog 6 #[.slice A0 m c0] w' fun e w'' => e = .returned (.tuple #[.string ⟨#[]⟩, .bool false]) ∧ Below w'.heap.size w' w'' from fun w' hv hr' => by
    rw [← hlen] at hr'
    have h_ := stream6 A0 c0 bs w' hv hr' (by omega) (by omega)
    rw [hlen] at h_
    refine h_.mono fun e w'' he => ?_
    obtain ⟨⟨hf, _⟩ | ⟨_, rfl⟩, hb⟩ := he
    · exact absurd hf hno
    · exact ⟨rfl, hb⟩)
  have HB := Aside0.mk (Below.refl w.heap.size w)
  have HV := Aside0.mk hV
  have HR := Aside0.mk (show ∀ w', Below w.heap.size w w' → Kd.C Kd.string w' A0 m bs from fun w' hb => by have h_ := Kd.C_below hrb hb; rw [hlen] at h_; exact h_)
  clear hr hc hno hV hi9 hm hmn hm10 hlen hrb hbs
  go_enter Tryd.func3, Tryd.ntmps3
  go_wp2_with (first
    | (go_at_call 5; refine (example5 _ (HV.out.below HB.out)).mono ?_; rintro e_ w5 ⟨rfl, hb⟩; have n1_ := Aside0.mk (below_step HB.out hb); clear HB hb; have HB := n1_; clear n1_)
    | (go_at_call 6; refine (ST.out _ (HV.out.below HB.out) (HR.out _ HB.out)).mono ?_; rintro e_ w6 ⟨rfl, hb⟩; have n1_ := Aside0.mk (below_step HB.out hb); clear HB hb; have HB := n1_; clear n1_))
  go_ret
  exact ⟨rfl, HB.out⟩

set_option maxHeartbeats 2000000 in
set_option maxRecDepth 100000 in
theorem rt_yes (A0 : Option Addr) (c0 : Nat) (bodies : List ByteArray) (cut : Int) (w : World) (hV : Vs w) (hr : Kd.C Kd.string w A0 bodies.length bodies) (hc : bodies.length ≤ c0) (hyes : Fits ((bodies.take (min bodies.length 10)).map bl)) :
    Calls Tryd.prog 3 #[.slice A0 bodies.length c0, .int .i64 cut] w fun e w' => e = .returned (.bool true) ∧ Below w.heap.size w w' := by
  obtain ⟨i9, hi9, _, _, _⟩ := info_parts info9
  obtain ⟨m, hm⟩ : ∃ m, min bodies.length 10 = m := ⟨_, rfl⟩
  have hmn : m ≤ bodies.length := by omega
  have hm10 : m ≤ 10 := by omega
  have hcut := cut_to (P := Tryd.prog) 22 9 .i64 Tryd.underlying22 hi9 A0 bodies.length c0 (m : Int) (by omega) (by omega) hc
  rw [Int.toNat_natCast] at hcut
  have hmin : (if (10 : Int) < (bodies.length : Int) then (10 : Int) else (bodies.length : Int)) = (m : Int) := by split <;> omega
  obtain ⟨bs, hbs⟩ : ∃ bs, bodies.take m = bs := ⟨_, rfl⟩
  have hlen : bs.length = m := by rw [← hbs, List.length_take]; omega
  have hrb : Kd.C Kd.string w A0 bs.length bs := by have h_ := Kd.C_take hr hmn; rw [hbs] at h_; exact h_
  rw [hm, hbs] at hyes
  obtain ⟨S, hS⟩ : ∃ S, ofL (flat (bs.map bl)) = S := ⟨_, rfl⟩
  have hfl := flat_len hyes
  rw [List.length_map] at hfl
  have hSz : S.size = (flat (bs.map bl)).length := by rw [← hS, size_ofL]
  obtain ⟨K, hK⟩ : ∃ K, (flat (bs.map bl)).length = K := ⟨_, rfl⟩
  have ST := Aside0.mk (show ∀ w' : World, Vs w' → Kd.C Kd.string w' A0 m bs → Calls Tryd.prog 6 #[.slice A0 m c0] w' fun e w'' => e = .returned (.tuple #[.string S, .bool true]) ∧ Below w'.heap.size w' w'' from fun w' hv hr' => by
    rw [← hlen] at hr'
    have h_ := stream6 A0 c0 bs w' hv hr' (by omega) (by omega)
    rw [hlen] at h_
    refine h_.mono fun e w'' he => ?_
    obtain ⟨⟨_, rfl⟩ | ⟨hf, _⟩, hb⟩ := he
    · exact ⟨by rw [hS], hb⟩
    · exact absurd hyes hf)
  have SP := Aside0.mk (show ∀ w' : World, Vs w' → Calls Tryd.prog 7 #[.string S] w' fun e w'' => ∃ v, e = .returned (.tuple #[v, .int .i64 (K : Int), .int .i64 0]) ∧ Kd.R Kd.string 9 w'' w'.heap.size (fun _ => True) v bs ∧ Below w'.heap.size w' w'' from fun w' hv => by
    have h_ := split7 S (bs.map bl) [] hyes part_nil (by rw [← hS, bl_ofL, List.append_nil]) (by omega) (by rw [List.length_map]; omega) w' hv
    rw [hK, map_bl] at h_
    exact h_)
  have EQ := Aside0.mk (show ∀ (A1 : Option Addr) (c1 : Nat) (A2 : Option Addr) (c2 : Nat) (w' : World), Kd.C Kd.string w' A1 bs.length bs → bs.length ≤ c1 → Kd.C Kd.string w' A2 bs.length bs → bs.length ≤ c2 → Calls Tryd.prog 8 #[.slice A1 bs.length c1, .slice A2 bs.length c2] w' fun e w'' => e = .returned (.bool true) ∧ Drawn0 w' w'' from fun A1 c1 A2 c2 w' h1 h2 h3 h4 => glossatorref3_Equal_string.calls (bs.length + 1) A1 c1 bs A2 c2 bs true w' h1 h2 h3 h4 (eq_self bs (by omega)))
  rw [hK] at hSz
  have HE := Aside0.mk EQ.out
  clear EQ
  rw [hlen] at HE
  have HLN := Aside0.mk hlen
  have HC0 := Aside0.mk (show m ≤ c0 from by omega)
  have HB := Aside0.mk (Below.refl w.heap.size w)
  have HV := Aside0.mk hV
  by_cases hm0 : m = 0
  · have e1 : ((m : Int) == 0) = true := beq_iff_eq.2 (by omega)
    have e2 : (m == 0) = true := beq_iff_eq.2 (by omega)
    have HR := Aside0.mk (show ∀ w', Below w.heap.size w w' → Kd.C Kd.string w' A0 m bs from fun w' hb => by have h_ := Kd.C_below hrb hb; rw [hlen] at h_; exact h_)
    clear hr hc hyes hV hi9 hm hmn hm10 hlen hrb hbs hS hfl hK hm0
    go_enter Tryd.func3, Tryd.ntmps3
    go_wp2_with (first
      | (go_at_call 5; refine (example5 _ (HV.out.below HB.out)).mono ?_; rintro e_ w5 ⟨rfl, hb⟩; have n1_ := Aside0.mk (below_step HB.out hb); clear HB hb; have HB := n1_; clear n1_)
      | (go_at_call 6; refine (ST.out _ (HV.out.below HB.out) (HR.out _ HB.out)).mono ?_; rintro e_ w6 ⟨rfl, hb⟩; have n1_ := Aside0.mk (below_step HB.out hb); clear HB hb; have HB := n1_; clear n1_)
      | (go_at_call 7; refine (SP.out _ (HV.out.below HB.out)).mono ?_; rintro e_ w7 ⟨v7, rfl, ho, hb⟩; obtain ⟨A7, c7, e7⟩ := Kd.R_slice ho; rw [HLN.out] at e7; subst e7; have HO := Aside0.mk ho; clear ho; have n1_ := Aside0.mk (below_step HB.out hb); clear HB hb; have HB := n1_; clear n1_)
      | (go_at_call 5; refine (example5 _ (HV.out.below (pw_below_drewN HB.out _))).mono ?_; rintro e_ w5 ⟨rfl, hb⟩; have n1_ := Aside0.mk (below_step (pw_below_drewN HB.out _) hb); clear HB hb; have HB := n1_; clear n1_)
      | (go_at_call 8; refine (HE.out _ _ _ _ _ (by have h_ := (Kd.R_reads' HO.out).2.2; rw [HLN.out] at h_; exact h_) (Kd.R_reads' HO.out).2.1 (HR.out _ HB.out) (by have h_ := HC0.out; omega)).mono ?_; rintro e_ w8 ⟨rfl, q_, rfl⟩))
    go_ret
    exact ⟨rfl, HB.out⟩
  · obtain ⟨ad, ea, hx0⟩ := Kd.at_string hrb 0 (by omega) (by omega)
    obtain ⟨b0, hb0⟩ : ∃ b0, rdOf ByteArray.empty bs 0 = b0 := ⟨_, rfl⟩
    have hbm : b0 ∈ bs := by
      rw [← hb0]
      unfold rdOf
      cases hq : bs with
      | nil => rw [hq] at hlen; simp at hlen; omega
      | cons x t => simp
    have hbz : b0.size ≤ 4000 := by rw [size_bl]; exact hyes _ (List.mem_map_of_mem hbm)
    subst ea
    have CL := Aside0.mk (show ∀ w', Below w.heap.size w w' → w'.cell? ad = some (.string b0) from fun w' hb => by
      obtain ⟨ad', ea', hx'⟩ := Kd.at_string (Kd.C_below hrb hb) 0 (by omega) (by omega)
      obtain rfl := Option.some.inj ea'
      rw [hb0] at hx'
      exact (congrArg w'.cell? (show ad = ad.add (Int.toNat 0) from by cases ad; rfl)).trans hx')
    have EN := Aside0.mk (fun w' hv => encode9 b0 hbz w' hv)
    obtain ⟨F, hF⟩ : ∃ F, frameB b0 = F := ⟨_, rfl⟩
    have hFs : F.size = (frame (bl b0)).length := by rw [← hF, frameB, size_ofL]
    have hF0 : 0 < F.size := by rw [hFs]; exact frame_pos _
    have hF1 : F.size ≤ 5000 := by
      have h_ := hline_lt (n := (bl b0).length) (by rw [← size_bl]; omega)
      rw [hFs, frame_len, ← size_bl]
      rw [← size_bl] at h_
      omega
    obtain ⟨r, hr1, hmod⟩ := mod_in cut F.size hF0 (by omega)
    have MD := Aside0.mk (fun w' => glossatorref3_Mod.calls cut (F.size : Int) (r : Int) w' hmod)
    have NX := Aside0.mk (fun w' hv => next_part (F.extract 0 r) (by
      refine ⟨bl b0, by rw [← size_bl]; exact hbz, ?_, ?_⟩
      · rw [take_ext, bl_ofL, ← hF, frameB, bl_ofL]
        exact List.take_prefix _ _
      · rw [take_ext, bl_ofL, List.length_take, ← size_bl]
        omega) w' hv)
    rw [hF] at EN
    have e1 : ((m : Int) == 0) = false := beq_eq_false_iff_ne.2 (by omega)
    have e2 : (m == 0) = false := beq_eq_false_iff_ne.2 (by omega)
    have b1 : 0 < m := by omega
    have b2 : r ≤ F.size := by omega
    have HR := Aside0.mk (show ∀ w', Below w.heap.size w w' → Kd.C Kd.string w' (some ad) m bs from fun w' hb => by have h_ := Kd.C_below hrb hb; rw [hlen] at h_; exact h_)
    clear hr hc hyes hV hi9 hm hmn hlen hrb hbs hS hfl hK hm0 hx0 hb0 hbm hbz hFs hF hmod
    go_enter Tryd.func3, Tryd.ntmps3
    go_wp2_with (first
      | (go_at_call 5; refine (example5 _ (HV.out.below HB.out)).mono ?_; rintro e_ w5 ⟨rfl, hb⟩; have n1_ := Aside0.mk (below_step HB.out hb); clear HB hb; have HB := n1_; clear n1_)
      | (go_at_call 6; refine (ST.out _ (HV.out.below HB.out) (HR.out _ HB.out)).mono ?_; rintro e_ w6 ⟨rfl, hb⟩; have n1_ := Aside0.mk (below_step HB.out hb); clear HB hb; have HB := n1_; clear n1_)
      | (go_at_call 7; refine (SP.out _ (HV.out.below HB.out)).mono ?_; rintro e_ w7 ⟨v7, rfl, ho, hb⟩; obtain ⟨A7, c7, e7⟩ := Kd.R_slice ho; rw [HLN.out] at e7; subst e7; have HO := Aside0.mk ho; clear ho; have n1_ := Aside0.mk (below_step HB.out hb); clear HB hb; have HB := n1_; clear n1_; have c0x := CL.out _ HB.out)
      | (go_at_call 8; refine (HE.out _ _ _ _ _ (by have h_ := (Kd.R_reads' HO.out).2.2; rw [HLN.out] at h_; exact h_) (Kd.R_reads' HO.out).2.1 (HR.out _ HB.out) (by have h_ := HC0.out; omega)).mono ?_; rintro e_ w8 ⟨rfl, q_, rfl⟩)
      | (go_at_call 9; refine (EN.out _ (HV.out.below (pw_below_drewN HB.out _))).mono ?_; rintro e_ w9 ⟨rfl, hb⟩; have n1_ := Aside0.mk (below_step (pw_below_drewN HB.out _) hb); clear HB hb; have HB := n1_; clear n1_)
      | (go_at_call 11; refine (MD.out _).mono ?_; rintro e_ w11 ⟨rfl, q_, rfl⟩)
      | (go_at_call 10; refine (NX.out _ (HV.out.below (pw_below_drewN HB.out _))).mono ?_; rintro e_ w10 ⟨rfl, hb⟩; have n1_ := Aside0.mk (below_step (pw_below_drewN HB.out _) hb); clear HB hb; have HB := n1_; clear n1_))
    go_ret
    exact ⟨rfl, HB.out⟩
theorem round_trip3 (A0 : Option Addr) (c0 : Nat) (bodies : List ByteArray) (cut : Int) (w : World) (hV : Vs w) (hr : Kd.C Kd.string w A0 bodies.length bodies) (hc : bodies.length ≤ c0) :
    Calls Tryd.prog 3 #[.slice A0 bodies.length c0, .int .i64 cut] w fun e w' => e = .returned (.bool true) ∧ Below w.heap.size w w' := by
  by_cases h : Fits ((bodies.take (min bodies.length 10)).map bl)
  · exact rt_yes A0 c0 bodies cut w hV hr hc h
  · exact rt_no A0 c0 bodies cut w hV hr hc h
end Go.Proofs.YtagmdkmgagfmhaaDoor.Fr
