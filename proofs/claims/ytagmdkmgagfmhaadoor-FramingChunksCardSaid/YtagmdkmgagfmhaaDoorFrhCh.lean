/- the law FramingChunks, walked. -/
import Derived.Test.YtagmdkmgagfmhaaDoorFrhRt
import Derived.Test.YtagmdkmgagfmhaaDoorFrhDc
import Derived.Deep.QuietTactic
import Derived.BigQuiet
import Derived.Deep.LoopGhost
namespace Go.Proofs.YtagmdkmgagfmhaaDoor.Fr
open Go.RowKit Go.Sort Go.Shelf Go.Lib Go.Proofs.YtagmdkmgagfmhaaDoorW.PrintWords Go.Proofs.YtagmdkmgagfmhaaDoorW.PrintLast Go.Proofs.YtagmdkmgagfmhaaDoorW.PrintMore
open Go.Proofs.YtagmdkmgagfmhaaDoor
set_option linter.unusedVariables false
set_option linter.unusedSimpArgs false
attribute [local go_sem] max2_int min2_int max_two min_two

theorem info3 : (Tryd.prog.info? 3).map (fun i => (i.zero, i.size, i.bytes)) = some (some (.int .i64 0), 1, 8) := by kernel_rfl
theorem below_grow {w a b : World} {g : Nat} (h : Below w.heap.size w a) (hg : a.grownBy b (some g)) (hge : w.heap.size ≤ g) : Below w.heap.size w b :=
  h.grown hg h.size (fun k hk => by obtain rfl := Option.some.inj hk; exact hge)
set_option maxHeartbeats 1000000 in
set_option maxRecDepth 100000 in
theorem ch_no (A0 : Option Addr) (c0 : Nat) (bodies : List ByteArray) (A1 : Option Addr) (c1 : Nat) (cuts : List Int) (w : World) (hV : Vs w) (hr : Kd.C Kd.string w A0 bodies.length bodies) (hc : bodies.length ≤ c0) (hr1 : Kd.C (Kd.int .i64) w A1 cuts.length cuts) (hc1 : cuts.length ≤ c1) (hno : ¬ Fits ((bodies.take (min bodies.length 8)).map bl)) :
    Calls Tryd.prog 4 #[.slice A0 bodies.length c0, .slice A1 cuts.length c1] w fun e w' => e = .returned (.bool true) ∧ Below w.heap.size w w' := by
  obtain ⟨i9, hi9, _, _, _⟩ := info_parts info9
  obtain ⟨i3, hi3, _, _, _⟩ := info_parts info3
  obtain ⟨m, hm⟩ : ∃ m, min bodies.length 8 = m := ⟨_, rfl⟩
  have hmn : m ≤ bodies.length := by omega
  have hm10 : m ≤ 8 := by omega
  have hcut := cut_to (P := Tryd.prog) 22 9 .i64 Tryd.underlying22 hi9 A0 bodies.length c0 (m : Int) (by omega) (by omega) hc
  rw [Int.toNat_natCast] at hcut
  have hmin : (if (8 : Int) < (bodies.length : Int) then (8 : Int) else (bodies.length : Int)) = (m : Int) := by split <;> omega
  obtain ⟨mc, hmc⟩ : ∃ mc, min cuts.length 40 = mc := ⟨_, rfl⟩
  have hmcn : mc ≤ cuts.length := by omega
  have hmc40 : mc ≤ 40 := by omega
  have hcut2 := cut_to (P := Tryd.prog) 36 3 .i64 Tryd.underlying36 hi3 A1 cuts.length c1 (mc : Int) (by omega) (by omega) hc1
  rw [Int.toNat_natCast] at hcut2
  have hmin2 : (if (40 : Int) < (cuts.length : Int) then (40 : Int) else (cuts.length : Int)) = (mc : Int) := by split <;> omega
  obtain ⟨bs, hbs⟩ : ∃ bs, bodies.take m = bs := ⟨_, rfl⟩
  have hlen : bs.length = m := by rw [← hbs, List.length_take]; omega
  have hrb : Kd.C Kd.string w A0 bs.length bs := by have h_ := Kd.C_take hr hmn; rw [hbs] at h_; exact h_
  rw [hm, hbs] at hno
  have ST := Aside0.mk (show ∀ w' : World, Vs w' → Kd.C Kd.string w' A0 m bs → Calls Tryd.prog 6 #[.slice A0 m c0] w' fun e w'' => e = .returned (.tuple #[.string ⟨#[]⟩, .bool false]) ∧ Below w'.heap.size w' w'' from fun w' hv hr' => by
    rw [← hlen] at hr'
    have h_ := stream6 A0 c0 bs w' hv hr' (by omega) (by omega)
    rw [hlen] at h_
    refine h_.mono fun e w'' he => ?_
    obtain ⟨⟨hf, _⟩ | ⟨_, rfl⟩, hb⟩ := he
    · exact absurd hf hno
    · exact ⟨rfl, hb⟩)
  have HB := Aside0.mk (Below.refl w.heap.size w)
  have HV := Aside0.mk hV
  have HR := Aside0.mk (show ∀ w', Below w.heap.size w w' → Kd.C Kd.string w' A0 m bs from fun w' hb => by have h_ := Kd.C_below hrb hb; rw [hlen] at h_; exact h_)
  clear hr hc hno hV hi9 hi3 hm hmn hm10 hlen hrb hbs hmc hmcn hmc40 hcut2 hmin2 hr1 hc1
  go_enter Tryd.func4, Tryd.ntmps4
  go_wp2_with (first
    | (go_at_call 5; refine (example5 _ (HV.out.below HB.out)).mono ?_; rintro e_ w5 ⟨rfl, hb⟩; have n1_ := Aside0.mk (below_step HB.out hb); clear HB hb; have HB := n1_; clear n1_)
    | (go_at_call 6; refine (ST.out _ (HV.out.below HB.out) (HR.out _ HB.out)).mono ?_; rintro e_ w6 ⟨rfl, hb⟩; have n1_ := Aside0.mk (below_step HB.out hb); clear HB hb; have HB := n1_; clear n1_)
    | (go_at_call 12; refine (newDecoder12 _).mono ?_; rintro e_ w12 ⟨g, rfl, hge, hbk, hb⟩; have GE := Aside0.mk (Nat.le_trans HB.out.size hge); have BK := Aside0.mk hbk; clear hge hbk; have n1_ := Aside0.mk (below_step HB.out hb); clear HB hb; have HB := n1_; clear n1_))
  go_ret
  exact ⟨rfl, HB.out⟩

set_option maxHeartbeats 4000000 in
set_option maxRecDepth 100000 in
theorem ch_yes (A0 : Option Addr) (c0 : Nat) (bodies : List ByteArray) (A1 : Option Addr) (c1 : Nat) (cuts : List Int) (w : World) (hV : Vs w) (hr : Kd.C Kd.string w A0 bodies.length bodies) (hc : bodies.length ≤ c0) (hr1 : Kd.C (Kd.int .i64) w A1 cuts.length cuts) (hc1 : cuts.length ≤ c1) (hyes : Fits ((bodies.take (min bodies.length 8)).map bl)) :
    Calls Tryd.prog 4 #[.slice A0 bodies.length c0, .slice A1 cuts.length c1] w fun e w' => e = .returned (.bool true) ∧ Below w.heap.size w w' := by
  obtain ⟨i9, hi9, _, _, _⟩ := info_parts info9
  obtain ⟨i3, hi3, _, _, _⟩ := info_parts info3
  obtain ⟨m, hm⟩ : ∃ m, min bodies.length 8 = m := ⟨_, rfl⟩
  have hmn : m ≤ bodies.length := by omega
  have hm10 : m ≤ 8 := by omega
  have hcut := cut_to (P := Tryd.prog) 22 9 .i64 Tryd.underlying22 hi9 A0 bodies.length c0 (m : Int) (by omega) (by omega) hc
  rw [Int.toNat_natCast] at hcut
  have hmin : (if (8 : Int) < (bodies.length : Int) then (8 : Int) else (bodies.length : Int)) = (m : Int) := by split <;> omega
  obtain ⟨mc, hmc⟩ : ∃ mc, min cuts.length 40 = mc := ⟨_, rfl⟩
  have hmcn : mc ≤ cuts.length := by omega
  have hmc40 : mc ≤ 40 := by omega
  have hcut2 := cut_to (P := Tryd.prog) 36 3 .i64 Tryd.underlying36 hi3 A1 cuts.length c1 (mc : Int) (by omega) (by omega) hc1
  rw [Int.toNat_natCast] at hcut2
  have hmin2 : (if (40 : Int) < (cuts.length : Int) then (40 : Int) else (cuts.length : Int)) = (mc : Int) := by split <;> omega
  obtain ⟨bs, hbs⟩ : ∃ bs, bodies.take m = bs := ⟨_, rfl⟩
  have hlen : bs.length = m := by rw [← hbs, List.length_take]; omega
  have hrb : Kd.C Kd.string w A0 bs.length bs := by have h_ := Kd.C_take hr hmn; rw [hbs] at h_; exact h_
  rw [hm, hbs] at hyes
  obtain ⟨S, hS⟩ : ∃ S, ofL (flat (bs.map bl)) = S := ⟨_, rfl⟩
  have hfl := flat_len hyes
  rw [List.length_map] at hfl
  have hSz : S.size = (flat (bs.map bl)).length := by rw [← hS, size_ofL]
  have hS1 : S.size ≤ 40000 := by omega
  have ST := Aside0.mk (show ∀ w' : World, Vs w' → Kd.C Kd.string w' A0 m bs → Calls Tryd.prog 6 #[.slice A0 m c0] w' fun e w'' => e = .returned (.tuple #[.string S, .bool true]) ∧ Below w'.heap.size w' w'' from fun w' hv hr' => by
    rw [← hlen] at hr'
    have h_ := stream6 A0 c0 bs w' hv hr' (by omega) (by omega)
    rw [hlen] at h_
    refine h_.mono fun e w'' he => ?_
    obtain ⟨⟨_, rfl⟩ | ⟨hf, _⟩, hb⟩ := he
    · exact ⟨by rw [hS], hb⟩
    · exact absurd hyes hf)
  have EQ := Aside0.mk (show ∀ (A1 : Option Addr) (c1 : Nat) (A2 : Option Addr) (c2 : Nat) (w' : World), Kd.C Kd.string w' A1 bs.length bs → bs.length ≤ c1 → Kd.C Kd.string w' A2 bs.length bs → bs.length ≤ c2 → Calls Tryd.prog 8 #[.slice A1 bs.length c1, .slice A2 bs.length c2] w' fun e w'' => e = .returned (.bool true) ∧ Drawn0 w' w'' from fun A1 c1 A2 c2 w' h1 h2 h3 h4 => glossatorref3_Equal_string.calls (bs.length + 1) A1 c1 bs A2 c2 bs true w' h1 h2 h3 h4 (eq_self bs (by omega)))
  have HE := Aside0.mk EQ.out
  clear EQ
  rw [hlen] at HE
  have HLN := Aside0.mk hlen
  have HC0 := Aside0.mk (show m ≤ c0 from by omega)
  have HB := Aside0.mk (Below.refl w.heap.size w)
  have HV := Aside0.mk hV
  have HY := Aside0.mk hyes
  have HM8 := Aside0.mk hm10
  have HSE := Aside0.mk hSz
  have HSB := Aside0.mk (show bl S = flat (bs.map bl) from by rw [← hS, bl_ofL])
  have HR := Aside0.mk (show ∀ w', Below w.heap.size w w' → Kd.C Kd.string w' A0 m bs from fun w' hb => by have h_ := Kd.C_below hrb hb; rw [hlen] at h_; exact h_)
  have HCU := Aside0.mk (And.intro hr1 hmcn)
  have HMC := Aside0.mk hmc40
  clear hr hc hyes hV hi9 hi3 hm hmn hm10 hlen hrb hbs hS hfl hSz hmc hmcn hr1 hc1
  go_enter Tryd.func4, Tryd.ntmps4
  go_wp2_with (first
    | (go_at_call 6; refine (ST.out _ (HV.out.below HB.out) (HR.out _ HB.out)).mono ?_; rintro e_ w6 ⟨rfl, hb⟩; have n1_ := Aside0.mk (below_step HB.out hb); clear HB hb; have HB := n1_; clear n1_)
    | (go_at_call 12; refine (newDecoder12 _).mono ?_; rintro e_ w12 ⟨g, rfl, hge, hbk, hb⟩; have GE := Aside0.mk (Nat.le_trans HB.out.size hge); have BK := Aside0.mk hbk; clear hge hbk; have n1_ := Aside0.mk (below_step HB.out hb); clear HB hb; have HB := n1_; clear n1_)
    | (go_at_call 5; refine (example5 _ (HV.out.below HB.out)).mono ?_; rintro e_ w5 ⟨rfl, hb⟩; have n1_ := Aside0.mk (below_step HB.out hb); clear HB hb; have HB := n1_; clear n1_))
  clear hcut hmin hcut2 hmin2
  go_loopg [8, 9, 48] mc (fun gq s8 s9 s48 wx => ∃ (dn td : List (List UInt8)) (p : List UInt8) (rest : ByteArray) (i : Nat), bs.map bl = dn ++ td ∧ i + gq = mc ∧ s9 = .string rest ∧ s48 = .int .i64 (i : Int) ∧ flat td = p ++ bl rest ∧ Part p ∧ wx.heap[g]? = some (.cells #[.string (ofL p), .bool false] 50 (0, 0)) ∧ Kd.R Kd.string 9 wx w.heap.size (fun k => k ≠ g) s8 (dn.map ofL) ∧ Below w.heap.size w wx)
  case atStart => exact ⟨[], bs.map bl, [], S, 0, rfl, by omega, rfl, rfl, HSB.out.symm, part_nil, BK.out, Kd.R_nil _ _ _ _ _, HB.out⟩
  case round =>
    obtain ⟨dn, td, p, rest, i, hdt, hig, rfl, rfl, hfp, hp, hbk, ho, hbx⟩ := hrel
    clear HB BK
    have HB := Aside0.mk hbx
    have BK := Aside0.mk hbk
    obtain ⟨A8, c8, rfl⟩ := Kd.R_slice ho
    rw [List.length_map] at ho
    have HO := Aside0.mk ho
    have hft : Fits td := fun x hx => HY.out x (by rw [hdt]; exact List.mem_append_right _ hx)
    have hsz : S.size = (flat dn).length + p.length + rest.size := by
      rw [HSE.out, hdt, flat_append, hfp, size_bl rest]
      simp only [List.length_append]
      omega
    have hml : dn.length + td.length ≤ 8 := by
      have h_ := congrArg List.length hdt
      rw [List.length_map, List.length_append, HLN.out] at h_
      have h2_ := HM8.out
      omega
    have HMC2 := HMC.out
    have HIG := Aside0.mk hig
    have HDT := Aside0.mk hdt
    by_cases c : i < mc
    · have e1 : decide ((i : Int) < (mc : Int)) = true := decide_eq_true (by omega)
      obtain ⟨k1, rfl⟩ : ∃ k1, gk = k1 + 1 := ⟨gk - 1, by omega⟩
      obtain ⟨ad, ea, hx⟩ := Kd.at_int (Kd.C_below HCU.out.1 HB.out) (i : Int) (by omega) (by have h_ := HCU.out.2; omega)
      rw [Int.toNat_natCast] at hx
      obtain ⟨cx, hcx⟩ : ∃ cx, rd cuts (i : Int) = cx := ⟨_, rfl⟩
      rw [hcx] at hx
      obtain ⟨mr, hmr⟩ : ∃ mr : Nat, min rest.size 60 = mr := ⟨_, rfl⟩
      have hmrs : mr ≤ rest.size := by omega
      have hmr60 : mr ≤ 60 := by omega
      have hmin3 : (if (60 : Int) < (rest.size : Int) then (60 : Int) else (rest.size : Int)) = (mr : Int) := by split <;> omega
      obtain ⟨r, hr1, hmod⟩ := mod_in cx (mr + 1) (by omega) (by omega)
      rw [show ((mr + 1 : Nat) : Int) = (mr : Int) + 1 from by omega] at hmod
      have MD := Aside0.mk (fun w' => glossatorref3_Mod.calls cx ((mr : Int) + 1) (r : Int) w' hmod)
      obtain ⟨ys, cs, p', htd, hq, hp'⟩ := cut_stream td hft (p ++ (bl rest).take r) ⟨(bl rest).drop r, by rw [List.append_assoc, List.take_append_drop, hfp]⟩
      obtain ⟨X, hX⟩ : ∃ X, rest.extract 0 r = X := ⟨_, rfl⟩
      have hXb : bl X = (bl rest).take r := by rw [← hX, take_ext, bl_ofL]
      have hXs : X.size ≤ rest.size := by rw [size_bl, hXb, List.length_take, ← size_bl]; omega
      obtain ⟨R', hR'⟩ : ∃ R', rest.extract r rest.size = R' := ⟨_, rfl⟩
      have hRb : bl R' = (bl rest).drop r := by rw [← hR', drop_ext]
      obtain ⟨PB, hPB⟩ : ∃ PB, ofL p' = PB := ⟨_, rfl⟩
      have hPs : PB.size = p'.length := by rw [← hPB, size_ofL]
      have hRs : R'.size = rest.size - r := by rw [size_bl, hRb, List.length_drop, ← size_bl]
      have hqs : p.length + r = (flat ys).length + p'.length := by
        have h_ := congrArg List.length hq
        rw [List.length_append, List.length_append, List.length_take, ← size_bl] at h_
        omega
      have hcs : flat cs = p' ++ bl R' := by
        have h_ : flat ys ++ flat cs = flat ys ++ (p' ++ bl R') := by
          rw [← flat_append, ← htd, hfp, ← List.append_assoc, ← hq, hRb, List.append_assoc, List.take_append_drop]
        exact List.append_cancel_left h_
      have e2 : decide ((PB.size : Int) + (R'.size : Int) > (S.size : Int)) = false := decide_eq_false (by omega)
      have e3 : decide ((S.size : Int) < (PB.size : Int) + (R'.size : Int)) = false := decide_eq_false (by omega)
      have b1 : PB.size ≤ 40000 := by omega
      have b2 : R'.size ≤ 40000 := by omega
      have b3 : r ≤ rest.size := by omega
      have hasl : ys.length ≤ 8 := by rw [htd, List.length_append] at hml; omega
      have WR := Aside0.mk (show ∀ w' : World, Vs w' → w'.heap[g]? = some (.cells #[.string (ofL p), .bool false] 50 (0, 0)) → Calls Tryd.prog 13 #[.pointer (some ⟨g, 0, none⟩), .string X] w' fun e w'' => ∃ v, e = .returned (.tuple #[v, .int .i64 0]) ∧ Kd.R Kd.string 9 w'' w'.heap.size (fun k => k ≠ g) v (ys.map ofL) ∧ w''.heap[g]? = some (.cells #[.string PB, .bool false] 50 (0, 0)) ∧ w'.grownBy w'' (some g) from fun w' hv hb => by
        rw [← hPB]
        exact write13 g (ofL p) X ys p' (fun x hx => hft x (by rw [htd]; exact List.mem_append_left _ hx)) hp' (by rw [bl_ofL, hXb]; exact hq) (by rw [size_ofL]; omega) (by omega) w' hv hb)
      have HL2 := Aside0.mk (show dn.length ≤ 8 ∧ ys.length ≤ 8 from ⟨by omega, hasl⟩)
      have HPX := Aside0.mk hp'
      have HCS := Aside0.mk hcs
      have HTD := Aside0.mk htd
      have HPB := Aside0.mk hPB
      subst ea
      clear hbx hbk ho hft hsz hml hig hdt hfp hp hcx hmr hmod htd hq hp' hXb hXs hRb hPB hPs hRs hqs hcs hasl hr1
      go_wp2_with (first
        | (go_at_call 11; refine (MD.out _).mono ?_; rintro e_ w11 ⟨rfl, q_, rfl⟩)
        | (go_at_call 13; refine (WR.out _ (HV.out.below (pw_below_drewN HB.out _)) (blk_drewN BK.out _)).mono ?_; rintro e_ w13 ⟨v13, rfl, ho, hbk, hgr⟩; obtain ⟨A13, c13, e13⟩ := Kd.R_slice ho; rw [List.length_map] at e13; subst e13; have HP := Aside0.mk (Kd.R_reads' ho); have n1_ := Aside0.mk (below_grow (pw_below_drewN HB.out _) hgr GE.out); have n3_ := Aside0.mk (Kd.R_grown (Kd.R_drewN HO.out _) hgr (fun k hk e => hk (Option.some.inj e))); clear HB HO BK; have HB := n1_; have BK := Aside0.mk hbk; have HO := n3_; clear n1_ n3_ ho hbk hgr)
        | (at_builtin; refine Kd.R_append_rows Kd.string (w0 := w) (W := w13) w.heap.size rfl (.tmp 68) (.tmp 69) 22 9 (.string ByteArray.empty) 16 rfl Tryd.underlying22 info9 rfl (by decide) (by omega) (.slice A8 dn.length c8) (dn.map ofL) (ys.map ofL) A13 ys.length c13 (fun k => k ≠ g) (fun _ => False) rfl rfl HO.out (by have h_ := HP.out.2.2; rw [List.length_map] at h_; exact h_) (fun _ _ h => h) (fun _ h => h.elim) (Kd.freshB BK.out) HB.out HB.out.size (by rw [List.length_map]; have h_ := HL2.out; omega) ?_; intro v1 w2 ho hb hg hat; have n1_ := Aside0.mk (blk_grown BK.out hg (Kd.R_ne HO.out BK.out (by decide))); have n2_ := Aside0.mk hb; have n3_ := Aside0.mk ho; clear HB BK HO ho hb hg hat; have HB := n2_; have BK := n1_; have HO := n3_; clear n1_ n2_ n3_)
        | (go_at_call 14; refine (buffered14 g PB _ BK.out).mono ?_; rintro e_ w14 ⟨rfl, hb⟩; have n1_ := Aside0.mk (below_step HB.out hb); have n2_ := Aside0.mk (blk_below BK.out hb); have n3_ := Aside0.mk (Kd.R_below HO.out hb); clear BK HO HB hb; have HB := n1_; have BK := n2_; have HO := n3_; clear n1_ n2_ n3_))
      go_roundg k1
      case measure => exact Nat.lt_succ_self _
      case rel => exact ⟨dn ++ ys, cs, p', R', i + 1, by rw [HDT.out, HTD.out, List.append_assoc], by have h_ := HIG.out; omega, rfl, congrArg (Value.int .i64) (by omega), HCS.out, HPX.out, by rw [HPB.out]; exact BK.out, by rw [List.map_append]; exact HO.out, HB.out⟩
    · have e1 : decide ((i : Int) < (mc : Int)) = false := decide_eq_false (by omega)
      have b1 : mc ≤ i := by omega
      have WR := Aside0.mk (show ∀ w' : World, Vs w' → w'.heap[g]? = some (.cells #[.string (ofL p), .bool false] 50 (0, 0)) → Calls Tryd.prog 13 #[.pointer (some ⟨g, 0, none⟩), .string rest] w' fun e w'' => ∃ v, e = .returned (.tuple #[v, .int .i64 0]) ∧ Kd.R Kd.string 9 w'' w'.heap.size (fun k => k ≠ g) v (td.map ofL) ∧ w''.heap[g]? = some (.cells #[.string ⟨#[]⟩, .bool false] 50 (0, 0)) ∧ w'.grownBy w'' (some g) from fun w' hv hb =>
        write13 g (ofL p) rest td [] hft part_nil (by rw [bl_ofL, List.append_nil]; exact hfp.symm) (by rw [size_ofL]; omega) (by omega) w' hv hb)
      have HL2 := Aside0.mk (show dn.length ≤ 8 ∧ td.length ≤ 8 from ⟨by omega, by omega⟩)
      have HBS := Aside0.mk (show dn.map ofL ++ td.map ofL = bs from by rw [← List.map_append, ← hdt, map_bl])
      clear hbx hbk ho hft hsz hml hig hdt hfp hp
      go_wp2_with (first
        | (go_at_call 13; refine (WR.out _ (HV.out.below HB.out) BK.out).mono ?_; rintro e_ w13 ⟨v13, rfl, ho, hbk, hgr⟩; obtain ⟨A13, c13, e13⟩ := Kd.R_slice ho; rw [List.length_map] at e13; subst e13; have HP := Aside0.mk (Kd.R_reads' ho); have n1_ := Aside0.mk (below_grow HB.out hgr GE.out); have n3_ := Aside0.mk (Kd.R_grown HO.out hgr (fun k hk e => hk (Option.some.inj e))); clear HB HO BK; have HB := n1_; have BK := Aside0.mk hbk; have HO := n3_; clear n1_ n3_ ho hbk hgr)
        | (at_builtin; refine Kd.R_append_rows Kd.string (w0 := w) (W := w13) w.heap.size rfl (.tmp 90) (.tmp 91) 22 9 (.string ByteArray.empty) 16 rfl Tryd.underlying22 info9 rfl (by decide) (by omega) (.slice A8 dn.length c8) (dn.map ofL) (td.map ofL) A13 td.length c13 (fun k => k ≠ g) (fun _ => False) rfl rfl HO.out (by have h_ := HP.out.2.2; rw [List.length_map] at h_; exact h_) (fun _ _ h => h) (fun _ h => h.elim) (Kd.freshB BK.out) HB.out HB.out.size (by rw [List.length_map]; have h_ := HL2.out; omega) ?_; intro v1 w2 ho hb hg hat; have n1_ := Aside0.mk (blk_grown BK.out hg (Kd.R_ne HO.out BK.out (by decide))); have n2_ := Aside0.mk hb; rw [HBS.out] at ho; obtain ⟨A9, c9, e9⟩ := Kd.R_slice ho; rw [HLN.out] at e9; subst e9; have n3_ := Aside0.mk ho; clear HB BK HO ho hb hg hat; have HB := n2_; have BK := n1_; have HO := n3_; clear n1_ n2_ n3_)
        | (go_at_call 5; refine (example5 _ (HV.out.below HB.out)).mono ?_; rintro e_ w5 ⟨rfl, hb⟩; have n1_ := Aside0.mk (below_step HB.out hb); have n2_ := Aside0.mk (blk_below BK.out hb); have n3_ := Aside0.mk (Kd.R_below HO.out hb); clear BK HO HB hb; have HB := n1_; have BK := n2_; have HO := n3_; clear n1_ n2_ n3_)
        | (go_at_call 8; refine (HE.out _ _ _ _ _ (by have h_ := (Kd.R_reads' HO.out).2.2; rw [HLN.out] at h_; exact h_) (Kd.R_reads' HO.out).2.1 (HR.out _ HB.out) (by have h_ := HC0.out; omega)).mono ?_; rintro e_ w8 ⟨rfl, q_, rfl⟩)
        | (go_at_call 14; refine (buffered14 g ⟨#[]⟩ _ (blk_drewN BK.out _)).mono ?_; rintro e_ w14 ⟨rfl, hb⟩; have n1_ := Aside0.mk (below_step (pw_below_drewN HB.out _) hb); have n2_ := Aside0.mk (blk_below (blk_drewN BK.out _) hb); have n3_ := Aside0.mk (Kd.R_below (Kd.R_drewN HO.out _) hb); clear BK HO HB hb; have HB := n1_; have BK := n2_; have HO := n3_; clear n1_ n2_ n3_))
      go_ret
      exact ⟨rfl, HB.out⟩
theorem chunks4 (A0 : Option Addr) (c0 : Nat) (bodies : List ByteArray) (A1 : Option Addr) (c1 : Nat) (cuts : List Int) (w : World) (hV : Vs w) (hr : Kd.C Kd.string w A0 bodies.length bodies) (hc : bodies.length ≤ c0) (hr1 : Kd.C (Kd.int .i64) w A1 cuts.length cuts) (hc1 : cuts.length ≤ c1) :
    Calls Tryd.prog 4 #[.slice A0 bodies.length c0, .slice A1 cuts.length c1] w fun e w' => e = .returned (.bool true) ∧ Below w.heap.size w w' := by
  by_cases h : Fits ((bodies.take (min bodies.length 8)).map bl)
  · exact ch_yes A0 c0 bodies A1 c1 cuts w hV hr hc hr1 hc1 h
  · exact ch_no A0 c0 bodies A1 c1 cuts w hV hr hc hr1 hc1 h
end Go.Proofs.YtagmdkmgagfmhaaDoor.Fr
