/- frameExample, stream, framing.Split. -/
import Derived.Test.YtagmdkmgagfmhaaDoorFrhNx
import Derived.Deep.QuietTactic
import Derived.BigQuiet
import Derived.Deep.LoopGhost
namespace Go.Proofs.YtagmdkmgagfmhaaDoor.Fr
open Go.RowKit Go.Sort Go.Shelf Go.Lib Go.Proofs.YtagmdkmgagfmhaaDoorW.PrintWords Go.Proofs.YtagmdkmgagfmhaaDoorW.PrintLast Go.Proofs.YtagmdkmgagfmhaaDoorW.PrintMore
open Go.Proofs.YtagmdkmgagfmhaaDoor
set_option linter.unusedVariables false
set_option linter.unusedSimpArgs false

theorem info9 : (Tryd.prog.info? 9).map (fun i => (i.zero, i.size, i.bytes)) = some (some (.string ByteArray.empty), 1, 16) := by kernel_rfl
theorem drop_ext (s : ByteArray) (o : Nat) : bl (s.extract o s.size) = (bl s).drop o := by
  unfold bl
  rw [Lib.extract_data, List.take_of_length_le]
  rw [List.length_drop, ← Lib.size_eq]; exact Nat.le_refl _
theorem ext_eq (s : ByteArray) (a b : Nat) : s.extract a b = ofL (((bl s).drop a).take (b - a)) := by
  refine bl_inj ?_
  rw [bl_ofL]
  unfold bl
  rw [Lib.extract_data]

/-- Next at a proper beginning of a frame. -/
theorem next_part (s : ByteArray) (hp : Part (bl s)) (w : World) (hV : Vs w) :
    Calls Tryd.prog 10 #[.string s] w fun e w' => e = .returned (.tuple #[.string ⟨#[]⟩, .int .i64 0, .int .i64 0]) ∧ Below w.heap.size w w' := by
  obtain ⟨b, hb, h1, h2⟩ := hp
  have hh := hline_lt hb
  have hh0 := hline_pos b.length
  have hsz : s.size ≤ 1000000 := by rw [size_bl]; rw [frame_len] at h2; omega
  cases cut_frame hb h1 h2 with
  | first hx hl => exact next_first s hx (by rw [size_bl]; exact hl) w hV
  | second t h ht hl =>
    have hlen : s.size = (hline b.length).length + 2 + t.length := by rw [size_bl, h]; simp [crlf]; omega
    refine next_second s hsz b.length (hline b.length).length ((hline b.length).length + 2) hb hh (by omega) rfl (by omega) ?_ ?_ ?_ (by omega) w hV
    · rw [h]; exact index_line t
    · rw [h]; simp
    · rw [h, ← List.append_assoc, List.drop_left' (by simp [crlf])]; exact ht
  | third t h hl =>
    have hlen : s.size = (hline b.length).length + 4 + t.length := by rw [size_bl, h]; simp [crlf]; omega
    refine next_third s hsz b.length (hline b.length).length ((hline b.length).length + 2) hb hh (by omega) rfl (by omega) ?_ ?_ ?_ (by omega) (by omega) w hV
    · rw [h]; exact index_line _
    · rw [h]; simp
    · rw [h, ← List.append_assoc, List.drop_left' (by simp [crlf])]; exact index_here crlf t (by simp [crlf])
/-- Next at a whole frame, whatever follows. -/
theorem next_frame (s : ByteArray) (b r : List UInt8) (hb : b.length ≤ 4000) (hs : s.size ≤ 1000000) (h : bl s = frame b ++ r) (w : World) (hV : Vs w) :
    Calls Tryd.prog 10 #[.string s] w fun e w' => e = .returned (.tuple #[.string (ofL b), .int .i64 ((frame b).length : Int), .int .i64 0]) ∧ Below w.heap.size w w' := by
  have hh := hline_lt hb
  have hh0 := hline_pos b.length
  have hfl := frame_len b
  have hlen : s.size = (frame b).length + r.length := by rw [size_bl, h]; simp
  have h' : bl s = hline b.length ++ (crlf ++ (crlf ++ (b ++ r))) := by rw [h]; simp [frame, List.append_assoc]
  have hd : (bl s).drop ((hline b.length).length + 2) = crlf ++ (b ++ r) := by
    rw [h', ← List.append_assoc, List.drop_left' (by simp [crlf])]
  refine (next_whole s hs b.length (hline b.length).length ((hline b.length).length + 2) hb hh (by omega) rfl (by omega) ?_ ?_ ?_ (by omega) (by omega) w hV).mono fun e w' he => ?_
  · rw [h']; exact index_line _
  · rw [h']; simp
  · rw [hd]; exact index_here crlf _ (by simp [crlf])
  · obtain ⟨rfl, hb'⟩ := he
    refine ⟨?_, hb'⟩
    have e1 : s.extract ((hline b.length).length + 2 + 2) ((hline b.length).length + 2 + 2 + b.length) = ofL b := by
      rw [ext_eq, ← List.drop_drop, hd]
      congr 1
      rw [List.drop_left' (by simp [crlf]), Nat.add_sub_cancel_left]
      simp
    rw [e1]
    congr 5
    rw [hfl]

theorem ex_frame : frameB ⟨#[104, 105]⟩ = ⟨#[67, 111, 110, 116, 101, 110, 116, 45, 76, 101, 110, 103, 116, 104, 58, 32, 50, 13, 10, 13, 10, 104, 105]⟩ := by
  unfold frameB frame hline
  rw [show (bl ⟨#[104, 105]⟩).length = 2 from rfl, digits1 (by omega)]
  rfl
set_option maxHeartbeats 1000000 in
set_option maxRecDepth 100000 in
theorem example5 (w : World) (hV : Vs w) :
    Calls Tryd.prog 5 #[] w fun e w' => e = .returned (.bool true) ∧ Below w.heap.size w w' := by
  have EN := encode9 ⟨#[104, 105]⟩ (by decide) w hV
  rw [ex_frame] at EN
  go_enter Tryd.func5, Tryd.ntmps5
  go_wp2_with (go_at_call 9; refine EN.mono ?_; rintro e_ w1 ⟨rfl, hb⟩)
  go_ret
  exact ⟨rfl, hb⟩

set_option maxHeartbeats 2000000 in
set_option maxRecDepth 100000 in
theorem split7 (s : ByteArray) (bs : List (List UInt8)) (p : List UInt8) (hf : Fits bs) (hp : Part p) (hs : bl s = flat bs ++ p) (hsz : s.size ≤ 1000000) (hbs : bs.length ≤ 100) (w : World) (hV : Vs w) :
    Calls Tryd.prog 7 #[.string s] w fun e w' => ∃ v, e = .returned (.tuple #[v, .int .i64 ((flat bs).length : Int), .int .i64 0]) ∧ Kd.R Kd.string 9 w' w.heap.size (fun _ => True) v (bs.map ofL) ∧ Below w.heap.size w w' := by
  have HB := Aside0.mk (Below.refl w.heap.size w)
  have HV := Aside0.mk hV
  have HF := Aside0.mk (And.intro hf (And.intro hp (And.intro hs (And.intro hsz hbs))))
  clear hf hp hs hsz hbs hV
  go_enter Tryd.func7, Tryd.ntmps7
  go_wp2
  go_loopg [5, 6] bs.length (fun gq s5 s6 wx => ∃ dn td, bs = dn ++ td ∧ gq = td.length ∧ s6 = .int .i64 ((flat dn).length : Int) ∧ Kd.R Kd.string 9 wx w.heap.size (fun _ => True) s5 (dn.map ofL) ∧ Below w.heap.size w wx)
  case atStart => exact ⟨[], bs, rfl, rfl, rfl, Kd.R_nil _ _ _ _ _, HB.out⟩
  case round =>
    obtain ⟨dn, td, hdt, rfl, rfl, ho, hbx⟩ := hrel
    clear HB
    have HB := Aside0.mk hbx
    obtain ⟨A5, c5, rfl⟩ := Kd.R_slice ho
    rw [List.length_map] at ho
    have HO := Aside0.mk ho
    have HD := Aside0.mk hdt
    have hsl : s.size = (flat dn).length + (flat td ++ p).length := by
      have h_ := HF.out.2.2.1
      rw [size_bl, h_, hdt, flat_append, List.append_assoc, List.length_append]
    obtain ⟨o, hoe⟩ : ∃ o, o = (flat dn).length := ⟨_, rfl⟩
    have hsz := HF.out.2.2.2.1
    have b1 : o ≤ s.size := by omega
    have b2 : s.size ≤ 1000000 := hsz
    have hrest : bl (s.extract o s.size) = flat td ++ p := by
      have h_ := HF.out.2.2.1
      rw [drop_ext, h_, hdt, flat_append, List.append_assoc, hoe, List.drop_left]
    have hrs : (s.extract o s.size).size ≤ 1000000 := by rw [ByteArray.size_extract]; omega
    have HL := Aside0.mk (show dn.length ≤ 100 from by have h_ := HF.out.2.2.2.2; rw [hdt, List.length_append] at h_; omega)
    have HFT := Aside0.mk (show Fits td from fun x hx => HF.out.1 x (by rw [hdt]; exact List.mem_append_right _ hx))
    rw [← hoe]
    have HOE := Aside0.mk hoe
    cases td with
    | nil =>
      have NP := Aside0.mk (fun w' hv => next_part (s.extract o s.size) (by rw [hrest]; exact HF.out.2.1) w' hv)
      clear hbx ho hdt hsl hoe hsz hrest hrs
      go_wp2_with (go_at_call 10; refine (NP.out _ (HV.out.below HB.out)).mono ?_; rintro e_ w1 ⟨rfl, hb⟩; have HB1 := Aside0.mk hb; clear hb)
      go_ret3
      have hbe : bs = dn := by rw [HD.out, List.append_nil]
      refine ⟨_, by rw [hbe, ← HOE.out]; rfl, ?_, below_step HB.out HB1.out⟩
      rw [hbe]
      exact Kd.R_below HO.out HB1.out
    | cons b t =>
      have hbl : b.length ≤ 4000 := HFT.out b List.mem_cons_self
      have NF := Aside0.mk (fun w' hv => next_frame (s.extract o s.size) b (flat t ++ p) hbl hrs (by rw [hrest, flat_cons, List.append_assoc]) w' hv)
      have hk0 := frame_pos b
      have hk1 : o + (frame b).length ≤ s.size := by rw [hsl, ← hoe, flat_cons]; simp only [List.length_append]; omega
      obtain ⟨k, hk⟩ : ∃ k, (frame b).length = k := ⟨_, rfl⟩
      rw [hk] at NF hk0 hk1
      have HK := Aside0.mk hk
      have c1 : ((k : Int) == 0) = false := beq_eq_false_iff_ne.2 (by omega)
      have b3 : k ≤ s.size := by omega
      clear hbx ho hdt hsl hoe hsz hrest hrs hbl hk hk0
      go_wp2_with (first
        | (go_at_call 10; refine (NF.out _ (HV.out.below HB.out)).mono ?_; rintro e_ w1 ⟨rfl, hb⟩; have HB1 := Aside0.mk (hb); have n1_ := Aside0.mk (below_step HB.out hb); clear HB hb; have HB := n1_; clear n1_)
        | (at_builtin; refine Kd.R_append Kd.string (w0 := w) (W := w1) w.heap.size rfl (.tmp 25) (.tmp 27) 22 9 (.string ByteArray.empty) 16 rfl Tryd.underlying22 info9 rfl (by decide) (by omega) (.slice A5 dn.length c5) (dn.map ofL) (ofL b) [.string (ofL b)] (fun _ => True) (fun _ => False) rfl rfl rfl (fun _ h => h.elim) (fun _ _ => trivial) (Kd.R_below HO.out HB1.out) HB.out HB.out.size (by rw [List.length_map]; have h_ := HL.out; omega) ?_; intro v1 w2 ho hb hg hat; clear hg hat; have HO2 := Aside0.mk ho; have HB2 := Aside0.mk hb; clear ho hb))
      go_roundg t.length
      case measure => exact Nat.lt_succ_self _
      case rel => exact ⟨dn ++ [b], t, by rw [HD.out]; simp, rfl, congrArg (Value.int .i64) (by rw [flat_append, List.length_append, HOE.out, ← HK.out]; simp [flat]), by rw [List.map_append]; exact HO2.out, HB2.out⟩

theorem size_ofL (l : List UInt8) : (ofL l).size = l.length := by rw [size_bl, bl_ofL]
theorem flat_snoc (done : List (List UInt8)) (b : List UInt8) : flat (done ++ [b]) = flat done ++ frame b := by rw [flat_append]; simp [flat]
theorem join_B (dn : List ByteArray) (b : ByteArray) : ofL (flat (dn.map bl)) ++ frameB b = ofL (flat ((dn ++ [b]).map bl)) := by
  refine bl_inj ?_
  rw [bl_append, bl_ofL, bl_ofL, frameB, bl_ofL, List.map_append, List.map_cons, List.map_nil, flat_snoc]
set_option maxHeartbeats 2000000 in
set_option maxRecDepth 100000 in
theorem stream6 (A0 : Option Addr) (c0 : Nat) (bs : List ByteArray) (w : World) (hV : Vs w) (hr : Kd.C Kd.string w A0 bs.length bs) (hc : bs.length ≤ c0) (hn : bs.length ≤ 100) :
    Calls Tryd.prog 6 #[.slice A0 bs.length c0] w fun e w' => ((Fits (bs.map bl) ∧ e = .returned (.tuple #[.string (ofL (flat (bs.map bl))), .bool true])) ∨ (¬ Fits (bs.map bl) ∧ e = .returned (.tuple #[.string ⟨#[]⟩, .bool false]))) ∧ Below w.heap.size w w' := by
  have HB := Aside0.mk (Below.refl w.heap.size w)
  have HV := Aside0.mk hV
  have HR := Aside0.mk hr
  have HC := Aside0.mk hc
  have HN := Aside0.mk hn
  obtain ⟨m, hm⟩ : ∃ m, bs.length = m := ⟨_, rfl⟩
  have HM := Aside0.mk hm
  rw [hm]
  clear hr hc hn hV hm
  go_enter Tryd.func6, Tryd.ntmps6
  go_wp2
  go_loopg [4, 10] m (fun gq s4 s10 wx => ∃ dn td, bs = dn ++ td ∧ gq = td.length ∧ s4 = .string (ofL (flat (dn.map bl))) ∧ s10 = .int .i64 (dn.length : Int) ∧ Fits (dn.map bl) ∧ Below w.heap.size w wx)
  case atStart => exact ⟨[], bs, rfl, HM.out.symm, rfl, rfl, fun _ h => by simp at h, HB.out⟩
  case round =>
    obtain ⟨dn, td, hdt, rfl, rfl, rfl, hft, hbx⟩ := hrel
    clear HB
    have HB := Aside0.mk hbx
    have HD := Aside0.mk hdt
    have HFT := Aside0.mk hft
    have hlen : bs.length = dn.length + td.length := by rw [hdt, List.length_append]
    have hm := HM.out.symm
    obtain ⟨i, hi⟩ : ∃ i, i = dn.length := ⟨_, rfl⟩
    have HI := Aside0.mk hi
    have hfl : (ofL (flat (dn.map bl))).size ≤ 500000 := by
      have h_ := flat_len hft
      have h2_ := HN.out
      rw [size_ofL]
      rw [List.length_map] at h_
      omega
    have HFL := Aside0.mk hfl
    rw [← hi]
    cases td with
    | nil =>
      have e1 : decide ((i : Int) < (m : Int)) = false := decide_eq_false (by simp at hlen; omega)
      have b1 : m ≤ i := by simp at hlen; omega
      clear hbx hdt hlen hi hm hft hfl
      go_wp2
      go_ret2
      have hbe : bs = dn := by rw [HD.out, List.append_nil]
      exact ⟨.inl ⟨by rw [hbe]; exact HFT.out, by rw [hbe]; rfl⟩, HB.out⟩
    | cons b t =>
      have e1 : decide ((i : Int) < (m : Int)) = true := decide_eq_true (by simp at hlen; omega)
      have b1 : i < m := by simp at hlen; omega
      have b2 : m ≤ 100 := by have h_ := HN.out; omega
      obtain ⟨ad, ea, hx⟩ := Kd.at_string (Kd.C_below HR.out HB.out) (i : Int) (by omega) (by omega)
      have hget : rdOf ByteArray.empty bs (i : Int) = b := by
        unfold rdOf
        rw [Int.toNat_natCast, hi, hdt]
        simp [List.getD]
      rw [hget, Int.toNat_natCast] at hx
      have hbm : b ∈ bs := by rw [hdt]; simp
      by_cases hbz : b.size ≤ 4000
      · have EN := Aside0.mk (fun w' hv => encode9 b hbz w' hv)
        have hfs : (frameB b).size ≤ 5000 := by
          have h_ := hline_lt (n := (bl b).length) (by rw [← size_bl]; omega)
          rw [frameB, size_ofL, frame_len, ← size_bl]
          rw [← size_bl] at h_
          omega
        have HZ := Aside0.mk hbz
        obtain ⟨S, hS⟩ : ∃ S, ofL (flat (dn.map bl)) = S := ⟨_, rfl⟩
        have HS := Aside0.mk hS
        rw [hS] at hfl ⊢
        have hsum : S.size + (frameB b).size ≤ 9223372036854775807 := by omega
        subst ea
        clear hbx hdt hlen hi hm hft hbm hbz hfl hfs hget hS
        go_wp2_with (go_at_call 9; refine (EN.out _ (HV.out.below HB.out)).mono ?_; rintro e_ w1 ⟨rfl, hb⟩; have n1_ := Aside0.mk (below_step HB.out hb); clear HB hb hx; have HB := n1_; clear n1_)
        go_roundg t.length
        case measure => exact Nat.lt_succ_self _
        case rel => exact ⟨dn ++ [b], t, by rw [HD.out]; simp, rfl, by rw [← HS.out, join_B], congrArg (Value.int .i64) (by rw [List.length_append, HI.out]; simp), by
          intro x hx
          rw [List.map_append] at hx
          rcases List.mem_append.1 hx with h | h
          · exact HFT.out x h
          · obtain rfl : x = bl b := by simpa using h
            rw [← size_bl]; exact HZ.out, HB.out⟩
      · have EN := Aside0.mk (fun w' => encode9_no b hbz w')
        have HNF := Aside0.mk (show ¬ Fits (bs.map bl) from fun h => hbz (by rw [size_bl]; exact h _ (List.mem_map_of_mem hbm)))
        subst ea
        clear hbx hdt hlen hi hm hft hbm hbz hfl hget
        go_wp2_with (go_at_call 9; refine (EN.out _).mono ?_; rintro e_ w1 ⟨rfl, hb⟩; have n1_ := Aside0.mk (below_step HB.out hb); clear HB hb hx; have HB := n1_; clear n1_)
        go_ret2
        exact ⟨.inr ⟨HNF.out, rfl⟩, HB.out⟩
end Go.Proofs.YtagmdkmgagfmhaaDoor.Fr
