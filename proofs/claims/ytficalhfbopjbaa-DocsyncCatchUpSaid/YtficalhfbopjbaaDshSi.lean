/- docsync.Room.Since. Condition: the document's name is asked, the version is one that is remembered; none of the edits' rows is longer than 1000000. -/
import Derived.Test.YtficalhfbopjbaaDsx0
import Derived.Test.YtficalhfbopjbaaDshRp
import Derived.Test.YtficalhfbopjbaaDshLb
import Derived.Deep.QuietTactic
import Derived.RangeFuncNested
import Derived.RangeFuncBound
import Derived.RangeFuncCalls
import Derived.RangeFuncLeaves
import Derived.RangeFuncBox
import Derived.Shelf.Abstract
import Derived.Shelf.RegionOpen
import Derived.WalkKit
import Derived.BigQuiet
namespace Go.Proofs.Ytficalhfbopjbaa.Ds
open Go.RowKit Go.Shelf Go.Proofs.YtficalhfbopjbaaW.PrintWords Go.Proofs.YtficalhfbopjbaaW.PrintLast Go.Proofs.YtficalhfbopjbaaW.PrintMore
open Go.Proofs.Ytficalhfbopjbaa
set_option linter.unusedVariables false
set_option linter.unusedSimpArgs false
attribute [local go_sem] Oper.semAt_some
section
variable {base gr gD gd cD : Nat} {vC vH vR : Value} {nm : ByteArray} {v : Int} {t : ByteArray} {hist : List (List S56)} {rd cl : List Int} {W : World}
theorem hist_at {w : World} {A : Option Addr} {n : Nat} {xs : List (List S56)} (h : Kd.C (Kd.slice 56 k56) w A n xs) (p : Nat) (hp : p < n) : ∃ ad Al cl, A = some ad ∧ w.cell? (ad.add p) = some (.slice Al (xs.getD p []).length cl) ∧ (xs.getD p []).length ≤ cl ∧ Kd.C k56 w Al (xs.getD p []).length (xs.getD p []) := by
  obtain ⟨ad, c, e, _, hK, hc0⟩ := Kd.C_get h ([] : List S56) (p : Int) (by omega) (by omega)
  rw [Int.toNat_natCast] at hK hc0
  obtain ⟨Al, cl, rfl, hl, hC⟩ := hK
  have h2 := hc0 0 _ rfl
  rw [show p * (Kd.slice 56 k56).sz + 0 = p from Nat.mul_one p] at h2
  exact ⟨ad, Al, cl, e, h2, hl, hC⟩
set_option maxHeartbeats 8000000 in
set_option maxRecDepth 100000 in
theorem since16 (ver : Int) (n : Nat) (hn : n ≤ hist.length) (hv : v - ver = ((hist.length - n : Nat) : Int)) (hv0 : 0 ≤ ver) (hv1 : v ≤ 1000000) (hle : hist.length ≤ 1000) (hls : ∀ l ∈ hist, l.length < 1000000) (hR : Rm base gr gD gd cD vC vH vR nm v t hist rd cl W) :
    Calls Try.prog 16 #[.pointer (some ⟨gr, 0, none⟩), .string nm, .int .i64 ver] W fun e w' => ∃ vL, e = .returned (.tuple #[vL, .int .i64 0]) ∧ Kd.S (Kd.slice 56 k56) 42 w' W.heap.size (fun _ => True) vL (hist.drop n) ∧ Below W.heap.size W w' := by
  have hu64 := Try.underlying64
  have hu30 := Try.underlying30
  have hu23 := Try.underlying23
  have hu62 := Try.underlying62
  obtain ⟨AH, cH, rfl⟩ := Kd.S_slice hR.his
  have hcap := (Kd.S_reads' hR.his).2.1
  obtain ⟨i42, hi42, _, hi42s, _⟩ := info_parts (show (Try.prog.info? 42).map (fun i => (i.zero, i.size, i.bytes)) = some (some (.slice none 0 0), 1, 24) from by kernel_rfl)
  have hcut := cut_from (P := Try.prog) 23 42 .i64 Try.underlying23 hi42 1 hi42s AH hist.length cH (n : Int) (by omega) (by omega)
  have HCD := Aside0.mk (show ∀ W', Below W.heap.size W W' → Kd.C (Kd.slice 56 k56) W' (if cH = n then AH else AH.map (·.add n)) (hist.drop n).length (hist.drop n) from fun W' hb => by
    have h_ := Kd.C_drop (Kd.C_below (Kd.S_reads' hR.his).2.2 hb) hn hcap
    rw [show n * (Kd.slice 56 k56).sz = n from Nat.mul_one n] at h_
    exact h_)
  generalize hAX : (if cH = n then AH else AH.map (·.add n)) = AX at HCD
  rw [Int.toNat_natCast, Nat.mul_one] at hcut
  rw [hAX] at hcut
  have HR := Aside0.mk hR
  have HLS := Aside0.mk (show ∀ l ∈ hist.drop n, l.length < 1000000 from fun l hl => hls l (List.mem_of_mem_drop hl))
  have HDL := Aside0.mk (show (hist.drop n).length = hist.length - n from List.length_drop)
  have HLE := Aside0.mk hle
  have HB := Aside0.mk (Below.refl W.heap.size W)
  have e1 : decide (ver < 0) = false := decide_eq_false (by omega)
  have e2 : decide (v < ver) = false := decide_eq_false (by omega)
  have e2b : decide (ver > v) = false := decide_eq_false (by omega)
  have e3 : wrap64 (v - ver) = ((hist.length - n : Nat) : Int) := by rw [w64_ (by omega) (by omega)]; exact hv
  have e4 : decide (((hist.length - n : Nat) : Int) > (hist.length : Int)) = false := decide_eq_false (by omega)
  have e4b : decide ((hist.length : Int) < ((hist.length - n : Nat) : Int)) = false := decide_eq_false (by omega)
  have e4c : decide (hist.length < hist.length - n) = false := decide_eq_false (by omega)
  have e5 : wrap64 ((hist.length : Int) - ((hist.length - n : Nat) : Int)) = (n : Int) := by rw [w64_ (by omega) (by omega)]; omega
  obtain ⟨L, hL⟩ : ∃ L, L = hist.drop n := ⟨_, rfl⟩
  obtain ⟨NL, hNL⟩ : ∃ NL, NL = hist.length - n := ⟨_, rfl⟩
  rw [← hNL] at e3 e4 e4b e4c e5 hcut HDL
  rw [← hL] at HLS HDL HCD
  have HLT := Aside0.mk hL
  clear hR hn hv hv0 hv1 hle hls hcap hi42 hi42s hAX hL hNL
  go_enter Try.func16, Try.ntmps16
  go_wp2_with ((go_at_call 25; refine (find25 (HR.out.below HB.out)).mono ?_; rintro e_ w1 ⟨rfl, hb⟩; have n1_ := Aside0.mk (below_step HB.out hb); clear HB hb; have HB := n1_; clear n1_; have q1 := (HR.out.below HB.out).d1; have q3 := (HR.out.below HB.out).d3))
  go_quiet (fail)
  have n1_ := Aside0.mk (pw_below_drewN HB.out nq)
  have u1 : (w1.drewN nq).cell? ⟨gd, 1, none⟩ = some (.int .i64 v) := q1
  have u3 : (w1.drewN nq).cell? ⟨gd, 3, none⟩ = some (.slice AH hist.length cH) := q3
  clear q1 q3 HB
  generalize w1.drewN nq = w2 at n1_ u1 u3 ⊢
  have HB := n1_
  clear n1_
  go_wp2
  go_quiet (fail)
  have n1_ := Aside0.mk (pw_below_drewN HB.out nq)
  clear u1 u3 HB
  generalize w2.drewN nq = w3 at n1_ ⊢
  have HB := n1_
  clear n1_ e1 e2 e2b e3 e4 e4b e4c e5 hcut
  go_wp2
  go_loopg [9, 63] NL (fun kq v9 v63 w' => ∃ i : Nat, v63 = .int .i64 (i : Int) ∧ Aside0 (i + kq = NL ∧ Kd.S (Kd.slice 56 k56) 42 w' W.heap.size (fun _ => True) v9 (L.take i)) ∧ Aside0 (Below W.heap.size W w'))
  case atStart => exact ⟨0, rfl, ⟨by omega, Kd.S_nil _ _ _ _ _⟩, HB⟩
  case round =>
    clear HB
    obtain ⟨i, rfl, HX, HB⟩ := hrel
    obtain ⟨e1, hS⟩ := HX.out
    clear HX
    obtain ⟨A9, n9, c9, rfl⟩ : ∃ A n c, u9 = .slice A n c := by obtain ⟨A, c, e⟩ := Kd.S_slice hS; exact ⟨A, _, c, e⟩
    have HS := Aside0.mk hS
    clear hS
    by_cases c : i < NL
    · have d1 : decide ((i : Int) < (NL : Int)) = true := decide_eq_true (by omega)
      obtain ⟨k1, rfl⟩ : ∃ k1, gk = k1 + 1 := ⟨gk - 1, by omega⟩
      have E1 := Aside0.mk e1
      have hiL : i < L.length := by rw [HDL.out]; exact c
      obtain ⟨ad, Al, cl', eA, hce, hll, hlc⟩ := hist_at (HCD.out wr HB.out) i hiL
      subst eA
      obtain ⟨l, hl⟩ : ∃ l, l = L.getD i [] := ⟨_, rfl⟩
      rw [← hl] at hce hll hlc
      have hl2 : l = L[i] := by rw [hl]; simp [hiL]
      have HTS := Aside0.mk (show L.take (i + 1) = L.take i ++ [l] from by rw [hl2]; exact List.take_succ_eq_append_getElem hiL)
      have HL6 := Aside0.mk (show l.length < 1000000 from HLS.out l (by rw [hl2]; exact List.getElem_mem _))
      have HLL := Aside0.mk hll
      have HLC := Aside0.mk hlc
      have h3_ : L.length ≤ hist.length := by
        have h2_ := HLT.out
        rw [h2_, List.length_drop]
        omega
      have HTL := Aside0.mk (show (L.take i).length ≤ 1000 ∧ i ≤ 1000 from by
        rw [List.length_take]
        have h_ := HLE.out
        omega)
      clear h3_
      have p1 : (0 ≤ (i : Int)) = True := eq_true (by omega)
      have q1 : ((i : Int) < (NL : Int)) = True := eq_true (by omega)
      have q1b : (i < NL) = True := eq_true c
      clear e1 c hiL hl hl2 hll hlc
      go_wp2_with (first
        | (go_at_call 24; refine (clone24 Al cl' l _ HLC.out HLL.out HL6.out).mono ?_; rintro e_ wc ⟨vc, rfl, hvc, hb⟩; obtain ⟨Ac, nc, cc, rfl⟩ : ∃ A n c, vc = .slice A n c := (by obtain ⟨A, c, e⟩ := Kd.R_slice hvc; exact ⟨A, _, c, e⟩); obtain ⟨NN, hNN⟩ : ∃ NN, NN = wr.heap.size := ⟨_, rfl⟩; have HVC := Aside0.mk (show Kd.R k56 56 wc W.heap.size (fun k => NN ≤ k) (.slice Ac nc cc) l from Kd.R_lower (Kd.R_mono (Kd.R_bound hvc) (fun k hk => by rw [hNN]; exact hk.2.1)) HB.out.size); have HVL := Aside0.mk (show ∀ k, (Value.slice A9 n9 c9).ownBlock = some k → k < NN from fun k hk => by rw [hNN]; exact Kd.S_lt HS.out k hk); have n3_ := Aside0.mk (show Kd.S (Kd.slice 56 k56) 42 wc W.heap.size (fun k => True ∧ ¬ NN ≤ k) (.slice A9 n9 c9) (L.take i) from Kd.S_mono (Kd.S_old HS.out hb) (fun k hk => ⟨trivial, by have h_ := hk.2; rw [hNN]; omega⟩)); have n1_ := Aside0.mk (below_step HB.out hb); clear HB HS hb hvc hNN hce; have HB := n1_; have HS := n3_; clear n1_ n3_)
        | (at_builtin; refine Kd.S_append (Kd.slice 56 k56) (w0 := W) (W := wc) W.heap.size rfl (.tmp 67) (.tmp 70) 23 42 (.slice none 0 0) 24 rfl Try.underlying23 info42 rfl (by decide) (by omega) (.slice A9 n9 c9) (L.take i) l [.slice Ac nc cc] (fun _ => True) (fun k => NN ≤ k) rfl rfl ⟨_, rfl, HVC.out⟩ (fun k hk => ⟨trivial, fun e_ => by have h_ := HVL.out k e_.symm; omega⟩) (fun _ _ => trivial) HS.out HB.out HB.out.size (by have h_ := HTL.out; omega) ?_; intro v1 w8 ho hb hg hat; obtain ⟨A1, n1, c1, rfl⟩ : ∃ A n c, v1 = .slice A n c := (by obtain ⟨A, c, e⟩ := Kd.S_slice ho; exact ⟨A, _, c, e⟩); have n1_ := Aside0.mk hb; have n3_ := Aside0.mk ho; clear HB HS hb hg hat ho; have HB := n1_; have HS := n3_; clear n1_ n3_))
      go_roundg k1
      case measure => have := E1.out; omega
      case rel => exact ⟨i + 1, by first | rfl | (rw [w64_ (by omega) (by have := HTL.out; omega)]; rfl), ⟨by have := E1.out; omega, by rw [HTS.out]; exact HS.out⟩, HB⟩
    · have d1 : decide ((i : Int) < (NL : Int)) = false := decide_eq_false (by omega)
      have d1b : decide (i < NL) = false := decide_eq_false c
      have TK := Aside0.mk (show L.take i = L from List.take_of_length_le (by rw [HDL.out]; omega))
      clear c e1
      go_wp2
      go_ret2
      exact ⟨_, rfl, by rw [← HLT.out, ← TK.out]; exact HS.out, HB.out⟩
end
end Go.Proofs.Ytficalhfbopjbaa.Ds
