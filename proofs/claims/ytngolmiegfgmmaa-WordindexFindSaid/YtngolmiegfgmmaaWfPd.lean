/- The law WordindexFind is true at every input: the documents' names and texts, the index before and after the update. No condition. -/
import Derived.Test.YtngolmiegfgmmaaWfPc
import Derived.Test.YtngolmiegfgmmaaWfx8
set_option linter.unusedVariables false
set_option linter.unusedSimpArgs false
namespace Go.Proofs.Ytngolmiegfgmmaa.Wf
open Go.RowKit Go.Sort Go.Proofs.YtngolmiegfgmmaaW.PrintWords Go.Proofs.YtngolmiegfgmmaaW.PrintLast Go.Proofs.YtngolmiegfgmmaaW.PrintMore
open Go.Proofs.Ytngolmiegfgmmaa
open Classical
def digits : ByteArray := ⟨#[48, 49, 50, 51, 52, 53, 54, 55, 56, 57]⟩
def nm (i : Nat) : ByteArray := (⟨#[109]⟩ : ByteArray) ++ digits.extract i (i + 1)
def cutT (t : ByteArray) : ByteArray := t.extract 0 (min t.size 120)
theorem cutT_size (t : ByteArray) : (cutT t).size ≤ 120 := by unfold cutT; rw [ByteArray.size_extract]; omega
theorem nm_size : ∀ i : Fin 5, (nm i.val).size = 2 := by decide +kernel
theorem nm_lt : ∀ i j : Fin 5, i < j → Lib.compareBytes (nm i.val).data.toList (nm j.val).data.toList < 0 := by decide +kernel
def docAt (l : List ByteArray) (i : Nat) : S35 := ⟨nm i, 0, cutT (rdOf ByteArray.empty l (i : Int))⟩
def docs (l : List ByteArray) : List S35 := (List.range (min l.length 5)).map (docAt l)
theorem cut_is (t : ByteArray) : ∃ m : Nat, mn (t.size : Int) 120 = (m : Int) ∧ m = min t.size 120 := ⟨min t.size 120, by unfold mn; (repeat' split) <;> omega, rfl⟩
theorem dec_is (k i : Nat) (hi : i < 5) : glossatorref3_Decimal.f (k + 1) (i : Int) = some (digits.extract i (i + 1)) := by
  simp only [glossatorref3_Decimal.f]
  have hw : wrap64 ((i : Int) + 1) = ((i + 1 : Nat) : Int) := by rw [w64 (by omega) (by omega)]; omega
  rw [if_neg (by omega), if_neg (by omega), if_pos (by omega), hw, if_pos (by omega), if_pos (by omega), Int.toNat_natCast, Int.toNat_natCast]
  rfl
theorem digit_size : ∀ i : Fin 5, (digits.extract i.val (i.val + 1)).size = 1 := by decide +kernel
theorem named_loop (l : List ByteArray) (n : Nat) (hn : n = min l.length 5) : ∀ (d i k : Nat), i + d = n → d + 5 < k → glossatorkeep3_named.l0 k l ((List.range i).map (docAt l)) (n : Int) (i : Int) = some (docs l) := by
  intro d
  induction d with
  | zero =>
    intro i k hi hk
    obtain ⟨k, rfl⟩ : ∃ m, k = m + 1 := ⟨k - 1, by omega⟩
    simp only [glossatorkeep3_named.l0]
    rw [if_neg (by omega), show i = min l.length 5 from by omega]
    rfl
  | succ d ih =>
    intro i k hi hk
    obtain ⟨k, rfl⟩ : ∃ m, k = m + 2 := ⟨k - 2, by omega⟩
    have hw : wrap64 ((i : Int) + 1) = ((i + 1 : Nat) : Int) := by rw [w64 (by omega) (by omega)]; omega
    obtain ⟨m, hm, hm2⟩ := cut_is (rdOf ByteArray.empty l (i : Int))
    have hds := digit_size ⟨i, by omega⟩
    simp only at hds
    simp only [glossatorkeep3_named.l0]
    rw [if_pos (by omega), dec_is k i (by omega), Option.bind_some, hm, if_pos (by rw [hds]; omega), if_pos (Int.natCast_nonneg _), if_pos (by omega), if_pos (Int.natCast_nonneg _), if_pos (by omega), if_pos (by rw [List.length_map, List.length_range]; omega), hw, Int.toNat_natCast]
    have := ih (i + 1) (k + 1) (by omega) (by omega)
    rw [List.range_succ, List.map_append] at this
    rw [← this, hm2]
    rfl
theorem named_is (l : List ByteArray) (k : Nat) (hk : 20 ≤ k) : glossatorkeep3_named.f k l = some (docs l) := by
  unfold glossatorkeep3_named.f
  have h5 : mn (l.length : Int) 5 = ((min l.length 5 : Nat) : Int) := by unfold mn; (repeat' split) <;> omega
  rw [h5]
  exact named_loop l _ rfl (min l.length 5) 0 k (by omega) (by omega)
theorem docs_len (l : List ByteArray) : (docs l).length = min l.length 5 := by unfold docs; rw [List.length_map, List.length_range]
theorem docs_at (l : List ByteArray) (i : Nat) (h : i < (docs l).length) : (docs l)[i] = docAt l i := by simp [docs]
theorem docs_ok (l : List ByteArray) : okL (docs l) := by
  have hl := docs_len l
  refine ⟨by omega, fun d hd => ?_, ?_⟩
  · obtain ⟨i, hi, rfl⟩ := List.getElem_of_mem hd
    rw [docs_at]
    have := nm_size ⟨i, by omega⟩
    simp only at this
    exact ⟨by show 0 < (nm i).size; omega, by show (nm i).size ≤ 60; omega, cutT_size _⟩
  · rw [List.pairwise_iff_getElem]
    intro i j hi hj hij
    rw [docs_at, docs_at]
    exact nm_lt ⟨i, by omega⟩ ⟨j, by omega⟩ (by exact hij)
theorem okL_set {l : List S35} (h : okL l) (i : Nat) (hi : i < l.length) (d : S35) (hd : d.f0 = l[i].f0) (hs : d.f2.size ≤ 120) : okL (l.set i d) := by
  refine ⟨by rw [List.length_set]; exact h.1, fun x hx => ?_, ?_⟩
  · rcases List.mem_or_eq_of_mem_set hx with hx | hx
    · exact h.2.1 x hx
    · subst hx
      obtain ⟨s0, s1, _⟩ := h.2.1 _ (List.getElem_mem hi)
      exact ⟨by rw [hd]; exact s0, by rw [hd]; exact s1, hs⟩
  · have hm : (l.set i d).map S35.f0 = l.map S35.f0 := by
      rw [List.map_set, hd]
      apply List.ext_getElem
      · simp
      · intro j h1 h2
        rw [List.getElem_set]
        split
        · rename_i he
          subst he
          rw [List.getElem_map]
        · rfl
    have h2 : (l.map S35.f0).Pairwise (fun a b => Lib.compareBytes a.data.toList b.data.toList < 0) := List.pairwise_map.2 h.2.2
    rw [← hm] at h2
    exact List.pairwise_map.1 h2
theorem name_one {l : List S35} (h : okL l) (i j : Nat) (hi : i < l.length) (hj : j < l.length) (he : l[i].f0 = l[j].f0) : i = j := by
  rcases Nat.lt_trichotomy i j with h1 | h1 | h1
  · have := List.pairwise_iff_getElem.1 h.2.2 i j hi hj h1
    unfold Cb.key at this
    rw [he, Cb.refl] at this
    omega
  · exact h1
  · have := List.pairwise_iff_getElem.1 h.2.2 j i hj hi h1
    unfold Cb.key at this
    rw [he, Cb.refl] at this
    omega
theorem pos_is {l : List S35} (h : okL l) (i : Nat) (hi : i < l.length) : posU (l.map entF) l[i].f0 = i := by
  unfold posU
  refine (List.findIdx_eq (by rw [List.length_map]; exact hi)).2 ⟨?_, fun j hj => ?_⟩
  · rw [List.getElem_map]
    exact decide_eq_true rfl
  · rw [List.getElem_map]
    refine decide_eq_false fun he => ?_
    have := name_one h j i (by omega) hi he
    omega
theorem update_is {l : List S35} (h : okL l) (i : Nat) (hi : i < l.length) (t : ByteArray) (ht : t.size ≤ 120) : wordindex_Update.f (l.map entF) l[i].f0 0 t = some ((l.set i ⟨l[i].f0, 0, t⟩).map entF, 0) := by
  have hp := pos_is h i hi
  unfold wordindex_Update.f
  rw [if_pos, hp, ← List.map_set]
  obtain ⟨s0, s1, _⟩ := h.2.1 _ (List.getElem_mem hi)
  refine ⟨by rw [List.length_map]; have := h.1; omega, fun x hx => by have := ent_len h x hx; omega, ⟨10, valid_is h⟩, okS_D ⟨s0, s1, ht⟩, pw_ent h.2.2, by rw [hp, List.length_map]; exact hi⟩
theorem found {l : List S35} (h : okL l) (a : ByteArray) (i : Nat) (hi : i < l.length) : l[i].f0 ∈ (((l.map entF).filter (fun x => decide (a ∈ x.f2))).map S43.f0) ↔ a ∈ wordsF l[i].f2 := by
  constructor
  · intro hm
    obtain ⟨x, hx, he⟩ := List.mem_map.1 hm
    obtain ⟨hx, ha⟩ := List.mem_filter.1 hx
    obtain ⟨d, hd, rfl⟩ := List.mem_map.1 hx
    obtain ⟨j, hj, rfl⟩ := List.getElem_of_mem hd
    have := name_one h j i hj hi he
    subst this
    exact of_decide_eq_true ha
  · intro ha
    refine List.mem_map.2 ⟨entF l[i], List.mem_filter.2 ⟨List.mem_map_of_mem (List.getElem_mem hi), decide_eq_true ha⟩, rfl⟩
theorem rd35_at (l : List S35) (i : Nat) (h : i < l.length) : rd_T35 l (i : Int) = l[i] := rd_mem h
def exN : ByteArray := ⟨#[100]⟩
def exT : ByteArray := ⟨#[98, 32, 97, 95, 49, 44, 32, 98]⟩
def exW : List ByteArray := [⟨#[97, 95, 49]⟩, ⟨#[98]⟩]
theorem exTok : tok [] (lb exT) = [[98], [97, 95, 49], [98]] := by kernel_rfl
theorem exSort : ([[98], [97, 95, 49], [98]] : List (List UInt8)).mergeSort (fun x y => decide (x ≤ y)) = [[97, 95, 49], [98], [98]] := by
  have h1 : ¬ ([98] : List UInt8) ≤ [97, 95, 49] := by decide
  have h2 : ([97, 95, 49] : List UInt8) ≤ [98] := by decide
  have h3 : ([98] : List UInt8) ≤ [98] := by decide
  simp [List.mergeSort, List.MergeSort.Internal.splitInTwo, List.merge, h1, h2, h3]
theorem exW_is : wordindex_Words.f exT = some exW := by
  unfold wordindex_Words.f wordsL uniqL
  rw [exTok, exSort]
  kernel_rfl
theorem ex_ok : okL [(⟨exN, 0, exT⟩ : S35)] := by
  refine ⟨by simp, fun d hd => ?_, List.pairwise_singleton _ _⟩
  rw [List.mem_singleton] at hd
  subst hd
  exact ⟨by decide, by decide, by decide⟩
theorem ex_is (k : Nat) (hk : 1100 ≤ k) : glossatorkeep3_indexExample.f k = some true := by
  have hB : wordindex_Build.f [(⟨(⟨#[100]⟩ : ByteArray), 0, (⟨#[98, 32, 97, 95, 49, 44, 32, 98]⟩ : ByteArray)⟩ : S35)] = some ([entF ⟨exN, 0, exT⟩], 0) := build_is ex_ok
  unfold glossatorkeep3_indexExample.f
  rw [hB, Option.bind_some, if_pos (by rfl), if_pos (by simp), if_pos (by simp)]
  have hw : (rd_T43 [entF ⟨exN, 0, exT⟩] 0).f2 = exW := by
    show wordsF exT = exW
    unfold wordsF
    rw [exW_is]
    rfl
  show (glossatorref3_Equal_string.f k (rd_T43 [entF ⟨exN, 0, exT⟩] 0).f2 exW).bind _ = _
  rw [hw, equal_is exW (by decide) k (by omega)]
  rfl
theorem law_loop {l : List S35} (h : okL l) (a : ByteArray) : ∀ (d i k : Nat), i + d = l.length → d + 3000 < k → glossatorkeep3_WordindexFind.l0 k a l (l.map entF) (l.map entF) 0 (((l.map entF).filter (fun x => decide (a ∈ x.f2))).map S43.f0) (l.length : Int) (i : Int) = some true := by
  have hl := h.1
  intro d
  induction d with
  | zero =>
    intro i k hi hk
    obtain ⟨k, rfl⟩ : ∃ m, k = m + 1 := ⟨k - 1, by omega⟩
    simp only [glossatorkeep3_WordindexFind.l0]
    rw [if_neg (by omega), ex_is k (by omega), Option.bind_some, if_pos rfl, if_pos trivial, eqix_is _ (by rw [List.length_map]; omega) (ent_len h) k (by omega)]
    rfl
  | succ d ih =>
    intro i k hi hk
    obtain ⟨k, rfl⟩ : ∃ m, k = m + 1 := ⟨k - 1, by omega⟩
    have hi' : i < l.length := by omega
    have hw : wrap64 ((i : Int) + 1) = ((i + 1 : Nat) : Int) := by rw [w64 (by omega) (by omega)]; omega
    obtain ⟨s0, s1, s2⟩ := h.2.1 _ (List.getElem_mem hi')
    have hN : (((l.map entF).filter (fun x => decide (a ∈ x.f2))).map S43.f0).length ≤ 1000 := by
      rw [List.length_map]
      have := List.length_filter_le (fun x : S43 => decide (a ∈ x.f2)) (l.map entF)
      rw [List.length_map] at this
      omega
    have hwl : (strs (U l[i].f2)).length ≤ 1000 := by rw [strs_len]; have := U_len l[i].f2; omega
    simp only [glossatorkeep3_WordindexFind.l0]
    rw [if_pos (by omega), if_pos (Int.natCast_nonneg _), if_pos (by omega), rd35_at l i hi', contains_is _ _ hN k (by omega), Option.bind_some, words_is _ (by omega), Option.bind_some, contains_is _ a hwl k (by omega), Option.bind_some, hw, ih (i + 1) k (by omega) (by omega)]
    have hf := found h a i hi'
    rw [wordsF_is _ (by omega)] at hf
    have hD : decide (l[i].f0 ∈ (((l.map entF).filter (fun x => decide (a ∈ x.f2))).map S43.f0)) = decide (a ∈ strs (U l[i].f2)) := decide_eq_decide.2 hf
    rw [hD, if_neg (by simp)]
theorem find_all (l0 : List ByteArray) (a1 a2 : ByteArray) (a3 : Int) : glossatorkeep3_WordindexFind.f 10000 l0 a1 a2 a3 = some true := by
  have hd := docs_ok l0
  unfold glossatorkeep3_WordindexFind.f
  rw [ex_is 10000 (by omega), Option.bind_some, if_pos rfl, named_is l0 10000 (by omega), Option.bind_some, build_is hd, Option.bind_some, if_pos rfl]
  by_cases h0 : (docs l0).length = 0
  · rw [if_pos (by omega), Option.bind_some, if_pos rfl]
    rfl
  · have hl := hd.1
    obtain ⟨m, hm, hm2⟩ := cut_is a1
    obtain ⟨q, hq, hq2⟩ : ∃ q : Nat, glossatorref3_Mod.f a3 ((docs l0).length : Int) = some (q : Int) ∧ q < (docs l0).length := by
      have hb := Int.tmod_lt_of_pos a3 (show (0 : Int) < ((docs l0).length : Int) by omega)
      have hb2 := Int.lt_tmod_of_pos a3 (show (0 : Int) < ((docs l0).length : Int) by omega)
      unfold glossatorref3_Mod.f
      rw [if_neg (by omega)]
      by_cases hs : Int.tmod a3 ((docs l0).length : Int) < 0
      · rw [if_pos hs, w64 (by omega) (by omega)]
        exact ⟨(Int.tmod a3 ((docs l0).length : Int) + ((docs l0).length : Int)).toNat, by rw [Int.toNat_of_nonneg (by omega)], by omega⟩
      · rw [if_neg hs]
        exact ⟨(Int.tmod a3 ((docs l0).length : Int)).toNat, by rw [Int.toNat_of_nonneg (by omega)], by omega⟩
    rw [if_neg (by omega), hq, Option.bind_some, if_pos (Int.natCast_nonneg _), if_pos (by omega), hm, if_pos (Int.natCast_nonneg _), if_pos (by omega), rd35_at _ q hq2, Int.toNat_natCast, Int.toNat_natCast]
    have ht : (a1.extract 0 m).size ≤ 120 := by rw [ByteArray.size_extract]; omega
    have hd2 := okL_set hd q hq2 ⟨(docs l0)[q].f0, 0, a1.extract 0 m⟩ rfl ht
    rw [update_is hd q hq2 _ ht, Option.bind_some, if_pos rfl, Option.bind_some, build_is hd2, Option.bind_some, find_is _ a2 (by rw [List.length_map]; have := hd2.1; omega) (ent_len hd2) 10000 (by omega), Option.bind_some]
    have := law_loop hd2 a2 ((docs l0).set q ⟨(docs l0)[q].f0, 0, a1.extract 0 m⟩).length 0 10000 (by omega) (by have := hd2.1; omega)
    rw [List.length_set] at this
    exact this
end Go.Proofs.Ytngolmiegfgmmaa.Wf
