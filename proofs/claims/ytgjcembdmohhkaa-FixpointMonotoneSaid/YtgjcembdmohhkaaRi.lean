/- A region that draws its order, inside a round of a range over a function: by the plain rules. No condition. -/
import Derived.OrdersIn
import Derived.RangeFuncCalls
import Derived.ControlIn
import Derived.TacticsIn
import Derived.RangeFuncKeeps
import Derived.Test.YtgjcembdmohhkaaWLast
set_option linter.unusedVariables false
set_option linter.unusedSimpArgs false
namespace Go.Proofs.Ytgjcembdmohhkaa.Ri
open Go Go.Proofs.YtgjcembdmohhkaaW.PrintLast
def noDefB (ops : Array Oper) : Bool := ops.all fun o => match o.op with | .defer _ => false | _ => true
theorem noDef {ops : Array Oper} (h : noDefB ops = true) (i : Nat) (o : Oper) (ho : ops[i]? = some o)   : ∀ c, o.op ≠ .defer c := by
  intro c e
  have h1 := Array.all_eq_true_iff_forall_mem.1 h o (Array.mem_of_getElem? ho)
  rw [e] at h1
  cases h1
section
variable {P : Program} {ops : Array Oper} {Q : Exit → Act → World → Prop} {S : World → Prop} {ds : List Nat}
theorem op_in {r n : Nat} {o : Oper} {a : Act} {w : World} {K : Act → World → Prop} (hd : ∀ c, o.op ≠ .defer c) (h : Oper.wp P o a w K Q) : Oper.wpIn (Fence.wide.inRound r) n P o a w K Q := by
  refine ⟨fun _ _ => trivial, ?_⟩
  rw [Oper.semAt_eq _ _ _ hd]
  unfold Oper.wp at h
  generalize (execOp a.eval o).run P w = res at h ⊢
  cases res with
  | ok x w' =>
    cases x with
    | value v => exact h
    | skip => exact h
    | defer d => exact h
    | enter f args => exact ⟨(fun e => by cases e), (callsIn_wide.2 h : CallsIn Fence.wide (n - 1) P f args w' _)⟩
    | row row args => exact ⟨(fun e => by cases e), fun c cs _ => let ⟨v, w', q, s⟩ := h c cs; ⟨v, w', q, stepsIn_wide.2 s⟩⟩
    | _ => exact h.elim
  | halt x w' => cases x <;> exact h
theorem any_in {r n : Nat} (hnd : noDefB ops = true) (hL : ¬ LetsOut Q) : ∀ (fuel : Nat) (listed : Array Bool) (a : Act) (w : World), wpAny P .any ops Q fuel listed a w → wpAnyIn (Fence.wide.inRound r) n P .any ops Q fuel listed a w
  | 0, _, _, _, h => h
  | fuel + 1, listed, a, w, h => ⟨h.1, fun i hi => by
    have h1 := h.2 i hi
    unfold wpOp at h1
    unfold wpOpIn
    split
    · rename_i ho
      rw [ho] at h1
      exact any_in hnd hL fuel _ _ _ h1
    · rename_i o ho
      rw [ho] at h1
      simp only at h1
      split
      · rename_i hw
        rw [if_pos hw] at h1
        rcases h1 with h1 | h1
        · exact Oper.wpIn_mono (fun a w h2 => any_in hnd hL fuel _ _ _ h2) (op_in (noDef hnd i o ho) h1)
        · exact absurd h1.2 hL
      · rename_i hw
        rw [if_neg hw] at h1
        exact ⟨fun _ _ => trivial, any_in hnd hL fuel _ _ _ h1⟩⟩
theorem start_in {id n r m : Nat} {a : Act} {w : World} (l : Array Bool) (hm : P.follows .mixedOrders = true) (hn : ops.size = n) (hl : Array.replicate n false = l) (hnd : noDefB ops = true) (hL : ¬ LetsOut Q) (hS : S w.drew)
    (h : S w.drew → wpAnyLast P .any ops Q S ds n l a w.drew) : (Code.region id ops true).wpIn (Fence.wide.inRound r) m P Q a w := by
  subst hn
  subst hl
  exact wpIn_region_any hm (any_in hnd hL _ _ _ _ (wpAny_of_last _ _ _ _ (h hS)))
theorem list_in {r n : Nat} (hL : ¬ LetsOut Q) : ∀ (rest : List Oper) (a : Act) (w : World), (∀ o ∈ rest, ∀ c, o.op ≠ .defer c) → wpList P ops Q rest a w → wpListIn (Fence.wide.inRound r) n P ops Q rest a w
  | [], _, _, _, h => h
  | o :: rest, a, w, hd, h => by
    unfold wpList at h
    unfold wpListIn
    split
    · rename_i hw
      rw [if_pos hw] at h
      rcases h with h | h
      · exact Oper.wpIn_mono (fun a w h2 => list_in hL rest a w (fun o ho => hd o (List.mem_cons_of_mem _ ho)) h2) (op_in (hd o List.mem_cons_self) h)
      · exact absurd h.2 hL
    · rename_i hw
      rw [if_neg hw] at h
      exact ⟨fun _ _ => trivial, list_in hL rest _ w (fun o ho => hd o (List.mem_cons_of_mem _ ho)) h⟩
/-- a region in the text's order, within a round: by the plain rules -/
theorem region_in {id r n : Nat} {l : List Oper} {a : Act} {w : World} (hnd : noDefB l.toArray = true) (hL : ¬ LetsOut Q) (h : wpList P l.toArray Q l a w) : (Code.region id l.toArray false).wpIn (Fence.wide.inRound r) n P Q a w :=
  wpIn_region_lit (list_in hL l a w (fun o ho c => by
    obtain ⟨i, hi, rfl⟩ := List.getElem_of_mem ho
    exact noDef hnd i _ (by simp [hi]) c) h)
end
end Go.Proofs.Ytgjcembdmohhkaa.Ri
