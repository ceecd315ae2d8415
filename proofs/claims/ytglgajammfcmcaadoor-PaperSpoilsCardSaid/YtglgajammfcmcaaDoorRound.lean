/- A region in a round of a loop over an iterator, by the steps of a plain region. -/
import Derived.RangeFuncNested
import Derived.RangeFuncBound
import Derived.RangeFuncCalls
import Derived.RangeFuncLeaves
import Derived.RangeFuncBox
import Derived.OrdersIn
import Derived.TacticsIn
import Derived.OwnWalkIn
import Derived.Test.YtglgajammfcmcaaDoorWLast
namespace Go.Proofs.YtglgajammfcmcaaDoor.A
open Go.RowKit Go.Proofs.YtglgajammfcmcaaDoorW.PrintLast
section
variable {l n : Nat} {P : Program} {ops : Array Oper} {Q : Exit → Act → World → Prop} {md : Region.Mode}
theorem opIn_of_op {o : Oper} {a : Act} {w : World} {K : Act → World → Prop} (hnd : ∀ c, o.op ≠ .defer c) (h : o.wp P a w K Q) : o.wpIn (Fence.wide.inRound l) n P a w K Q := by
  refine ⟨fun _ _ => trivial, ?_⟩
  rw [show Oper.semAt (Fence.wide.inRound l).round a.eval o = execOp a.eval o from Oper.semAt_some l _ _ hnd]
  unfold Oper.wp at h
  revert h
  generalize (execOp a.eval o).run P w = r
  intro h
  rcases r with ⟨x, w'⟩ | ⟨x, w'⟩
  · cases x with
    | value v => exact h
    | skip => exact h
    | defer d => exact h
    | enter f args => exact ⟨fun e => (by cases e), CallsIn.inRound l (callsIn_wide.2 h)⟩
    | row row args => exact ⟨fun e => (by cases e), fun c cs _ => let ⟨v, w', r, s⟩ := h c cs; ⟨v, w', r, stepsIn_wide.2 s⟩⟩
    | _ => exact h.elim
  · cases x with
    | panic v => exact h
    | _ => exact h.elim
theorem wpOpIn_of {i : Nat} {a : Act} {w : World} {K : Act → World → Prop} (hnd : ∀ o, ops[i]? = some o → ∀ c, o.op ≠ .defer c) (hout : ¬ LetsOut Q) (h : wpOp P ops Q i K a w) : wpOpIn (Fence.wide.inRound l) n P ops Q i K a w := by
  unfold wpOp at h
  unfold wpOpIn
  cases ho : ops[i]? with
  | none => rw [ho] at h; exact h
  | some o =>
    rw [ho] at h
    simp only at h ⊢
    split at h
    · rename_i hw
      rw [if_pos hw]
      rcases h with h | ⟨_, h⟩
      · exact opIn_of_op (hnd o ho) h
      · exact absurd h hout
    · rename_i hw
      rw [if_neg hw]
      exact ⟨fun _ _ => trivial, h⟩
theorem wpAnyIn_of (hnd : ∀ (i : Nat) (o : Oper), ops[i]? = some o → ∀ c, o.op ≠ .defer c) (hout : ¬ LetsOut Q) : ∀ (fuel : Nat) (listed : Array Bool) (a : Act) (w : World), wpAny P md ops Q fuel listed a w → wpAnyIn (Fence.wide.inRound l) n P md ops Q fuel listed a w
  | 0, _, _, _, h => h
  | fuel + 1, _, _, _, h => ⟨h.1, fun i hi => wpOpIn_of (hnd i) hout (wpOp_mono (fun a' w' h' => wpAnyIn_of hnd hout fuel _ a' w' h') (h.2 i hi))⟩
def noDefer (ops : Array Oper) : Bool := ops.all fun o => match o.op with | .defer _ => false | _ => true
theorem noDefer_spec (h : noDefer ops = true) : ∀ (i : Nat) (o : Oper), ops[i]? = some o → ∀ c, o.op ≠ .defer c := by
  intro i o ho c e
  have := Array.all_eq_true'.1 h o (Array.mem_of_getElem? ho)
  rw [e] at this
  cases this
/-- The first step of a drawing region in a round. -/
theorem startR_ {S : World → Prop} {ds : List Nat} {id m : Nat} {a : Act} {w : World} (lb : Array Bool) (hm : P.follows .mixedOrders = true) (hd : noDefer ops = true) (hout : ¬ LetsOut Q) (hn : ops.size = m) (hl : Array.replicate m false = lb) (hS : S w.drew)
    (h : S w.drew → wpAnyLast P .any ops Q S ds m lb a w.drew) : (Code.region id ops true).wpIn (Fence.wide.inRound l) n P Q a w := by
  subst hn
  subst hl
  exact wpIn_region_any hm (wpAnyIn_of (noDefer_spec hd) hout _ _ _ _ (wpAny_of_last _ _ _ _ (h hS)))
end
end Go.Proofs.YtglgajammfcmcaaDoor.A
