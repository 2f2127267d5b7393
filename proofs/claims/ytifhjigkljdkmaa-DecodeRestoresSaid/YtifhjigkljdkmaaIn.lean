/- Walks in a round of a range over a function: a region that draws its order, walked as anywhere; laws on whole elements inside a fence. -/
import Derived.Test.YtifhjigkljdkmaaBq
import Derived.Test.YtifhjigkljdkmaaOd
import Derived.RangeFuncNested
import Derived.RangeFuncBound
import Derived.RangeFuncCalls
import Derived.RangeFuncLeaves
import Derived.RangeFuncBox
import Derived.Shelf.Abstract
import Derived.Shelf.RegionOpen
import Derived.OwnWalkIn
import Derived.TacticsInMore
import Derived.LoopNIn
import Derived.LoopIn
namespace Go.Proofs.Ytifhjigkljdkmaa
open Go.RowKit Go.Shelf
open Gf (F)
set_option linter.unusedSimpArgs false
set_option linter.unusedVariables false
section
variable {P : Program} {o : Oper} {a : Act} {w : World} {K K' : Act → World → Prop} {Q : Exit → Act → World → Prop} {l n : Nat}
theorem op_inRound (hnd : ∀ c, o.op ≠ .defer c) (hK : ∀ a w, K a w → K' a w) (h : o.wp P a w K Q) : o.wpIn (Fence.wide.inRound l) n P a w K' Q := by
  unfold Oper.wp at h
  unfold Oper.wpIn
  refine ⟨fun _ _ => trivial, ?_⟩
  rw [Oper.semAt_plain _ _ _ hnd]
  generalize (execOp a.eval o).run P w = r at *
  cases r with
  | ok nx w' =>
    cases nx with
    | value v => exact hK _ _ h
    | skip => exact hK _ _ h
    | defer d => exact hK _ _ h
    | enter f args =>
      refine ⟨fun e => (by cases e), CallsIn.inRound l (callsIn_wide.2 (Calls.mono h fun e w'' he => ?_))⟩
      cases e with
      | returned v => exact hK _ _ he
      | panicked c => exact he
      | outgrown => exact he
    | row r args => exact ⟨fun e => (by cases e), fun c cs _ => by
        obtain ⟨v, w'', hr, hs⟩ := h c cs
        exact ⟨v, w'', hK _ _ hr, stepsIn_wide.2 hs⟩⟩
    | round l' f tmps asg body => exact False.elim h
    | _ => exact False.elim h
  | halt x w' => cases x <;> first | exact h | exact False.elim h
end
/-- No deferred call among them. -/
def noDeferB (ops : Array Oper) : Bool := ops.all fun o => match o.op with | .defer _ => false | _ => true
section
variable {P : Program} {ops : Array Oper} {Q : Exit → Act → World → Prop} {md : Region.Mode} {l n : Nat}
theorem noDefer_of (h : noDeferB ops = true) {i : Nat} {o : Oper} (hi : ops[i]? = some o) : ∀ c, o.op ≠ .defer c := by
  have h2 := Array.all_eq_true_iff_forall_mem.1 h o (Array.mem_of_getElem? hi)
  intro c e
  rw [e] at h2
  cases h2
theorem any_inRound (hnd : noDeferB ops = true) (hlo : ¬ LetsOut Q) : ∀ (fuel : Nat) (listed : Array Bool) (a : Act) (w : World), wpAny P md ops Q fuel listed a w → wpAnyIn (Fence.wide.inRound l) n P md ops Q fuel listed a w
  | 0, _, _, _, h => h
  | fuel + 1, listed, a, w, h => ⟨h.1, fun i hi => by
    have h2 := h.2 i hi
    unfold wpOp at h2
    unfold wpOpIn
    cases ho : ops[i]? with
    | none =>
      simp only [ho] at h2 ⊢
      exact any_inRound hnd hlo fuel _ a w h2
    | some o =>
      simp only [ho] at h2 ⊢
      by_cases hw : Region.wanted o (yielded ops a.tmps) = true
      · simp only [hw, if_true] at h2 ⊢
        rcases h2 with h2 | h2
        rotate_left
        · exact absurd h2.2 hlo
        exact op_inRound (noDefer_of hnd ho) (fun a w h => any_inRound hnd hlo fuel _ a w h) h2
      · simp only [hw] at h2 ⊢
        exact ⟨fun _ _ => trivial, any_inRound hnd hlo fuel _ _ w h2⟩⟩
theorem AnyE.regionIn (S : World → Prop) (z : Nat) {id : Nat} {a : Act} {w : World} (hm : P.follows .mixedOrders = true) (hnd : noDeferB ops = true) (hlo : ¬ LetsOut Q) (h : AnyE P .any ops Q S z ops.size (Array.replicate ops.size false) a w.drew) : (Code.region id ops true).wpIn (Fence.wide.inRound l) n P Q a w :=
  wpIn_region_any hm (any_inRound hnd hlo _ _ _ _ (AnyE.any _ _ _ _ h))
end
section
variable {P : Program} {w : World} {F' : Fence} {nF : Nat}
theorem wplIn_load_agg {ops : Array Oper} {rest : List Oper} {o : Oper} {a : Act} {Q : Exit → Act → World → Prop} (hgd : o.guard = none) {ty : TypeId} {x : Operand} (ho : o.op = .load ty x)
    {b off : Nat} (hx : a.eval x = .pointer (some ⟨b, off, none⟩)) {cs : Array Value} {d : TypeDesc} (hu : P.underlying ty = some d) (hd : (match d with | .struct _ | .array _ _ => true | _ => false) = true) (hi : (P.info? ty).map (·.size) = some cs.size)
    (hc : ∀ k, k < cs.size → w.cell? ⟨b, off + k, none⟩ = cs[k]?) (h : wpListIn F' nF P ops Q rest (a.put o.dst (.agg cs)) w) : wpListIn F' nF P ops Q (o :: rest) a w := by
  refine wpListIn_plain hgd fun K hK => ?_
  unfold Oper.wpIn
  refine ⟨by simp [Oper.about, ho], ?_⟩
  rw [Oper.semAt_plain F' _ _ (by rw [ho]; intro c hc'; cases hc')]
  unfold execOp
  simp only [ho, hx, Instr.loadAt, Instr.sureAddr, Sem.run_bind, Sem.run_pure, Result.andThen_ok, run_loadVar_agg hu hd hi hc]
  exact hK _ _ h
end
end Go.Proofs.Ytifhjigkljdkmaa
