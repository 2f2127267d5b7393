/- Plain laws of the pieces to read: the bad and the good ones are all; the best of the three methods is the reference's choice. -/
import Derived.Test.YtifhjigkljdkmaaGg
namespace Go.Proofs.Ytifhjigkljdkmaa
open Gf (F)
set_option linter.unusedSimpArgs false
set_option linter.unusedVariables false
theorem sel_compl (P Q : Nat → Bool) (h : ∀ i, Q i = !P i) : ∀ k, (sel P k).length + (sel Q k).length = k
  | 0 => rfl
  | k + 1 => by
    have ih := sel_compl P Q h k
    cases hp : P k with
    | true =>
      have hq : Q k = false := by rw [h k, hp]; rfl
      rw [sel_yes hp, sel_no hq, List.length_append, List.length_singleton]
      omega
    | false =>
      have hq : Q k = true := by rw [h k, hp]; rfl
      rw [sel_no hp, sel_yes hq, List.length_append, List.length_singleton]
      omega
theorem bad_good (wd : Nat) (b : List Bool) : (sel (ntb b) wd).length + (goodL wd b).length = wd := sel_compl (ntb b) (goodP b) (fun _ => rfl) wd
/-- What the loop over the methods keeps: none yet, or the best so far. -/
def better (ok : Bool) (l : List Int) (s : Option (List Int)) : Option (List Int) :=
  match s with
  | none => if ok then some l else none
  | some r => if ok && decide (l.length < r.length) then some l else some r
def bestL (wd : Nat) (l : List Int) (b : List Bool) : Option (List Int) :=
  better true ((goodL wd b).take (wd - 3)) (better (cleanB (restL wd l) b) (restL wd l) (better (cleanB (deltaL wd l) b) (deltaL wd l) none))
theorem best_same {wd : Nat} {l : List Int} {b : List Bool} (hl : l.length ≠ 0) (hg : wd - 3 ≤ (goodL wd b).length) : bestL wd l b = some (readsL wd l b) := by
  have hB : (restL wd l).length ≤ wd - 3 := sel_len _ _
  have hG : ((goodL wd b).take (wd - 3)).length = wd - 3 := by rw [List.length_take]; omega
  unfold bestL readsL
  rw [if_neg hl]
  generalize (goodL wd b).take (wd - 3) = G at *
  cases hA : cleanB (deltaL wd l) b with
  | false =>
    cases hC : cleanB (restL wd l) b with
    | false => simp [better]
    | true =>
      have : ¬ G.length < (restL wd l).length := by omega
      simp only [better, decide_eq_false this]
      simp
      all_goals (intro h9; exfalso; omega)
  | true =>
    cases hC : cleanB (restL wd l) b with
    | false =>
      by_cases h1 : (deltaL wd l).length ≤ wd - 3
      · have : ¬ G.length < (deltaL wd l).length := by omega
        simp only [better, decide_eq_false this]
        simp [h1]
        all_goals (intro h9; exfalso; omega)
      · have : G.length < (deltaL wd l).length := by omega
        simp only [better, decide_eq_true this]
        simp [h1]
        all_goals (intro h9; exfalso; omega)
    | true =>
      by_cases h1 : (deltaL wd l).length ≤ (restL wd l).length
      · have h2 : ¬ (restL wd l).length < (deltaL wd l).length := by omega
        have h3 : ¬ G.length < (deltaL wd l).length := by omega
        have h4 : (deltaL wd l).length ≤ wd - 3 := by omega
        simp only [better, decide_eq_false h2, decide_eq_false h3]
        simp [h1, h4, h2, h3]
      · have h2 : (restL wd l).length < (deltaL wd l).length := by omega
        have h3 : ¬ G.length < (restL wd l).length := by omega
        simp only [better, decide_eq_true h2, decide_eq_false h3]
        simp [h1, h2, h3]
end Go.Proofs.Ytifhjigkljdkmaa
