/- Contracts of the closures of group.Reads and its methods. -/
import Derived.Test.YtifhjigkljdkmaaGd
namespace Go.Proofs.Ytifhjigkljdkmaa
open Go.RowKit
open Gf (F)
set_option linter.unusedSimpArgs false
set_option linter.unusedVariables false
section
variable {p q : Nat → Prop} {w : World} {A B : Option Addr} {n c m d wd gb gw gt i : Nat} {l : List Int} {b : List Bool}
set_option maxRecDepth 100000 in
theorem cl109 (hg : w.cell? ⟨gb, 0, none⟩ = some (.slice B m d)) (g : Bools q w B m d b) (hi : i < m) : Calls Try.prog 109 #[.int .i64 (i : Int), .pointer (some ⟨gb, 0, none⟩)] w fun e w' => e = .returned (.bool (ntb b i)) ∧ w = w' := by
  obtain ⟨b2, o2, rfl, _, _, hc⟩ := g.row.at_ (by omega)
  have e1 := hc i hi
  clear hc
  have d1 : (0 : Int) ≤ (i : Int) := Int.natCast_nonneg _
  have d2 : (i : Int) < (m : Int) := by omega
  go_enter Try.func109, Try.ntmps109
  go_wp2
  go_ret
  exact ⟨rfl, rfl⟩
set_option maxRecDepth 100000 in
theorem cl153 (hg : w.cell? ⟨gb, 0, none⟩ = some (.slice B m d)) (g : Bools q w B m d b) (hi : i < m) : Calls Try.prog 153 #[.int .i64 (i : Int), .pointer (some ⟨gb, 0, none⟩)] w fun e w' => e = .returned (.bool (ntb b i)) ∧ w = w' := by
  obtain ⟨b2, o2, rfl, _, _, hc⟩ := g.row.at_ (by omega)
  have e1 := hc i hi
  clear hc
  have d1 : (0 : Int) ≤ (i : Int) := Int.natCast_nonneg _
  have d2 : (i : Int) < (m : Int) := by omega
  go_enter Try.func153, Try.ntmps153
  go_wp2
  go_ret
  exact ⟨rfl, rfl⟩
set_option maxRecDepth 100000 in
theorem cl149 (hg : w.cell? ⟨gb, 0, none⟩ = some (.slice B m d)) (g : Bools q w B m d b) (hi : i < m) : Calls Try.prog 149 #[.int .i64 (i : Int), .pointer (some ⟨gb, 0, none⟩)] w fun e w' => e = .returned (.bool (!ntb b i)) ∧ w = w' := by
  obtain ⟨b2, o2, rfl, _, _, hc⟩ := g.row.at_ (by omega)
  have e1 := hc i hi
  clear hc
  have d1 : (0 : Int) ≤ (i : Int) := Int.natCast_nonneg _
  have d2 : (i : Int) < (m : Int) := by omega
  go_enter Try.func149, Try.ntmps149
  go_wp2
  go_ret
  exact ⟨rfl, rfl⟩
set_option maxRecDepth 100000 in
set_option maxHeartbeats 400000 in
theorem cl142 (h4 : 4 ≤ wd) (h16 : wd ≤ 16) (hw : w.cell? ⟨gw, 0, none⟩ = some (.int .i64 (wd : Int))) (ht : w.cell? ⟨gt, 0, none⟩ = some (.slice A n c)) (h : Ints p w A n c l) : Calls Try.prog 142 #[.int .i64 (i : Int), .pointer (some ⟨gw, 0, none⟩), .pointer (some ⟨gt, 0, none⟩)] w fun e w' => e = .returned (.bool (deltaP wd l i)) ∧ w = w' := by
  by_cases h3 : wd ≤ i + 3
  · have h3' : (wd : Int) - 3 ≤ (i : Int) := by omega
    have e : deltaP wd l i = true := by unfold deltaP; rw [decide_eq_true h3, Bool.or_true]
    rw [e]
    clear e
    replace h3 := Lib.hid h3
    go_enter Try.func142, Try.ntmps142
    go_wp2
    go_ret
    exact ⟨rfl, rfl⟩
  · have h3' : ¬ ((wd : Int) - 3 ≤ (i : Int)) := by omega
    have e : deltaP wd l i = decide ((i : Int) ∈ l) := by unfold deltaP; rw [decide_eq_false h3, Bool.or_false]
    rw [e]
    clear e
    replace h3 := Lib.hid h3
    go_enter Try.func142, Try.ntmps142
    go_wp2_with (go_at_call 143; (with_reducible refine (contains_any (i : Int) h).mono ?_); rintro e w' ⟨rfl, rfl⟩)
    go_ret
    exact ⟨rfl, rfl⟩
def rest2P (wd : Nat) (l : List Int) (i : Nat) : Bool := decide (i + 3 < wd) && !decide ((i : Int) ∈ l)
set_option maxRecDepth 100000 in
set_option maxHeartbeats 400000 in
theorem cl145 (h4 : 4 ≤ wd) (h16 : wd ≤ 16) (hw : w.cell? ⟨gw, 0, none⟩ = some (.int .i64 (wd : Int))) (ht : w.cell? ⟨gt, 0, none⟩ = some (.slice A n c)) (h : Ints p w A n c l) : Calls Try.prog 145 #[.int .i64 (i : Int), .pointer (some ⟨gw, 0, none⟩), .pointer (some ⟨gt, 0, none⟩)] w fun e w' => e = .returned (.bool (rest2P wd l i)) ∧ w = w' := by
  by_cases h3 : i + 3 < wd
  · have h3' : (i : Int) < (wd : Int) - 3 := by omega
    have e : rest2P wd l i = !decide ((i : Int) ∈ l) := by unfold rest2P; rw [decide_eq_true h3, Bool.true_and]
    rw [e]
    clear e
    replace h3 := Lib.hid h3
    go_enter Try.func145, Try.ntmps145
    go_wp2_with (go_at_call 143; (with_reducible refine (contains_any (i : Int) h).mono ?_); rintro e w' ⟨rfl, rfl⟩)
    go_ret
    exact ⟨rfl, rfl⟩
  · have h3' : ¬ ((i : Int) < (wd : Int) - 3) := by omega
    have e : rest2P wd l i = false := by unfold rest2P; rw [decide_eq_false h3, Bool.false_and]
    rw [e]
    clear e
    replace h3 := Lib.hid h3
    go_enter Try.func145, Try.ntmps145
    go_wp2
    go_ret
    exact ⟨rfl, rfl⟩
end
theorem sel_split (P Q : Nat → Bool) {k m : Nat} (hk : k ≤ m) (h1 : ∀ i, i < k → P i = Q i) (h2 : ∀ i, k ≤ i → i < m → P i = false) : sel P m = sel Q k := by
  induction m with
  | zero =>
    obtain rfl : k = 0 := by omega
    rfl
  | succ m ih =>
    by_cases e : k = m + 1
    · subst e
      have : ∀ t, t ≤ m + 1 → sel P t = sel Q t := fun t => by
        induction t with
        | zero => intro _; rfl
        | succ t iht =>
          intro ht
          have h := h1 t (by omega)
          cases hq : Q t with
          | true => rw [sel_yes hq, sel_yes (h.trans hq), iht (by omega)]
          | false => rw [sel_no hq, sel_no (h.trans hq), iht (by omega)]
      exact this _ (Nat.le_refl _)
    · rw [sel_no (h2 m (by omega) (Nat.lt_succ_self m))]
      exact ih (by omega) fun i hi hm => h2 i hi (by omega)
/-- What recompute reads is what the reference's Rest says. -/
theorem rest_same {wd : Nat} (h4 : 4 ≤ wd) (l : List Int) : sel (rest2P wd l) wd = sel (restP l) (wd - 3) :=
  sel_split _ _ (by omega) (fun i hi => by unfold rest2P restP; rw [decide_eq_true (by omega), Bool.true_and]) fun i hi hm => by unfold rest2P; rw [decide_eq_false (by omega), Bool.false_and]
end Go.Proofs.Ytifhjigkljdkmaa
