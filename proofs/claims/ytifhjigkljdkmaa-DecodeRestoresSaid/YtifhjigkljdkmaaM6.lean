/- Contracts of the functions on matrices (sixth part): gfmatrix.Inverse. -/
import Derived.Test.YtifhjigkljdkmaaM5
namespace Go.Proofs.Ytifhjigkljdkmaa
open Go.RowKit
open Gf (F)
set_option linter.unusedSimpArgs false
set_option linter.unusedVariables false
section
variable {p q : Nat → Prop} {w : World} {A B : Option Addr} {n c k d m : Nat} {R S : Nat → Option Addr} {L K C D : Nat → Nat} {x : List F} {a b : List (List F)}
theorem iscol_any {gc cc : Nat} (h : Byt p w A m c x) (hc : w.cell? ⟨gc, 0, none⟩ = some (.int .i64 (cc : Int))) (hlt : cc < m) : Calls Try.prog 89 #[.slice A m c, .pointer (some ⟨gc, 0, none⟩)] w fun e w' => e = .returned (.bool (nth x cc != 0)) ∧ w = w' := by
  obtain ⟨b, o, rfl, _, _, hx⟩ := h.at_ (by omega)
  have f1 := hx cc hlt
  clear hx
  have ht := toNat_ne_zero (nth x cc)
  go_enter Try.func89, Try.ntmps89
  go_wp2
  go_ret
  exact ⟨rfl, rfl⟩
/-- The first row that has another element than 0 in column cc. -/
theorem findrow_any {gc cc : Nat} {A : Option Addr} {n c : Nat} {R : Nat → Option Addr} {C : Nat → Nat} {f : Nat → List F} (hr : Row p w A n c (fun j => .slice (R j) m (C j))) (hb : ∀ j, j < n → Byt q w (R j) m (C j) (f j))
    (hc : w.cell? ⟨gc, 0, none⟩ = some (.int .i64 (cc : Int))) (hlt : cc < m) :
    Calls Try.prog 88 #[.slice A n c, .func (.func 89) #[] #[.pointer (some ⟨gc, 0, none⟩)]] w fun e w' => e = .returned (.int .i64 (lead (mkr n (fun j => nth (f j) cc)))) ∧ w = w' := by
  have hn := hr.len
  go_enter Try.func88, Try.ntmps88
  go_wp2
  go_loop [5, 8] (fun _ i => ∃ k : Nat, k ≤ n ∧ i = .int .i64 k ∧ ∀ j, j < k → nth (f j) cc = 0) (fun _ i => n - (intOf i).toNat)
  case atStart => exact ⟨0, by omega, rfl, fun j hj => absurd hj (Nat.not_lt_zero _)⟩
  case round =>
    obtain ⟨k, hk, rfl, hall⟩ := hrel
    replace hall := Lib.hid hall
    by_cases hltk : k < n
    · obtain ⟨b, o, rfl, _, _, hx⟩ := hr.at_ (by omega)
      have e1 := hx k hltk
      clear hx
      have hbk := hb k hltk
      by_cases hz : nth (f k) cc = 0
      · have ht : (nth (f k) cc != 0) = false := by rw [hz]; rfl
        replace hz := Lib.hid hz
        go_wp2_with (go_at_call 89; refine (iscol_any hbk hc hlt).mono ?_; rintro e w' ⟨rfl, rfl⟩)
        go_round
        case rel => exact ⟨k + 1, by omega, by go_num, fun j hj => by
            rcases Nat.lt_succ_iff_lt_or_eq.1 hj with hj | rfl
            · exact hall.out j hj
            · exact hz.out⟩
        case measure => simp [intOf]; omega
      · have ht : (nth (f k) cc != 0) = true := by simpa using hz
        replace hz := Lib.hid hz
        go_wp2_with (go_at_call 89; refine (iscol_any hbk hc hlt).mono ?_; rintro e w' ⟨rfl, rfl⟩)
        go_ret
        exact ⟨ret_i64 (lead_of (by rw [mkr_length]; exact hltk) (by rw [nth_mkr _ hltk]; exact hz.out) (fun j hj => by rw [nth_mkr _ (by omega)]; exact hall.out j hj)).symm, rfl⟩
    · obtain rfl : k = n := by omega
      go_wp2
      go_ret
      exact ⟨ret_i64 (lead_none (fun j hj => by rw [mkr_length] at hj; rw [nth_mkr _ hj]; exact hall.out j hj)).symm, rfl⟩
end
/-! ### Gauss and Jordan, on functions -/
/-- The matrix with the identity beside it. -/
def augS (M : List (List F)) (n : Nat) (i j : Nat) : F := if j < n then ent M i j else if j = n + i then 1 else 0
def colS (st : Nat → Nat → F) (c n : Nat) : List F := mkr (n - c) (fun k => st (c + k) c)
def swapS (st : Nat → Nat → F) (c q : Nat) (i : Nat) : Nat → F := if i = c then st q else if i = q then st c else st i
def scaleS (st : Nat → Nat → F) (c : Nat) (i j : Nat) : F := if i = c then Gf.mul (Gf.inv (st c c)) (st c j) else st i j
/-- Rows below k are done. -/
def elimS (st : Nat → Nat → F) (c k : Nat) (i j : Nat) : F := if i < k ∧ i ≠ c then st i j ^^^ Gf.mul (st i c) (st c j) else st i j
def stepS (n c : Nat) (st : Nat → Nat → F) : Nat → Nat → F := elimS (scaleS (swapS st c (c + leadN (colS st c n))) c) c n
def gjS (M : List (List F)) (n : Nat) : Nat → Option (Nat → Nat → F)
  | 0 => some (augS M n)
  | c + 1 => match gjS M n c with
    | some st => if leadN (colS st c n) < n - c then some (stepS n c st) else none
    | none => none
theorem gjS_succ {M : List (List F)} {n c : Nat} {st : Nat → Nat → F} (h : gjS M n c = some st) : gjS M n (c + 1) = if leadN (colS st c n) < n - c then some (stepS n c st) else none := by
  conv => lhs; unfold gjS
  rw [h]
theorem gjS_mono {M : List (List F)} {n c : Nat} (h : gjS M n c = none) : ∀ d, c ≤ d → gjS M n d = none := by
  intro d hd
  induction d with
  | zero =>
    obtain rfl : c = 0 := by omega
    exact h
  | succ d ih =>
    rcases Nat.eq_or_lt_of_le hd with rfl | hlt
    · exact h
    · have := ih (by omega)
      unfold gjS
      rw [this]
/-- The inverse, if there is one. -/
def invM (M : List (List F)) (n : Nat) : Option (List (List F)) := (gjS M n n).map fun st => mkm n n fun i j => st i (n + j)
end Go.Proofs.Ytifhjigkljdkmaa
