/- The law function GroupApply returns true. -/
import Derived.Test.YtifhjigkljdkmaaRa
import Derived.Test.YtifhjigkljdkmaaAw
namespace Go.Proofs.Ytifhjigkljdkmaa
open Go.RowKit
open Gf (F)
set_option linter.unusedSimpArgs false
set_option linter.unusedVariables false
theorem ints_zero (w : World) : Ints (fun _ => True) w none 0 0 [] := ⟨rfl, Nat.le_refl _, by decide, fun h => absurd h (Nat.lt_irrefl _)⟩
theorem blks_none (w : World) : Blks (fun _ => True) w none 0 0 [] := ⟨rfl, Nat.le_refl _, by decide, fun j hj => absurd hj (Nat.not_lt_zero _), fun j hj => absurd hj (Nat.not_lt_zero _), fun h => absurd h (Nat.lt_irrefl _)⟩
section
variable {p q : Nat → Prop} {w w' : World} {A B : Option Addr} {n c m d : Nat} {M : List (List F)} {l : List Chg}
/-- What both ways of applying return. -/
def ApplyRet (w : World) (r : Nat) (O : List (List F)) (D : List Int) (er : Int) (e : Ending) (w' : World) : Prop :=
  ∃ A' c' A2 c2, e = .returned (.tuple #[.slice A' r c', .slice A2 D.length c2, .int .i64 er]) ∧ Blks (fun _ => True) w' A' r c' O ∧ Ints (fun _ => True) w' A2 D.length c2 D ∧ Below w.heap.size w w'
theorem apply_none {w w' : World} {e : Ending} (h : e = .returned (.tuple #[.slice none 0 0, .slice none 0 0, .int .i64 1]) ∧ Below w.heap.size w w') : ApplyRet w 0 [] [] 1 e w' :=
  ⟨none, 0, none, 0, h.1, blks_none _, ints_zero _, h.2⟩
/-- Is the group consistent, and are the changes of data pieces? -/
def appB (n : Nat) (M : List (List F)) (l : List Chg) : Bool := conB M && okC n l
def ApplySpec (n : Nat) (M : List (List F)) (l : List Chg) (r : Nat) (O : List (List F)) (D : List Int) (er : Int) : Prop :=
  (appB n M l = false ∧ r = 0 ∧ O = [] ∧ D = [] ∧ er = 1) ∨ (appB n M l = true ∧ r = n ∧ O = appO M l ∧ D = diffL M (appO M l) ∧ er = 0)
theorem gapply_any (h : Blks p w A n c M) (g : Chgs q w B m d l) {r : Nat} {O : List (List F)} {D : List Int} {er : Int} (hs : ApplySpec n M l r O D er) : Calls Try.prog 49 #[.slice A n c, .slice B m d] w (ApplyRet w r O D er) := by
  rcases hs with ⟨hb, rfl, rfl, rfl, rfl⟩ | ⟨hb, rfl, rfl, rfl, rfl⟩
  · refine (gapply_arg h g ?_).mono fun _ _ => apply_none
    unfold appB at hb
    exact Bool.and_eq_false_iff.1 hb
  · unfold appB at hb
    simp only [Bool.and_eq_true] at hb
    exact gapply_ok h g hb.1 hb.2
theorem rapply_any (h : Blks p w A n c M) (g : Chgs q w B m d l) {r : Nat} {O : List (List F)} {D : List Int} {er : Int} (hs : ApplySpec n M l r O D er) : Calls Try.prog 51 #[.slice A n c, .slice B m d] w (ApplyRet w r O D er) := by
  rcases hs with ⟨hb, rfl, rfl, rfl, rfl⟩ | ⟨hb, rfl, rfl, rfl, rfl⟩
  · refine (rapply_arg h g ?_).mono fun _ _ => apply_none
    unfold appB at hb
    exact Bool.and_eq_false_iff.1 hb
  · unfold appB at hb
    simp only [Bool.and_eq_true] at hb
    exact rapply_ok h g hb.1 hb.2
theorem apply_spec (n : Nat) (M : List (List F)) (l : List Chg) : ∃ r O D er, ApplySpec n M l r O D er ∧ (er = 0 ∨ er = 1) := by
  cases hb : appB n M l with
  | false => exact ⟨_, _, _, _, .inl ⟨hb, rfl, rfl, rfl, rfl⟩, .inr rfl⟩
  | true => exact ⟨_, _, _, _, .inr ⟨hb, rfl, rfl, rfl, rfl⟩, .inl rfl⟩
set_option maxRecDepth 100000 in
set_option maxHeartbeats 1000000 in
theorem law10 (h : Blks p w A n c M) (g : Chgs q w B m d l) : Calls Try.prog 10 #[.slice A n c, .slice B m d] w fun e w' => e = .returned (.bool true) ∧ Below w.heap.size w w' := by
  have hn := h.len
  have hm := g.elm.len
  by_cases h1 : 20 < n
  · go_enter Try.func10, Try.ntmps10
    go_wp2_with (go_at_call 48; refine (awake24_any _).mono ?_; rintro e w1 ⟨rfl, hb1⟩)
    all_goals (go_ret; exact ⟨rfl, hb1⟩)
  by_cases h2 : 40 < m
  · go_enter Try.func10, Try.ntmps10
    go_wp2_with (go_at_call 48; refine (awake24_any _).mono ?_; rintro e w1 ⟨rfl, hb1⟩)
    all_goals (go_ret; exact ⟨rfl, hb1⟩)
  obtain ⟨r, O, D, er, hs, _⟩ := apply_spec n M l
  replace hs := Lib.hid hs
  go_enter Try.func10, Try.ntmps10
  go_wp2_with (first | (go_at_call 48; refine (awake24_any _).mono ?_; rintro e w1 ⟨rfl, hb1⟩; have g1 := g.below hb1) | (go_at_call 50; (with_reducible refine (from24_any g1 (by omega)).mono ?_); rintro e w2 ⟨A2, c2, rfl, hf2, hb2⟩; have hB2 := below_then2 hb1 hb2; have hM2 := h.below hB2) | (go_at_call 49; (with_reducible refine (gapply_any hM2 hf2 hs.out).mono ?_); rintro e w3 ⟨A3, c3, A4, c4, rfl, hO3, hD3, hb3⟩; have hB3 := below_then2 hB2 hb3; have hM3 := h.below hB3; have g3 := g.below hB3) | (go_at_call 51; (with_reducible refine (rapply_any hM3 g3 hs.out).mono ?_); rintro e w5 ⟨A5, c5, A6, c6, rfl, hO5, hD5, hb5⟩; have hB5 := below_then2 hB3 hb5; have hO3' := hO3.below hb5; have hD3' := hD3.below hb5) | (go_at_call 52; (with_reducible refine (sameblocks_any hO3' hO5).mono ?_); rw [show decide (O = O) = true from decide_eq_true rfl]; rintro e w6 ⟨rfl, nd, rfl⟩; have hB6 := below_drewN hB5 nd; have hD6 := hD5.drewN nd; have hD6' := hD3'.drewN nd) | (go_at_call 53; (with_reducible refine (sameints24_any hD6' hD6).mono ?_); rw [show decide (D = D) = true from decide_eq_true rfl]; rintro e w7 ⟨rfl, nd2, rfl⟩; have hB7 := below_drewN hB6 nd2))
  go_ret
  exact ⟨rfl, below_drewN hB5 (nd + nd2)⟩
end
end Go.Proofs.Ytifhjigkljdkmaa
