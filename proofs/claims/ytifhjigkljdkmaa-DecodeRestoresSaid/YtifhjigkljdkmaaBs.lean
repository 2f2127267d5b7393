/- Contracts of the reference of chapter 3: Group, Check, Encode. -/
import Derived.Test.YtifhjigkljdkmaaBr
namespace Go.Proofs.Ytifhjigkljdkmaa
open Go.RowKit
open Gf (F)
set_option linter.unusedSimpArgs false
set_option linter.unusedVariables false
section
variable {p q : Nat → Prop} {w w' : World} {A : Option Addr} {n c : Nat} {M D : List (List F)}
set_option maxRecDepth 100000 in
set_option maxHeartbeats 1000000 in
theorem group03_any (h : Blks p w A n c D) (hn : n ≤ 64) : Calls Try.prog 78 #[.slice A n c] w fun e w' => ∃ A' c', e = .returned (.slice A' (n + 3) c') ∧ OwnB w' w.heap.size (.slice A' (n + 3) c') (n + 3) (grpM D) ∧ Below w.heap.size w w' := by
  have hown := World.ownsRow_made (base := w.heap.size) (e := 64) (size := 8) w #[] 0 (Nat.le_refl _) (Nat.zero_le _) rfl
  have hb0 : Below w.heap.size w (w.alloc (.cells #[] 64)) := (Below.refl _ _).alloc (Nat.le_refl _) _
  have h0 := h.below hb0
  have hsz := size_alloc1 w (.cells #[] 64)
  have hrow := fun j (hj : j < n) => h.row hj
  have hlen := h.1
  replace hrow := Lib.hid hrow
  replace hlen := Lib.hid hlen
  go_enter Try.func78, Try.ntmps78
  go_wp2_with (first | (at_builtin; refine wpl_append_elm rfl (sl := .tmp 3) (x := .tmp 4) rfl Try.underlying53 info64f rfl (by decide) rfl hown rfl h0.2 (by unfold maxLen; omega) (by omega) (by omega) ?_; intro v2 w2 hown2 hgr2 hne2; rw [Nat.zero_add, List.nil_append] at hown2; have hO : OwnB w2 w.heap.size v2 n D := ⟨hlen.out, hrow.out, hown2⟩; have hB2 : Below w.heap.size w w2 := (hb0.grown hgr2 (by omega) (fun k e => by cases e; exact Nat.le_refl _)); have hD2 := h.below hB2; have hz2 := hB2.size) | (go_at_call 118; (with_reducible refine (parity03_any hD2 hn).mono ?_); rintro e w3 ⟨g3, rfl, hp3, hb3⟩; have hO3 := hO.below hb3; have hB3 := below_then2 hB2 hb3; have hz3 := hb3.size) | (at_builtin; refine wpl_append_elm rfl (sl := .tmp 5) (x := .tmp 7) rfl Try.underlying53 info64f rfl (by decide) rfl hO3.own rfl hp3.2 (by unfold maxLen; omega) (by omega) (by omega) ?_; intro v4 w4 hown4 hgr4 hne4))
  have hO4 : OwnB w4 w.heap.size v4 (n + 3) (grpM D) := hO3.app hp3 hown4
  have hB4 := hB3.grown hgr4 (by omega) (fun k e => ownge hO3 k e)
  obtain ⟨A4, c4, rfl, _⟩ := hO4.blks
  go_wp2
  go_ret
  exact ⟨A4, c4, rfl, hO4, hB4⟩
set_option maxRecDepth 100000 in
set_option maxHeartbeats 1000000 in
theorem rcheck_any (h : Blks p w A n c M) : Calls Try.prog 55 #[.slice A n c] w fun e w' => e = .returned (.bool (conB M)) ∧ Below w.heap.size w w' := by
  have hn := h.len
  have hl := Lib.hid h.1
  by_cases hb : n < 4
  · have hc := Lib.hid (conB_no hl.out (.inl hb))
    go_enter Try.func55, Try.ntmps55
    go_wp2
    go_ret
    exact ⟨ret_bool hc.out.symm, Below.refl _ _⟩
  by_cases hb2 : 16 < n
  · have hc := Lib.hid (conB_no hl.out (.inr hb2))
    go_enter Try.func55, Try.ntmps55
    go_wp2
    go_ret
    exact ⟨ret_bool hc.out.symm, Below.refl _ _⟩
  have hcap := h.2.le
  have hcap2 := h.2.cap
  unfold maxLen at hcap2
  have hpre := h.pre (k := n - 3) (by omega)
  have e3 : n - 3 + 3 = n := by omega
  have hc : Hid (conB M = decide (M = grpM (M.take (n - 3)))) := by
    show _ = _
    unfold conB
    rw [decide_eq_true (show 4 ≤ M.length by rw [hl.out]; omega), decide_eq_true (show M.length ≤ 16 by rw [hl.out]; omega), hl.out]
    rfl
  have hg := group03_any hpre (by omega)
  rw [e3] at hg
  clear e3
  go_enter Try.func55, Try.ntmps55
  go_wp2_with (first | (go_at_call 78; (with_reducible refine hg.mono ?_); rintro e w1 ⟨A1, c1, rfl, hO1, hb1⟩; have h1 := h.below hb1; obtain ⟨A1', c1', e1, hB1⟩ := hO1.blks; cases e1) | (go_at_call 74; (with_reducible refine (same03_any h1 hB1).mono ?_); rintro e w2 ⟨rfl, nd, rfl⟩))
  go_ret
  exact ⟨ret_bool (by rw [hc.out]), below_drewN hb1 nd⟩
set_option maxRecDepth 100000 in
set_option maxHeartbeats 1000000 in
theorem rencode_arg (h : Blks p w A n c D) (hbad : n < 1 ∨ 13 < n) : Calls Try.prog 106 #[.slice A n c] w fun e w' => e = .returned (.tuple #[.slice none 0 0, .int .i64 1]) ∧ w = w' := by
  have hn := h.len
  rcases hbad with hb | hb
  · obtain rfl : n = 0 := by omega
    go_enter Try.func106, Try.ntmps106
    go_wp2
    go_ret2
    exact ⟨rfl, rfl⟩
  · have hb2 : ¬ (n < 1) := by omega
    go_enter Try.func106, Try.ntmps106
    go_wp2
    go_ret2
    exact ⟨rfl, rfl⟩
set_option maxRecDepth 100000 in
set_option maxHeartbeats 1000000 in
theorem rencode_any (h : Blks p w A n c D) (h1 : 1 ≤ n) (h13 : n ≤ 13) : Calls Try.prog 106 #[.slice A n c] w fun e w' => ∃ g, e = .returned (.tuple #[.slice (some ⟨g, 0, none⟩) 3 3, .int .i64 0]) ∧ Blks (fun b => w.heap.size ≤ b) w' (some ⟨g, 0, none⟩) 3 3 (parM D) ∧ Below w.heap.size w w' := by
  go_enter Try.func106, Try.ntmps106
  go_wp2_with (go_at_call 118; (with_reducible refine (parity03_any h (by omega)).mono ?_); rintro e w3 ⟨g3, rfl, hp3, hb3⟩)
  go_ret2
  exact ⟨g3, rfl, hp3, hb3⟩
end
end Go.Proofs.Ytifhjigkljdkmaa
