/- Plain laws of decoding: any width - 3 pieces of a group determine the others. No program is named here. -/
import Derived.Test.YtifhjigkljdkmaaPm
import Derived.Test.YtifhjigkljdkmaaLa2
namespace Go.Proofs.Ytifhjigkljdkmaa
open Gf (F)
set_option linter.unusedSimpArgs false
set_option linter.unusedVariables false
/-- Strictly increasing numbers below N: what is missing. -/
theorem missing : ∀ (N m : Nat) (f : Nat → Nat), (∀ r, r < m → f r < N) → (∀ r s, r < s → s < m → f r < f s) → ∃ l : List Nat, l.length + m = N ∧ ∀ p, p < N → p ∉ l → ∃ r, r < m ∧ f r = p
  | 0, m, f, hb, _ => by
    cases m with
    | zero => exact ⟨[], rfl, fun p hp => absurd hp (Nat.not_lt_zero _)⟩
    | succ m => exact absurd (hb 0 (by omega)) (Nat.not_lt_zero _)
  | N + 1, m, f, hb, hi => by
    by_cases h : 0 < m ∧ f (m - 1) = N
    · obtain ⟨h0, h1⟩ := h
      obtain ⟨l, hl, hp⟩ := missing N (m - 1) f (fun r hr => by have := hi r (m - 1) hr (by omega); omega) (fun r s h h2 => hi r s h (by omega))
      refine ⟨l, by omega, fun p hpN hpl => ?_⟩
      by_cases e : p = N
      · exact ⟨m - 1, by omega, by omega⟩
      · obtain ⟨r, hr, e2⟩ := hp p (by omega) hpl
        exact ⟨r, by omega, e2⟩
    · have hlast : ∀ r, r < m → f r < N := fun r hr => by
        have h2 := hb r hr
        by_cases e : r = m - 1
        · subst e
          have : ¬ f (m - 1) = N := fun h3 => h ⟨by omega, h3⟩
          omega
        · have h3 := hi r (m - 1) (by omega) (by omega)
          have h4 := hb (m - 1) (by omega)
          omega
      obtain ⟨l, hl, hp⟩ := missing N m f hlast hi
      refine ⟨N :: l, by simp; omega, fun p hpN hpl => ?_⟩
      simp only [List.mem_cons, not_or] at hpl
      exact hp p (by omega) hpl.2
theorem missing3 {n : Nat} {f : Nat → Nat} (hb : ∀ r, r < n → f r < n + 3) (hi : ∀ r s, r < s → s < n → f r < f s) : ∃ a b c, ∀ p, p < n + 3 → p ≠ a → p ≠ b → p ≠ c → ∃ r, r < n ∧ f r = p := by
  obtain ⟨l, hl, hp⟩ := missing (n + 3) n f hb hi
  have h3 : l.length = 3 := by omega
  match l, h3 with
  | [a, b, c], _ => exact ⟨a, b, c, fun p h h1 h2 h3 => hp p h (by simp [h1, h2, h3])⟩
/-- Piece p of n data pieces and their parity, as a combination of the data. -/
def genR (n p : Nat) : List F := mkr n fun i => if p < n then (if i = p then 1 else 0) else Gf.pow 2 ((p - n) * i)
theorem genR_length (n p : Nat) : (genR n p).length = n := mkr_length _ _
theorem dot_gen {n p : Nat} (x : Nat → F) : dot n (genR n p) x = if p < n then x p else syn n x (p - n) := by
  unfold dot genR
  by_cases h : p < n
  · rw [if_pos h, sumF_one h fun k hk hne => by rw [nth_mkr _ hk, if_pos h, if_neg hne, Gf.zero_mul], nth_mkr _ h, if_pos h, if_pos rfl, Gf.one_mul]
  · rw [if_neg h]
    unfold syn
    exact sumF_congr fun i hi => by rw [nth_mkr _ hi, if_neg h]
/-- n of the n + 3 pieces determine the data. -/
theorem ker_from {n : Nat} (hn : n ≤ 16) {f : Nat → Nat} (hb : ∀ r, r < n → f r < n + 3) (hi : ∀ r s, r < s → s < n → f r < f s) {x : Nat → F} (hx : ∀ r, r < n → dot n (genR n (f r)) x = 0) : ∀ i, i < n → x i = 0 := by
  obtain ⟨a, b, c, hp⟩ := missing3 hb hi
  refine mds (a := a) (b := b) (c := c) hn (fun i hin h1 h2 h3 => ?_) (fun j hj h1 h2 h3 => ?_)
  · obtain ⟨r, hr, e⟩ := hp i (by omega) h1 h2 h3
    have := hx r hr
    rw [dot_gen, e, if_pos hin] at this
    exact this
  · obtain ⟨r, hr, e⟩ := hp (n + j) (by omega) h1 h2 h3
    have := hx r hr
    rw [dot_gen, e, if_neg (by omega), Nat.add_sub_cancel_left] at this
    exact this
/-- The pieces of a consistent group are these combinations. -/
theorem grp_gen (D : List (List F)) {p k : Nat} (hp : p < D.length + 3) (hk : k < 8) : ent (grpM D) p k = dot D.length (genR D.length p) (fun i => ent D i k) := by
  rw [dot_gen]
  by_cases h : p < D.length
  · rw [if_pos h]
    unfold ent
    rw [grpM_data D h]
  · rw [if_neg h]
    obtain ⟨j, rfl⟩ : ∃ j, p = D.length + j := ⟨p - D.length, by omega⟩
    rw [Nat.add_sub_cancel_left]
    have : ent (grpM D) (D.length + j) k = ent (parM D) j k := by unfold ent; rw [grpM_par]
    rw [this, parM_ent D (by omega) hk]
    rfl
end Go.Proofs.Ytifhjigkljdkmaa
