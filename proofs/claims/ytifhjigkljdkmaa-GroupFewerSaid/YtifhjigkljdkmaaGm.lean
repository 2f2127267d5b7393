/- The law functions GroupReads, GroupFewest and GroupFewer return true. -/
import Derived.Test.YtifhjigkljdkmaaAw
import Derived.Test.YtifhjigkljdkmaaGl
namespace Go.Proofs.Ytifhjigkljdkmaa
open Go.RowKit
open Gf (F)
set_option linter.unusedSimpArgs false
set_option linter.unusedVariables false
/-! ### Plain -/
theorem reads_le3 {wd : Nat} {l : List Int} {b : List Bool} : (readsL wd l b).length ≤ wd - 3 := by
  unfold readsL
  have := sel_len (restP l) (wd - 3)
  split
  · simp
  split
  · rename_i h; exact h.2.2
  split
  · exact this
  · rw [List.length_take]; omega
theorem reads_led {wd : Nat} {l : List Int} {b : List Bool} (h : cleanB (deltaL wd l) b = true) : (readsL wd l b).length ≤ (deltaL wd l).length := by
  unfold readsL
  have := sel_len (restP l) (wd - 3)
  split
  · simp
  split
  · omega
  rename_i h1 h2
  split
  · rename_i h3
    unfold restL at *
    simp only [h, h3, true_and] at h2
    simp at h2
    by_cases h5 : (deltaL wd l).length ≤ (sel (restP l) (wd - 3)).length
    · have := h2 h5; omega
    · omega
  · rename_i h3
    have h4 : cleanB (restL wd l) b = false := by simpa using h3
    rw [List.length_take]
    simp only [h, h4, true_and, true_or] at h2
    omega
theorem reads_ler {wd : Nat} {l : List Int} {b : List Bool} (h : cleanB (restL wd l) b = true) : (readsL wd l b).length ≤ (restL wd l).length := by
  unfold readsL
  split
  · simp
  split
  · rename_i h2; rw [h] at h2; simp at h2; omega
  · exact Nat.le_refl _
theorem take_sel {P : Nat → Bool} {k j : Nat} {z : Int} (h : z ∈ (sel P k).take j) : ∃ t : Nat, z = t ∧ t < k ∧ P t = true := by
  have h := List.mem_of_mem_take h
  unfold sel at h
  obtain ⟨t, ht, e⟩ := List.mem_map.1 h
  have := List.mem_filter.1 ht
  exact ⟨t, e.symm, List.mem_range.1 this.1, this.2⟩
theorem reads_good {wd : Nat} {l : List Int} {b : List Bool} {z : Int} (h : z ∈ readsL wd l b) : ∃ t : Nat, z = t ∧ t < wd ∧ ntb b t = false := by
  have key : ∀ {P : Nat → Bool} {k : Nat}, k ≤ wd → cleanB (sel P k) b = true → z ∈ sel P k → ∃ t : Nat, z = t ∧ t < wd ∧ ntb b t = false := by
    intro P k hk hc hz
    obtain ⟨t, e, ht, _⟩ := take_sel (j := (sel P k).length) (P := P) (k := k) (by rw [List.take_length]; exact hz)
    have := List.all_eq_true.1 hc z hz
    rw [e] at this
    exact ⟨t, e, by omega, by simpa using this⟩
  unfold readsL at h
  split at h
  · simp at h
  split at h
  · rename_i h2; exact key (Nat.le_refl _) h2.1 h
  split at h
  · rename_i h2; exact key (by omega) h2 h
  · obtain ⟨t, e, ht, hp⟩ := take_sel h
    exact ⟨t, e, ht, by unfold goodP at hp; simpa using hp⟩
/-! ### Both ways -/
def ReadsSpec (z : Int) (m n : Nat) (l : List Int) (b : List Bool) (r : List Int) (er : Int) : Prop :=
  (¬ (wideB z = true ∧ (m : Int) = z) ∧ r = [] ∧ er = 1) ∨
  (∃ wd : Nat, z = wd ∧ m = wd ∧ 4 ≤ wd ∧ wd ≤ 16 ∧ ¬ TouchOk wd n l ∧ r = [] ∧ er = 1) ∨
  (∃ wd : Nat, z = wd ∧ m = wd ∧ 4 ≤ wd ∧ wd ≤ 16 ∧ TouchOk wd n l ∧ (goodL wd b).length < wd - 3 ∧ r = [] ∧ er = 12) ∨
  (∃ wd : Nat, z = wd ∧ m = wd ∧ 4 ≤ wd ∧ wd ≤ 16 ∧ TouchOk wd n l ∧ ¬ (goodL wd b).length < wd - 3 ∧ r = readsL wd l b ∧ er = 0)
def ReadsRet (w : World) (r : List Int) (er : Int) (e : Ending) (w' : World) : Prop :=
  ∃ A' c', e = .returned (.tuple #[.slice A' r.length c', .int .i64 er]) ∧ Ints (fun _ => True) w' A' r.length c' r ∧ Below w.heap.size w w'
theorem ints_none (w : World) : Ints (fun _ => True) w none 0 0 [] := ⟨rfl, Nat.le_refl _, by decide, fun h => absurd h (Nat.lt_irrefl _)⟩
section
variable {p q : Nat → Prop} {w w' : World} {A B : Option Addr} {n c m d wd : Nat} {l k : List Int} {b : List Bool}
theorem ret_none {w w' : World} {e : Ending} {er : Int} (h : e = .returned (.tuple #[.slice none 0 0, .int .i64 er]) ∧ Below w.heap.size w w') : ReadsRet w [] er e w' :=
  ⟨none, 0, h.1, ints_none _, h.2⟩
theorem reads_pair (h : Ints p w A n c l) (g : Bools q w B m d b) (z : Int) : ∃ r er, ReadsSpec z m n l b r er ∧
    (∀ w', Below w.heap.size w w' → Calls Try.prog 57 #[.int .i64 z, .slice A n c, .slice B m d] w' (ReadsRet w' r er)) ∧ (∀ w', Below w.heap.size w w' → Calls Try.prog 58 #[.int .i64 z, .slice A n c, .slice B m d] w' (ReadsRet w' r er)) := by
  by_cases hb : wideB z = true ∧ (m : Int) = z
  · obtain ⟨h1, h2⟩ := hb
    have h3 : (4 : Int) ≤ z ∧ z ≤ 16 := by unfold wideB at h1; simp at h1; exact h1
    obtain ⟨h4, h16⟩ : 4 ≤ m ∧ m ≤ 16 := by omega
    subst h2
    by_cases ht : TouchOk m n l
    · by_cases hl : (goodL m b).length < m - 3
      · exact ⟨[], 12, .inr (.inr (.inl ⟨m, rfl, rfl, h4, h16, ht, hl, rfl, rfl⟩)), fun w' k => (greads_lost (h.below k) (g.below k) h4 h16 ht hl).mono fun _ _ => ret_none, fun w' k => (rreads_lost (h.below k) (g.below k) h4 h16 ht hl).mono fun _ _ => ret_none⟩
      · refine ⟨readsL m l b, 0, .inr (.inr (.inr ⟨m, rfl, rfl, h4, h16, ht, hl, rfl, rfl⟩)), fun w' k => ?_, fun w' k => rreads_any (h.below k) (g.below k) h4 h16 ht hl⟩
        by_cases h0 : n = 0
        · have : readsL m l b = [] := by unfold readsL; rw [if_pos (by rw [h.len]; exact h0)]
          rw [this]
          exact (greads_none (h.below k) (g.below k) h4 h16 ht hl h0).mono fun _ _ => ret_none
        · exact greads_ok (h.below k) (g.below k) h4 h16 ht hl h0
    · exact ⟨[], 1, .inr (.inl ⟨m, rfl, rfl, h4, h16, ht, rfl, rfl⟩), fun w' k => (greads_touch (h.below k) (g.below k) h4 h16 ht).mono fun _ _ => ret_none, fun w' k => (rreads_touch (h.below k) (g.below k) h4 h16 ht).mono fun e w2 h => ret_none (by obtain ⟨h1, nd, rfl⟩ := h; exact ⟨h1, below_drewN (Below.refl _ _) nd⟩)⟩
  · exact ⟨[], 1, .inl ⟨hb, rfl, rfl⟩, fun w' k => (greads_arg (h.below k) (g.below k) hb).mono fun _ _ => ret_none, fun w' k => (rreads_arg (h.below k) (g.below k) hb).mono fun e w2 h => ret_none (by obtain ⟨h1, rfl⟩ := h; exact ⟨h1, Below.refl _ _⟩)⟩
/-! ### GroupReads -/
set_option maxRecDepth 100000 in
set_option maxHeartbeats 1000000 in
theorem law12 (z : Int) (h : Ints p w A n c l) (g : Bools q w B m d b) : Calls Try.prog 12 #[.int .i64 z, .slice A n c, .slice B m d] w fun e w' => e = .returned (.bool true) ∧ Below w.heap.size w w' := by
  have hn := h.row.len
  have hm := g.row.len
  by_cases h1 : 40 < n
  · go_enter Try.func12, Try.ntmps12
    go_wp2_with (go_at_call 48; refine (awake24_any _).mono ?_; rintro e w1 ⟨rfl, hb1⟩)
    all_goals (go_ret; exact ⟨rfl, hb1⟩)
  by_cases h2 : 40 < m
  · go_enter Try.func12, Try.ntmps12
    go_wp2_with (go_at_call 48; refine (awake24_any _).mono ?_; rintro e w1 ⟨rfl, hb1⟩)
    all_goals (go_ret; exact ⟨rfl, hb1⟩)
  obtain ⟨r, er, hs, c57, c58⟩ := reads_pair h g z
  clear hs
  go_enter Try.func12, Try.ntmps12
  go_wp2_with (first | (go_at_call 48; refine (awake24_any _).mono ?_; rintro e w1 ⟨rfl, hb1⟩) | (go_at_call 57; refine (c57 _ hb1).mono ?_; rintro e w2 ⟨A2, k2, rfl, hi2, hb2⟩; have hB2 := below_then2 hb1 hb2) | (go_at_call 58; refine (c58 _ hB2).mono ?_; rintro e w3 ⟨A3, k3, rfl, hi3, hb3⟩; have hB3 := below_then2 hB2 hb3; have hi2' := hi2.below hb3) | (go_at_call 53; (with_reducible refine (sameints24_any hi2' hi3).mono ?_); rw [show decide (r = r) = true from decide_eq_true rfl]; rintro e w4 ⟨rfl, nd, rfl⟩; have hB4 := below_drewN hB3 nd))
  go_ret
  exact ⟨rfl, hB4⟩
end
end Go.Proofs.Ytifhjigkljdkmaa
