/- The law functions GfmatrixInverse, GfmatrixRank and GfmatrixLeftInverse return true. -/
import Derived.Test.YtifhjigkljdkmaaLw
import Derived.Test.YtifhjigkljdkmaaLa3
namespace Go.Proofs.Ytifhjigkljdkmaa
open Go.RowKit
open Gf (F)
set_option linter.unusedSimpArgs false
set_option linter.unusedVariables false
section
variable {p q : Nat → Prop} {w : World} {A B : Option Addr} {n c k d m : Nat} {R S : Nat → Option Addr} {L K C D : Nat → Nat} {x : List F} {a b : List (List F)}
theorem Rag.valid_mat (ha : Rag p w A n c R L C a) (v : Valid a) : Mat p w A n c R (L 0) C a ∧ 1 ≤ n ∧ n ≤ 64 ∧ 1 ≤ L 0 ∧ L 0 ≤ 64 ∧ Dim n (L 0) a ∧ (mrow a 0).length = L 0 := by
  have h1 : 1 ≤ n := by rw [← ha.len]; exact v.1
  have h0 : (mrow a 0).length = L 0 := ha.lens (by omega)
  have hall : ∀ j, j < n → (mrow a j).length = L 0 := fun j hj => by rw [← h0]; exact v.2.2.2.2 j (by rw [ha.len]; exact hj)
  exact ⟨ha.mat hall, h1, by rw [← ha.len]; exact v.2.1, by rw [← h0]; exact v.2.2.1, by rw [← h0]; exact v.2.2.2.1, ⟨ha.len, hall⟩, h0⟩
theorem Mat.belowR (h : Mat p w A n c R m C a) {w' : World} (k : Below w.heap.size w w') : Mat p w' A n c R m C a := h.keep (Keeps.below k)
set_option maxRecDepth 100000 in
set_option maxHeartbeats 1000000 in
theorem law6 (ha : Rag p w A n c R L C a) : Calls Try.prog 6 #[.slice A n c] w fun e w' => e = .returned (.bool true) ∧ Below w.heap.size w w' := by
  cases hs : small a with
  | false =>
    go_enter Try.func6, Try.ntmps6
    go_wp2_with (first | (go_at_call 27; refine (awake_any _).mono ?_; rintro e w1 ⟨rfl, hb1⟩; have ha1 := ha.belowR hb1) | (go_at_call 28; refine (small_any ha1).mono ?_; rw [hs]; rintro e w2 ⟨rfl, rfl⟩))
    go_ret
    exact ⟨rfl, hb1⟩
  | true =>
    by_cases v : Valid a
    · have hv : valid a = true := decide_eq_true v
      obtain ⟨hm, r1, r2, r3, r4, hd, h0⟩ := ha.valid_mat v
      generalize L 0 = k at *
      have vt : Valid (trM n k a) := (Dim.mkm _ _ _).valid r3 r4 r1 r2
      have ht : Hid ((indep (trM n k a)).length = (indep a).length) := rank_tr hd.len hd.row
      go_enter Try.func6, Try.ntmps6
      go_wp2_with (first | (go_at_call 27; refine (awake_any _).mono ?_; rintro e w1 ⟨rfl, hb1⟩; have ha1 := ha.belowR hb1; have hm1 := hm.belowR hb1) | (go_at_call 28; refine (small_any ha1).mono ?_; rw [hs]; rintro e w2 ⟨rfl, rfl⟩) | (go_at_call 40; refine (rank_ok hm4 vt r2 r4).mono ?_; rw [ht.out]; rintro e w5 ⟨rfl, hb5⟩; have hm5 := hm3.belowR hb5; have hB5 := below_then2 hB4 hb5) | (go_at_call 40; refine (rank_ok hm1 v r4 r2).mono ?_; rintro e w2 ⟨rfl, hb2⟩; have ha2 := ha1.belowR hb2; have hm2 := hm1.belowR hb2; have hB2 := below_then2 hb1 hb2) | (go_at_call 30; refine (refvalid_any ha2).mono ?_; rw [hv]; rintro e w3 ⟨rfl, nd, rfl⟩; have hB3 := below_drewN hB2 nd; have hm2' := hm2.drewN nd) | (go_at_call 41; refine (transpose_ok hm2' v).mono ?_; rintro e w4 ⟨g, R', C', rfl, hm4, hb4⟩; have hm3 := hm2'.belowR hb4; have hB4 := below_then2 hB3 hb4) | (go_at_call 31; refine (refindep_any hm5 r2 r4).mono ?_; rintro e w6 ⟨A6, c6, rfl, hi, hb6⟩; have hB6 := below_then2 hB5 hb6))
      all_goals (go_ret; exact ⟨by simp, hB6⟩)
    · have hv : valid a = false := by simpa [valid] using v
      go_enter Try.func6, Try.ntmps6
      go_wp2_with (first | (go_at_call 27; refine (awake_any _).mono ?_; rintro e w1 ⟨rfl, hb1⟩; have ha1 := ha.belowR hb1) | (go_at_call 28; refine (small_any ha1).mono ?_; rw [hs]; rintro e w2 ⟨rfl, rfl⟩) | (go_at_call 40; refine (rank_bad ha1 v).mono ?_; rintro e w2 ⟨rfl, rfl⟩) | (go_at_call 30; refine (refvalid_any ha1).mono ?_; rw [hv]; rintro e w3 ⟨rfl, nd, rfl⟩; have hB3 := below_drewN hb1 nd))
      all_goals (go_ret; exact ⟨by simp, hB3⟩)
end
end Go.Proofs.Ytifhjigkljdkmaa
