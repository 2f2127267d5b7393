import Derived.Test.YtifhjigkljdkmaaMc
import Derived.Test.YtifhjigkljdkmaaMd
namespace Go.Proofs.Ytifhjigkljdkmaa
open Go.RowKit
open Gf (F)
set_option linter.unusedSimpArgs false
set_option linter.unusedVariables false
section
variable {p q : Nat → Prop} {w : World} {A B : Option Addr} {n c k d m : Nat} {R S : Nat → Option Addr} {L K C D : Nat → Nat} {x : List F} {a b : List (List F)}
theorem Rag.belowR (h : Rag p w A n c R L C a) {w' : World} (k : Below w.heap.size w w') : Rag p w' A n c R L C a := h.keep (Keeps.below k)
theorem valid_idm {n : Nat} (h1 : 1 ≤ n) (h2 : n ≤ 64) : Valid (idm n) := by
  have e : ∀ j, j < n → (mrow (idm n) j).length = n := fun j hj => by unfold idm; rw [mrow_mkm _ hj, mkr_length]
  have l : (idm n).length = n := mkm_length _ _ _
  exact ⟨by omega, by omega, by rw [e 0 (by omega)]; omega, by rw [e 0 (by omega)]; omega, fun j hj => by rw [e j (by omega), e 0 (by omega)]⟩
set_option maxRecDepth 100000 in
set_option maxHeartbeats 1000000 in
theorem law5 (ha : Rag p w A n c R L C a) (z : Int) : Calls Try.prog 5 #[.slice A n c, .int .i64 z] w fun e w' => e = .returned (.bool true) ∧ Below w.heap.size w w' := by
  have hn := ha.row.len
  by_cases h100 : 100 < n
  · go_enter Try.func5, Try.ntmps5
    go_wp2_with (go_at_call 27; refine (awake_any _).mono ?_; rintro e w1 ⟨rfl, hb1⟩)
    go_ret
    exact ⟨rfl, hb1⟩
  · by_cases hz : z < 1 ∨ 64 < z
    · go_enter Try.func5, Try.ntmps5
      go_wp2_with (first | (go_at_call 27; refine (awake_any _).mono ?_; rintro e w1 ⟨rfl, hb1⟩; have ha1 := ha.belowR hb1) | (go_at_call 38; refine (identity_bad z hz _).mono ?_; rintro e w2 ⟨rfl, rfl⟩) | (go_at_call 39; (with_reducible refine (valid_any ha1).mono ?_); rintro e w4 ⟨rfl, rfl⟩) | (go_at_call 30; refine (refvalid_any ha1).mono ?_; rintro e w4 ⟨rfl, nd, rfl⟩; have hb2 := below_drewN hb1 nd))
      all_goals (go_ret; exact ⟨by simp, hb2⟩)
    · obtain ⟨t, rfl⟩ := Int.eq_ofNat_of_zero_le (a := z) (by omega)
      have h1 : 1 ≤ t := by omega
      have h2 : t ≤ 64 := by omega
      have hv : valid (idm t) = true := decide_eq_true (valid_idm h1 h2)
      replace hz := Lib.hid hz
      go_enter Try.func5, Try.ntmps5
      go_wp2_with (first | (go_at_call 27; refine (awake_any _).mono ?_; rintro e w1 ⟨rfl, hb1⟩; have ha1 := ha.belowR hb1) | (go_at_call 38; refine (identity_any t h1 h2 _).mono ?_; rintro e w2 ⟨g, R2, C2, rfl, hm2, hb2⟩; have ha2 := ha1.belowR hb2; have hB2 := below_then2 hb1 hb2) | (go_at_call 34; refine (refid_any t (by omega) _).mono ?_; rintro e w3 ⟨A3, c3, R3, C3, rfl, hm3, hb3⟩; have ha3 := ha2.belowR hb3; have hB3 := below_then2 hB2 hb3; have hm3' := hm2.rag.belowR hb3) | (go_at_call 32; refine (same_any hm3' hm3.rag).mono ?_; rintro e w4 ⟨rfl, nd, rfl⟩; have hB4 := below_drewN hB3 nd; have hm4 := hm3'.keep ((Keeps.refl _ _).drewN nd); have ha4 := ha3.keep ((Keeps.refl _ _).drewN nd)) | (go_at_call 39; first | (with_reducible refine (valid_any ha4).mono ?_; rintro e w5 ⟨rfl, rfl⟩) | (with_reducible refine (valid_any hm4).mono ?_; rw [hv]; rintro e w5 ⟨rfl, rfl⟩)) | (go_at_call 30; refine (refvalid_any ha4).mono ?_; rintro e w6 ⟨rfl, nd2, rfl⟩; have hB6 := below_drewN hB3 (nd + nd2)))
      all_goals (go_ret; exact ⟨by simp, hB6⟩)
end
end Go.Proofs.Ytifhjigkljdkmaa
