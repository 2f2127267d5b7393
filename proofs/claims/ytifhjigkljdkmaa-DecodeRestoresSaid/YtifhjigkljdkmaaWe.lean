/- decode.Weights. -/
import Derived.Test.YtifhjigkljdkmaaGt
import Derived.Test.YtifhjigkljdkmaaM9
import Derived.Test.YtifhjigkljdkmaaGa
namespace Go.Proofs.Ytifhjigkljdkmaa
open Go.RowKit
open Gf (F)
set_option linter.unusedSimpArgs false
set_option linter.unusedVariables false
theorem possible_any (z : Int) (w : World) : Calls Try.prog 112 #[.int .i64 z] w fun e w' => e = .returned (.bool (wideB z)) ∧ w = w' := by
  by_cases h1 : 3 < z
  · by_cases h2 : z ≤ 16
    · have hw := Lib.hid (show wideB z = true by unfold wideB; simp; omega)
      go_enter Try.func112, Try.ntmps112
      go_wp2
      go_ret
      exact ⟨ret_bool hw.out.symm, rfl⟩
    · have hw := Lib.hid (show wideB z = false by unfold wideB; simp; omega)
      go_enter Try.func112, Try.ntmps112
      go_wp2
      go_ret
      exact ⟨ret_bool (by rw [hw.out]), rfl⟩
  · have hw := Lib.hid (show wideB z = false by unfold wideB; simp; omega)
    go_enter Try.func112, Try.ntmps112
    go_wp2
    go_ret
    exact ⟨ret_bool (by rw [hw.out]), rfl⟩
/-- The helpers' numbers are pieces, in increasing order. -/
def HelpOk (wd m : Nat) (l : List Int) : Prop := ∀ j, j < m → 0 ≤ nti l j ∧ nti l j < (wd : Int) ∧ (0 < j → nti l (j - 1) < nti l j)
def fromF (l : List Int) (r : Nat) : Nat := (nti l r).toNat
theorem from_ok {n : Nat} {l : List Int} (h : HelpOk (n + 3) n l) : FromOk n (fromF l) := by
  refine ⟨fun r hr => ?_, fun r s hrs hs => ?_⟩
  · have := h r hr
    unfold fromF
    omega
  · unfold fromF
    have key : ∀ k, r + k + 1 < n → nti l r < nti l (r + k + 1) := by
      intro k
      induction k with
      | zero =>
        intro h1
        have := (h (r + 1) h1).2.2 (by omega)
        simpa using this
      | succ k ih =>
        intro h1
        have h2 := ih (by omega)
        have h3 := (h (r + (k + 1) + 1) h1).2.2 (by omega)
        have e : r + (k + 1) + 1 - 1 = r + k + 1 := by omega
        rw [e] at h3
        omega
    have h1 := key (s - r - 1) (by omega)
    rw [show r + (s - r - 1) + 1 = s by omega] at h1
    have h0 := (h r (by omega)).1
    omega
section
variable {p q : Nat → Prop} {w w' : World} {A B : Option Addr} {n c m d wd : Nat} {l : List Int}
set_option maxRecDepth 100000 in
set_option maxHeartbeats 2000000 in
theorem weights_arg {z to : Int} (h : Ints p w A m c l) (hbad : ¬ (wideB z = true ∧ (m : Int) = z - 3 ∧ 0 ≤ to ∧ to < z ∧ HelpOk z.toNat m l)) : Calls Try.prog 66 #[.int .i64 z, .slice A m c, .int .i64 to] w fun e w' => e = .returned (.tuple #[.slice none 0 0, .int .i64 1]) ∧ Below w.heap.size w w' := by
  have hm := h.row.len
  cases hw : wideB z with
  | false =>
    clear hbad
    go_enter Try.func66, Try.ntmps66
    go_wp2_with (go_at_call 112; (with_reducible refine (possible_any z _).mono ?_); rw [hw]; rintro e w' ⟨rfl, rfl⟩)
    go_ret2
    exact ⟨rfl, Below.refl _ _⟩
  | true =>
    have hz : 4 ≤ z ∧ z ≤ 16 := by unfold wideB at hw; simpa using hw
    obtain ⟨hz4, hz16⟩ := hz
    by_cases hmz : (m : Int) = z - 3
    · have t1 : ((m : Int) != z - 3) = false := by simp; exact hmz
      by_cases h0 : to < 0
      · replace hmz := Lib.hid hmz
        clear hbad
        go_enter Try.func66, Try.ntmps66
        go_wp2_with (go_at_call 112; (with_reducible refine (possible_any z _).mono ?_); rw [hw]; rintro e w' ⟨rfl, rfl⟩)
        go_ret2
        exact ⟨rfl, Below.refl _ _⟩
      · by_cases h1 : z ≤ to
        · replace hmz := Lib.hid hmz
          clear hbad
          go_enter Try.func66, Try.ntmps66
          go_wp2_with (go_at_call 112; (with_reducible refine (possible_any z _).mono ?_); rw [hw]; rintro e w' ⟨rfl, rfl⟩)
          go_ret2
          exact ⟨rfl, Below.refl _ _⟩
        · have hnot : Hid (¬ HelpOk z.toNat m l) := fun hk => hbad ⟨hw, hmz, by omega, by omega, hk⟩
          have ht0 : ¬ z ≤ to := h1
          replace hmz := Lib.hid hmz
          clear hbad
          go_enter Try.func66, Try.ntmps66
          go_wp2_with (go_at_call 112; (with_reducible refine (possible_any z _).mono ?_); rw [hw]; rintro e w' ⟨rfl, rfl⟩)
          go_loop [39] (fun i => ∃ k : Nat, k ≤ m ∧ i = .int .i64 k ∧ HelpOk z.toNat k l) (fun i => m - (intOf i).toNat)
          case atStart => exact ⟨0, by omega, rfl, fun j hj => absurd hj (Nat.not_lt_zero _)⟩
          case round =>
            obtain ⟨k, hk, rfl, hall⟩ := hrel
            replace hall := Lib.hid hall
            by_cases hlt : k < m
            · obtain ⟨b1, o, rfl, _, _, hc⟩ := h.row.at_ (by omega)
              have e1 := hc k hlt
              obtain ⟨y, hy⟩ : ∃ y, y = nti l k := ⟨_, rfl⟩
              rw [← hy] at e1
              have d1 : (0 : Int) ≤ (k : Int) := Int.natCast_nonneg _
              have d2 : (k : Int) < (m : Int) := by omega
              by_cases y0 : y < 0
              · clear hc
                replace hy := Lib.hid hy
                go_wp2
                go_ret2
                exact ⟨rfl, Below.refl _ _⟩
              · by_cases y1 : z ≤ y
                · clear hc
                  replace hy := Lib.hid hy
                  go_wp2
                  go_ret2
                  exact ⟨rfl, Below.refl _ _⟩
                · by_cases k0 : k = 0
                  · subst k0
                    clear hc d1 d2
                    rw [Nat.add_zero] at e1
                    have d2 : (0 : Int) < (m : Int) := by omega
                    replace hy := Lib.hid hy
                    go_wp2
                    go_round
                    case rel => exact ⟨1, by omega, by go_num, fun j hj => by
                      obtain rfl : j = 0 := by omega
                      have := hy.out
                      exact ⟨by omega, by omega, fun h => absurd h (Nat.lt_irrefl _)⟩⟩
                    case measure => simp [intOf]; omega
                  · have e2 := hc (k - 1) (by omega)
                    have ek : o + (k - 1) = o + ((k : Int) - 1).toNat := by omega
                    obtain ⟨k', rfl⟩ : ∃ k', k = k' + 1 := ⟨k - 1, by omega⟩
                    rw [Nat.add_sub_cancel] at e2
                    clear hc ek
                    obtain ⟨x, hx⟩ : ∃ x, x = nti l k' := ⟨_, rfl⟩
                    rw [← hx] at e2
                    have d3 : (0 : Int) < ((k' + 1 : Nat) : Int) := by omega
                    have d4 : ((k' + 1 : Nat) : Int) - 1 = (k' : Int) := by omega
                    have d5 : (0 : Int) ≤ (k' : Int) := by omega
                    have d6 : (k' : Int) < (m : Int) := by omega
                    replace hx := Lib.hid hx
                    replace hy := Lib.hid hy
                    by_cases hxy : y ≤ x
                    · go_wp2
                      go_ret2
                      exact ⟨rfl, Below.refl _ _⟩
                    · go_wp2
                      go_round
                      case rel => exact ⟨k' + 1 + 1, by omega, by go_num, fun j hj => by
                        rcases Nat.lt_succ_iff_lt_or_eq.1 hj with hj | rfl
                        · exact hall.out j hj
                        · have h1 := hy.out
                          have h2 := hx.out
                          refine ⟨by omega, by omega, fun _ => ?_⟩
                          rw [Nat.add_sub_cancel]
                          omega⟩
                      case measure => simp [intOf]; omega
            · obtain rfl : k = m := by omega
              exact absurd hall.out hnot.out
    · have t1 : ((m : Int) != z - 3) = true := by simp; exact hmz
      replace hmz := Lib.hid hmz
      clear hbad
      go_enter Try.func66, Try.ntmps66
      go_wp2_with (go_at_call 112; (with_reducible refine (possible_any z _).mono ?_); rw [hw]; rintro e w' ⟨rfl, rfl⟩)
      go_ret2
      exact ⟨rfl, Below.refl _ _⟩
end
end Go.Proofs.Ytifhjigkljdkmaa
