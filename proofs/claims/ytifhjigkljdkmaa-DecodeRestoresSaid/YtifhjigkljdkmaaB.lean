/- Contracts of the functions on single bytes (gf256.Mul, power, Inv, Exp, reduce; tegularef01.Mul, Inv, Power). -/
import Derived.Test.YtifhjigkljdkmaaChecked
import Derived.Test.YtifhjigkljdkmaaGf
import Derived.WalkKit
import Derived.KernelRfl
import Derived.Lib.Hide
namespace Go.Proofs.Ytifhjigkljdkmaa
open Go.RowKit
open Gf (F)
set_option linter.unusedSimpArgs false
set_option linter.unusedVariables false

theorem u8_test (b : Nat) (hb : b < 256) : (bits .and .u8 (b : Int) 1 == 1) = b.testBit 0 := by
  have h := Gf.eq_of (a := 0) (b := 0) rfl
  have e : bits .and .u8 (b : Int) 1 = ((b % 2 : Nat) : Int) := by
    have := u8_and_nat b 1 hb (by omega)
    rw [Nat.and_one_is_mod] at this
    exact this
  rw [e, Nat.testBit_zero]
  by_cases h : b % 2 = 1
  · simp [h]
  · have : b % 2 = 0 := by omega
    simp [this]
theorem ofInt_i64' (a : Nat) (ha : a < 9223372036854775808) : (BitVec.ofInt 64 (a : Int)).toNat = a := by
  rw [BitVec.ofInt_natCast, BitVec.toNat_ofNat]; exact Nat.mod_eq_of_lt (by omega)
theorem i64_and_nat (a b : Nat) (ha : a < 9223372036854775808) (hb : b < 9223372036854775808) : bits .and .i64 (a : Int) (b : Int) = ((a &&& b : Nat) : Int) := by
  have hx : a &&& b < 2 ^ 63 := Nat.and_lt_two_pow _ (by omega)
  show IntKind.i64.wrap ((BitVec.ofInt 64 (a : Int) &&& BitVec.ofInt 64 (b : Int)).toNat : Int) = _
  rw [BitVec.toNat_and, ofInt_i64' a ha, ofInt_i64' b hb, IntKind.wrap_i64]
  omega
theorem i64_xor_nat (a b : Nat) (ha : a < 9223372036854775808) (hb : b < 9223372036854775808) : bits .xor .i64 (a : Int) (b : Int) = ((a ^^^ b : Nat) : Int) := by
  have hx : a ^^^ b < 2 ^ 63 := Nat.xor_lt_two_pow (by omega) (by omega)
  show IntKind.i64.wrap ((BitVec.ofInt 64 (a : Int) ^^^ BitVec.ofInt 64 (b : Int)).toNat : Int) = _
  rw [BitVec.toNat_xor, ofInt_i64' a ha, ofInt_i64' b hb, IntKind.wrap_i64]
  omega
theorem i64_test (b : Nat) (hb : b < 9223372036854775808) : (bits .and .i64 (b : Int) 1 == 1) = b.testBit 0 := by
  have e : bits .and .i64 (b : Int) 1 = ((b % 2 : Nat) : Int) := by
    have := i64_and_nat b 1 hb (by omega)
    rw [Nat.and_one_is_mod] at this
    exact this
  rw [e, Nat.testBit_zero]
  by_cases h : b % 2 = 1
  · simp [h]
  · have : b % 2 = 0 := by omega
    simp [this]
theorem i64_xor_small (a b : Nat) (ha : a < 65536) (hb : b < 65536) : bits .xor .i64 (a : Int) (b : Int) = ((a ^^^ b : Nat) : Int) := i64_xor_nat a b (by omega) (by omega)
theorem ret_u8 {a b : Int} (h : a = b) : Ending.returned (.int .u8 a) = .returned (.int .u8 b) := by rw [h]
theorem ret_i64 {a b : Int} (h : a = b) : Ending.returned (.int .i64 a) = .returned (.int .i64 b) := by rw [h]
theorem dbl_big {x : Nat} (h : x < 256) (h2 : 255 < x * 2) : Gf.dbl x = (x * 2) ^^^ 285 := by
  unfold Gf.dbl
  rw [if_pos, Nat.mul_comm]
  rw [Nat.testBit_eq_decide_div_mod_eq]
  simp; omega
theorem dbl_small {x : Nat} (h2 : ¬ 255 < x * 2) : Gf.dbl x = x * 2 := by
  unfold Gf.dbl
  rw [if_neg, Nat.mul_comm]
  rw [Nat.testBit_eq_decide_div_mod_eq]
  simp; omega
theorem mulL_zero : ∀ (k x o : Nat), Gf.mulL k x 0 o = o
  | 0, _, _ => rfl
  | k + 1, x, o => by unfold Gf.mulL; rw [Nat.zero_div, mulL_zero k]; simp
/-- One round of the product's loop. -/
theorem mul_round {k b x o r : Nat} (hk : b < 2 ^ k) (hb : 0 < b) (h : Gf.mulL k x b o = r) :
    ∃ j, b / 2 < 2 ^ j ∧ Gf.mulL j (Gf.dbl x) (b / 2) (if b.testBit 0 then o ^^^ x else o) = r := by
  cases k with
  | zero => simp at hk; omega
  | succ k => exact ⟨k, by rw [Nat.pow_succ] at hk; omega, h⟩
theorem xor_lt {o x : Nat} (ho : o < 256) (hx : x < 256) : o ^^^ x < 256 := Nat.xor_lt_two_pow (n := 8) ho hx
set_option maxHeartbeats 400000 in
theorem mul_any (a b : F) (w : World) : Calls Try.prog 99 #[.int .u8 (a.toNat : Int), .int .u8 (b.toNat : Int)] w fun e w' => e = .returned (.int .u8 ((Gf.mul a b).toNat : Int)) ∧ w = w' := by
  have ha := Gf.lt a
  have hb := Gf.lt b
  have H0 : Hid (Gf.mulL 8 a.toNat b.toNat 0 = (Gf.mul a b).toNat) := (Gf.toNat_mul a b).symm
  go_enter Try.func99, Try.ntmps99
  go_wp2
  go_loop [1, 5, 6] (fun c x o => ∃ k b' x' o' : Nat, c = .int .u8 b' ∧ x = .int .i64 x' ∧ o = .int .i64 o' ∧ b' < 256 ∧ x' < 256 ∧ o' < 256 ∧ Hid (b' < 2 ^ k) ∧ Hid (Gf.mulL k x' b' o' = (Gf.mul a b).toNat)) (fun c _ _ => (intOf c).toNat)
  case atStart => exact ⟨8, b.toNat, a.toNat, 0, rfl, rfl, rfl, hb, ha, by omega, hb, H0⟩
  case round =>
    obtain ⟨k, b', x', o', rfl, rfl, rfl, h1, h2, h3, h4, h5⟩ := hrel
    by_cases hpos : 0 < b'
    · obtain ⟨j, h6, h7⟩ := mul_round h4 hpos h5
      have h4 := Lib.hid h6
      have h5 := Lib.hid h7
      clear h6 h7
      cases hbit : b'.testBit 0 with
      | true =>
        have ht : (bits .and .u8 (b' : Int) 1 == 1) = true := (u8_test b' h1).trans hbit
        by_cases hbig : 255 < x' * 2
        · have e1 := Lib.hid (dbl_big h2 hbig)
          have e2 := Lib.hid hbit
          clear hbit
          go_wp2
          go_round
          case rel => exact ⟨j, b' / 2, (x' * 2) ^^^ 285, o' ^^^ x', by go_num, by rw [← i64_xor_small _ _ (by omega) (by omega)]; simp, by rw [← i64_xor_small _ _ (by omega) (by omega)], by omega, by rw [← e1.out]; exact Gf.dbl_lt h2, xor_lt h3 h2, h4, by have := h5.out; rw [e1.out, e2.out] at this; exact this⟩
          case measure => simp [intOf]; omega
        · have e1 := Lib.hid (dbl_small hbig)
          have e2 := Lib.hid hbit
          clear hbit
          go_wp2
          go_round
          case rel => exact ⟨j, b' / 2, x' * 2, o' ^^^ x', by go_num, by go_num, by rw [← i64_xor_small _ _ (by omega) (by omega)], by omega, by omega, xor_lt h3 h2, h4, by have := h5.out; rw [e1.out, e2.out] at this; exact this⟩
          case measure => simp [intOf]; omega
      | false =>
        have ht : (bits .and .u8 (b' : Int) 1 == 1) = false := (u8_test b' h1).trans hbit
        by_cases hbig : 255 < x' * 2
        · have e1 := Lib.hid (dbl_big h2 hbig)
          have e2 := Lib.hid hbit
          clear hbit
          go_wp2
          go_round
          case rel => exact ⟨j, b' / 2, (x' * 2) ^^^ 285, o', by go_num, by rw [← i64_xor_small _ _ (by omega) (by omega)]; simp, rfl, by omega, by rw [← e1.out]; exact Gf.dbl_lt h2, h3, h4, by have := h5.out; rw [e1.out, e2.out] at this; exact this⟩
          case measure => simp [intOf]; omega
        · have e1 := Lib.hid (dbl_small hbig)
          have e2 := Lib.hid hbit
          clear hbit
          go_wp2
          go_round
          case rel => exact ⟨j, b' / 2, x' * 2, o', by go_num, by go_num, rfl, by omega, by omega, h3, h4, by have := h5.out; rw [e1.out, e2.out] at this; exact this⟩
          case measure => simp [intOf]; omega
    · obtain rfl : b' = 0 := by omega
      have h5' : Hid (o' = (Gf.mul a b).toNat) := by have := h5.out; rwa [mulL_zero] at this
      clear h4 h5
      go_wp2
      go_ret
      exact ⟨ret_u8 (by rw [h5'.out]), rfl⟩

/-! ### tegularef01.Mul -/
theorem shr_cast (b k : Nat) : (b : Int) / 2 ^ k = ((b / 2 ^ k : Nat) : Int) := by
  rw [Int.natCast_ediv, Int.natCast_pow]; rfl
theorem testBit_shr (b k : Nat) : (b / 2 ^ k).testBit 0 = b.testBit k := by
  rw [Nat.testBit_zero, Nat.testBit_eq_decide_div_mod_eq]
theorem u8_test_shr (b k : Nat) (hb : b < 256) : (bits .and .u8 ((b : Int) / 2 ^ k) 1 == 1) = b.testBit k := by
  rw [shr_cast, u8_test _ (Nat.lt_of_le_of_lt (Nat.div_le_self _ _) hb), testBit_shr]
theorem i64_test_shr (b k : Nat) (hb : b < 65536) : (bits .and .i64 ((b : Int) / 2 ^ k) 1 == 1) = b.testBit k := by
  have := Nat.div_le_self b (2 ^ k)
  rw [shr_cast, i64_test _ (by omega), testBit_shr]
theorem shl_lt {a k : Nat} (ha : a < 512) (hk : k < 8) : a * 2 ^ k < 65536 := by
  have h1 : 2 ^ k ≤ 2 ^ 7 := Nat.pow_le_pow_right (by omega) (by omega)
  calc a * 2 ^ k ≤ a * 2 ^ 7 := Nat.mul_le_mul_left _ h1
    _ < 65536 := by omega
theorem wrap_shl {a k : Nat} (ha : a < 512) (hk : k < 8) : wrap64 ((a : Int) * 2 ^ k) = ((a <<< k : Nat) : Int) := by
  have h := shl_lt ha hk
  rw [Nat.shiftLeft_eq]
  have e : (a : Int) * 2 ^ k = ((a * 2 ^ k : Nat) : Int) := by rw [Int.natCast_mul, Int.natCast_pow]; rfl
  rw [e]
  exact IntWalk.wrap64_in _ ⟨by omega, by omega⟩
theorem xor_lt16 {o x : Nat} (ho : o < 65536) (hx : x < 65536) : o ^^^ x < 65536 := Nat.xor_lt_two_pow (n := 16) ho hx
theorem refR_lt : ∀ (n p : Nat), n ≤ 7 → p < 2 ^ (n + 8) → Gf.refR n p < 256
  | 0, _, _, h => h
  | n + 1, p, hn, h => by
    unfold Gf.refR
    have h285 : 285 <<< n < 2 ^ (n + 9) := by
      rw [Nat.shiftLeft_eq, Nat.add_comm n 9, Nat.pow_add]
      exact Nat.mul_lt_mul_of_pos_right (by omega) (Nat.pow_pos (by omega))
    refine refR_lt n _ (by omega) ?_
    cases hb : p.testBit (n + 8) with
    | false =>
      rw [if_neg (by simp)]
      apply Nat.lt_pow_two_of_testBit
      intro i hi
      rcases Nat.eq_or_lt_of_le hi with rfl | hi
      · exact hb
      · exact Nat.testBit_lt_two_pow (Nat.lt_of_lt_of_le h (Nat.pow_le_pow_right (by omega) (by omega)))
    | true =>
      rw [if_pos rfl]
      apply Nat.lt_pow_two_of_testBit
      intro i hi
      rw [Nat.testBit_xor]
      rcases Nat.eq_or_lt_of_le hi with rfl | hi
      · rw [hb, Nat.testBit_shiftLeft]
        have e : n + 8 - n = 8 := by omega
        rw [e]
        simp
        decide
      · rw [Nat.testBit_lt_two_pow (Nat.lt_of_lt_of_le h (Nat.pow_le_pow_right (by omega) (by omega))), Nat.testBit_lt_two_pow (Nat.lt_of_lt_of_le h285 (Nat.pow_le_pow_right (by omega) (by omega)))]
        rfl
theorem refA_lt : ∀ (n a b p : Nat), a < 256 → n ≤ 8 → p < 32768 → Gf.refA n a b p < 32768
  | 0, _, _, _, _, _, h => h
  | n + 1, a, b, p, ha, hn, h => by
    unfold Gf.refA
    refine refA_lt n _ _ _ ha (by omega) ?_
    split
    · refine Nat.xor_lt_two_pow (n := 15) h ?_
      rw [Nat.shiftLeft_eq]
      have h1 : 2 ^ (7 - n) ≤ 2 ^ 7 := Nat.pow_le_pow_right (by omega) (by omega)
      calc a * 2 ^ (7 - n) ≤ a * 2 ^ 7 := Nat.mul_le_mul_left _ h1
        _ < 2 ^ 15 := by omega
    · exact h
theorem refA_round {n k a b p r : Nat} (hn : n + k = 8) (hk : k < 8) (h : Gf.refA n a b p = r) : ∃ j, j + (k + 1) = 8 ∧ Gf.refA j a b (if b.testBit k then p ^^^ (a <<< k) else p) = r := by
  cases n with
  | zero => omega
  | succ n =>
    refine ⟨n, by omega, ?_⟩
    unfold Gf.refA at h
    rwa [show 7 - n = k by omega] at h
set_option maxHeartbeats 400000 in
theorem refmul_any (a b : F) (w : World) : Calls Try.prog 97 #[.int .u8 (a.toNat : Int), .int .u8 (b.toNat : Int)] w fun e w' => e = .returned (.int .u8 ((Gf.mul a b).toNat : Int)) ∧ w = w' := by
  have ha := Gf.lt a
  have hb := Gf.lt b
  have H1 : Hid (Gf.refR 7 (Gf.refA 8 a.toNat b.toNat 0) = (Gf.mul a b).toNat) := by
    show Gf.refN _ _ = _
    rw [Gf.toNat_mul, Gf.mulN_ref ha hb]
  go_enter Try.func97, Try.ntmps97
  go_wp2
  go_loop [5, 6] (fun p i => ∃ n k p' : Nat, k ≤ 8 ∧ p' < 65536 ∧ p = .int .i64 p' ∧ i = .int .i64 k ∧ Hid (n + k = 8) ∧ Hid (Gf.refA n a.toNat b.toNat p' = Gf.refA 8 a.toNat b.toNat 0)) (fun _ i => 8 - (intOf i).toNat)
  case atStart => exact ⟨8, 0, 0, by omega, by omega, rfl, rfl, rfl, rfl⟩
  case round =>
    obtain ⟨n, k, p', hk, hp, rfl, rfl, hn, hr⟩ := hrel
    by_cases hlt : k < 8
    · obtain ⟨j, h6, h7⟩ := refA_round hn.out hlt hr.out
      have h4 := Lib.hid h6
      have h5 := Lib.hid h7
      clear h6 h7 hn hr
      cases hbit : b.toNat.testBit k with
      | true =>
        have ht : (bits .and .u8 ((b.toNat : Int) / 2 ^ k) 1 == 1) = true := (u8_test_shr _ k hb).trans hbit
        have e2 := Lib.hid hbit
        clear hbit
        go_wp2
        go_round
        case rel => exact ⟨j, k + 1, p' ^^^ (a.toNat <<< k), by omega, xor_lt16 hp (by rw [Nat.shiftLeft_eq]; exact shl_lt (by omega) hlt), by rw [wrap_shl (by omega) hlt, i64_xor_small _ _ hp (by rw [Nat.shiftLeft_eq]; exact shl_lt (by omega) hlt)], by go_num, h4, by have := h5.out; rw [e2.out] at this; exact this⟩
        case measure => simp [intOf]; omega
      | false =>
        have ht : (bits .and .u8 ((b.toNat : Int) / 2 ^ k) 1 == 1) = false := (u8_test_shr _ k hb).trans hbit
        have e2 := Lib.hid hbit
        clear hbit
        go_wp2
        go_round
        case rel => exact ⟨j, k + 1, p', by omega, hp, rfl, by go_num, h4, by have := h5.out; rw [e2.out] at this; exact this⟩
        case measure => simp [intOf]; omega
    · obtain rfl : k = 8 := by omega
      obtain rfl : n = 0 := by have := hn.out; omega
      have hr2 : Hid (Gf.refR 7 p' = (Gf.mul a b).toNat) := by
        have h2 := hr.out
        unfold Gf.refA at h2
        rw [show p' = Gf.refA 8 a.toNat b.toNat 0 from h2]
        exact H1.out
      clear hn hr
      go_wp2
      go_loop [5, 7] (fun p i => ∃ k p' : Nat, k ≤ 7 ∧ p' < 65536 ∧ p = .int .i64 p' ∧ i = .int .i64 (k + 7 : Int) ∧ Hid (Gf.refR k p' = (Gf.mul a b).toNat)) (fun _ i => (intOf i).toNat)
      case atStart => exact ⟨7, p', by omega, hp, rfl, rfl, hr2⟩
      case round =>
        obtain ⟨k, q, hk, hq, rfl, rfl, hs⟩ := hrel
        cases k with
        | zero =>
          have hs' : Hid (q = (Gf.mul a b).toNat) := hs.out
          have hq2 : q < 256 := by rw [hs'.out]; exact Gf.lt _
          clear hs
          go_wp2
          go_ret
          exact ⟨ret_u8 (by rw [hs'.out]), rfl⟩
        | succ k =>
          cases hbit : q.testBit (k + 8) with
          | true =>
            have ht : (bits .and .i64 ((q : Int) / 2 ^ (k + 1 + 7)) 1 == 1) = true := (i64_test_shr _ _ hq).trans hbit
            have hs' : Hid (Gf.refR k (q ^^^ (285 <<< k)) = (Gf.mul a b).toNat) := by
              have h2 := hs.out
              unfold Gf.refR at h2
              rw [hbit] at h2
              exact h2
            clear hbit hs
            go_wp2
            go_round
            case rel => exact ⟨k, q ^^^ (285 <<< k), by omega, xor_lt16 hq (by rw [Nat.shiftLeft_eq]; exact shl_lt (by omega) (by omega)), by rw [show (285 : Int) = ((285 : Nat) : Int) from rfl, wrap_shl (by omega) (by omega), i64_xor_small _ _ hq (by rw [Nat.shiftLeft_eq]; exact shl_lt (by omega) (by omega))], by go_num, hs'⟩
            case measure => simp [intOf]; omega
          | false =>
            have ht : (bits .and .i64 ((q : Int) / 2 ^ (k + 1 + 7)) 1 == 1) = false := (i64_test_shr _ _ hq).trans hbit
            have hs' : Hid (Gf.refR k q = (Gf.mul a b).toNat) := by
              have h2 := hs.out
              unfold Gf.refR at h2
              rw [hbit] at h2
              exact h2
            clear hbit hs
            go_wp2
            go_round
            case rel => exact ⟨k, q, by omega, hq, rfl, by go_num, hs'⟩
            case measure => simp [intOf]; omega

/-! ### tegularef01.Inv, Power; gf256.power, Inv, reduce, Exp -/
theorem ret_pair {k : IntKind} {a b : Int} {x y : Value} (h : a = b) (h2 : x = y) : Ending.returned (.tuple #[.int k a, x]) = .returned (.tuple #[.int k b, y]) := by rw [h, h2]
theorem byte_of {k : Nat} (h : k < 256) : ∃ u : F, u.toNat = k := ⟨UInt8.ofNat k, by rw [UInt8.toNat_ofNat', Nat.mod_eq_of_lt h]⟩
theorem toNat_eq_one (u : F) : ((u.toNat : Int) == 1) = (u == 1) := by
  rw [Bool.eq_iff_iff]
  simp only [beq_iff_eq]
  constructor
  · intro h; exact Gf.eq_of (by have : u.toNat = 1 := by omega
                                rw [this]; rfl)
  · intro h; subst h; rfl
theorem toNat_eq_zero (u : F) : ((u.toNat : Int) == 0) = (u == 0) := by
  rw [Bool.eq_iff_iff]
  simp only [beq_iff_eq]
  constructor
  · intro h; exact Gf.eq_of (by have : u.toNat = 0 := by omega
                                rw [this]; rfl)
  · intro h; subst h; rfl
set_option maxRecDepth 8000 in
theorem refinv_any (a : F) (h0 : a ≠ 0) (w : World) : Calls Try.prog 95 #[.int .u8 (a.toNat : Int)] w fun e w' => e = .returned (.tuple #[.int .u8 ((Gf.inv a).toNat : Int), .bool true]) ∧ w = w' := by
  have ha := Gf.lt a
  have hi := Gf.lt (Gf.inv a)
  have hi0 : 1 ≤ (Gf.inv a).toNat := by
    have := Gf.inv_ne_zero h0
    rcases Nat.eq_zero_or_pos (Gf.inv a).toNat with h | h
    · exact absurd (Gf.eq_of (b := 0) h) this
    · exact h
  replace h0 := Lib.hid h0
  go_enter Try.func95, Try.ntmps95
  go_wp2
  go_loop [4] (fun i => ∃ k : Nat, 1 ≤ k ∧ k ≤ (Gf.inv a).toNat ∧ i = .int .i64 k) (fun i => (256 - intOf i).toNat)
  case atStart => exact ⟨1, by omega, hi0, rfl⟩
  case round =>
    obtain ⟨k, hk1, hk2, rfl⟩ := hrel
    obtain ⟨u, rfl⟩ := byte_of (k := k) (by omega)
    by_cases heq : u = Gf.inv a
    · have ht : (((Gf.mul a u).toNat : Int) == 1) = true := by
        rw [toNat_eq_one, heq, Gf.mul_inv h0.out]; rfl
      replace heq := Lib.hid heq
      go_wp2_with (go_at_call 97; refine (refmul_any _ _ _).mono ?_; rintro e w' ⟨rfl, rfl⟩)
      go_ret2
      exact ⟨ret_pair (by rw [heq.out]) rfl, rfl⟩
    · have ht : (((Gf.mul a u).toNat : Int) == 1) = false := by
        rw [toNat_eq_one, beq_eq_false_iff_ne]
        exact fun e => heq (Gf.inv_unique e)
      have hlt : u.toNat < (Gf.inv a).toNat := by
        have : u.toNat ≠ (Gf.inv a).toNat := fun e => heq (Gf.eq_of e)
        omega
      replace heq := Lib.hid heq
      go_wp2_with (go_at_call 97; refine (refmul_any _ _ _).mono ?_; rintro e w' ⟨rfl, rfl⟩)
      go_round
      case rel => exact ⟨u.toNat + 1, by omega, by omega, by go_num⟩
      case measure => simp [intOf]; omega
theorem refpow_any (a : F) (n : Nat) (hn : n ≤ 65536) (w : World) : Calls Try.prog 138 #[.int .u8 (a.toNat : Int), .int .i64 (n : Int)] w fun e w' => e = .returned (.int .u8 ((Gf.pow a n).toNat : Int)) ∧ w = w' := by
  go_enter Try.func138, Try.ntmps138
  go_wp2
  go_loop [5, 6] (fun o i => ∃ k : Nat, k ≤ n ∧ o = .int .u8 ((Gf.pow a k).toNat : Int) ∧ i = .int .i64 k) (fun _ i => n - (intOf i).toNat)
  case atStart => exact ⟨0, by omega, by rw [Gf.pow_zero]; rfl, rfl⟩
  case round =>
    obtain ⟨k, hk, rfl, rfl⟩ := hrel
    by_cases hlt : k < n
    · go_wp2_with (go_at_call 97; refine (refmul_any _ _ _).mono ?_; rintro e w' ⟨rfl, rfl⟩)
      go_round
      case rel => exact ⟨k + 1, by omega, by rw [Gf.pow_succ], by go_num⟩
      case measure => simp [intOf]; omega
    · obtain rfl : k = n := by omega
      go_wp2
      go_ret
      exact ⟨rfl, rfl⟩
set_option maxHeartbeats 400000 in
theorem power_any (a : F) (n : Nat) (hn : n < 256) (w : World) : Calls Try.prog 131 #[.int .u8 (a.toNat : Int), .int .i64 (n : Int)] w fun e w' => e = .returned (.int .u8 ((Gf.pow a n).toNat : Int)) ∧ w = w' := by
  have H0 : Hid (Gf.mul 1 (Gf.pow a n) = Gf.pow a n) := Gf.one_mul _
  go_enter Try.func131, Try.ntmps131
  go_wp2
  go_loop [0, 1, 5] (fun x c o => ∃ (k : Nat) (x' o' : F), k < 256 ∧ x = .int .u8 (x'.toNat : Int) ∧ c = .int .i64 k ∧ o = .int .u8 (o'.toNat : Int) ∧ Hid (Gf.mul o' (Gf.pow x' k) = Gf.pow a n)) (fun _ c _ => (intOf c).toNat)
  case atStart => exact ⟨n, a, 1, hn, rfl, rfl, rfl, H0⟩
  case round =>
    obtain ⟨k, x', o', hk, rfl, rfl, rfl, h⟩ := hrel
    by_cases hpos : 0 < k
    · cases hbit : k.testBit 0 with
      | true =>
        have ht : (bits .and .i64 (k : Int) 1 == 1) = true := (i64_test k (by omega)).trans hbit
        have h' : Hid (Gf.mul (Gf.mul o' x') (Gf.pow (Gf.mul x' x') (k / 2)) = Gf.pow a n) := by
          show _ = _
          rw [← h.out, ← Gf.pow_two_mul, Gf.mul_assoc]
          congr 1
          have : k = 1 + 2 * (k / 2) := by rw [Nat.testBit_zero] at hbit; simp at hbit; omega
          conv => rhs; rw [this, Gf.pow_add, Gf.pow_one]
        clear hbit h
        go_wp2_with (go_at_call 99; refine (mul_any _ _ _).mono ?_; rintro e w' ⟨rfl, rfl⟩)
        go_round
        case rel => exact ⟨k / 2, Gf.mul x' x', Gf.mul o' x', by omega, rfl, by go_num, rfl, h'⟩
        case measure => simp [intOf]; omega
      | false =>
        have ht : (bits .and .i64 (k : Int) 1 == 1) = false := (i64_test k (by omega)).trans hbit
        have h' : Hid (Gf.mul o' (Gf.pow (Gf.mul x' x') (k / 2)) = Gf.pow a n) := by
          show _ = _
          rw [← h.out, ← Gf.pow_two_mul]
          congr 2
          rw [Nat.testBit_zero] at hbit; simp at hbit; omega
        clear hbit h
        go_wp2_with (go_at_call 99; refine (mul_any _ _ _).mono ?_; rintro e w' ⟨rfl, rfl⟩)
        go_round
        case rel => exact ⟨k / 2, Gf.mul x' x', o', by omega, rfl, by go_num, rfl, h'⟩
        case measure => simp [intOf]; omega
    · obtain rfl : k = 0 := by omega
      have h' : Hid (o' = Gf.pow a n) := by have := h.out; rwa [Gf.pow_zero, Gf.mul_one] at this
      clear h
      go_wp2
      go_ret
      exact ⟨ret_u8 (by rw [h'.out]), rfl⟩
theorem inv_any (a : F) (h0 : a ≠ 0) (w : World) : Calls Try.prog 90 #[.int .u8 (a.toNat : Int)] w fun e w' => e = .returned (.tuple #[.int .u8 ((Gf.inv a).toNat : Int), .int .i64 0]) ∧ w = w' := by
  have ht : ((a.toNat : Int) == 0) = false := by rw [toNat_eq_zero, beq_eq_false_iff_ne]; exact h0
  replace h0 := Lib.hid h0
  have hp := Lib.hid (Gf.inv_pow a)
  go_enter Try.func90, Try.ntmps90
  go_wp2_with (go_at_call 131; refine (power_any a 254 (by omega) _).mono ?_; rintro e w' ⟨rfl, rfl⟩)
  go_ret2
  exact ⟨ret_pair (by rw [hp.out]) rfl, rfl⟩
theorem reduce_any (n : Nat) (hn : n ≤ 65536) (w : World) : Calls Try.prog 141 #[.int .i64 (n : Int)] w fun e w' => e = .returned (.int .i64 ((n % 255 : Nat) : Int)) ∧ w = w' := by
  go_enter Try.func141, Try.ntmps141
  go_wp2
  go_ret
  exact ⟨ret_i64 (by omega), rfl⟩
theorem exp_any (n : Nat) (hn : n ≤ 65536) (w : World) : Calls Try.prog 120 #[.int .i64 (n : Int)] w fun e w' => e = .returned (.int .u8 ((Gf.pow 2 n).toNat : Int)) ∧ w = w' := by
  have hp := Lib.hid (Gf.pow_two_mod n)
  go_enter Try.func120, Try.ntmps120
  go_wp2_with (first | (go_at_call 141; refine (reduce_any n hn _).mono ?_; rintro e w' ⟨rfl, rfl⟩; generalize hm : n % 255 = m) | (go_at_call 131; refine (power_any 2 m (by omega) _).mono ?_; rintro e w' ⟨rfl, rfl⟩))
  go_ret
  exact ⟨ret_u8 (by rw [← hm, hp.out]), rfl⟩
end Go.Proofs.Ytifhjigkljdkmaa
