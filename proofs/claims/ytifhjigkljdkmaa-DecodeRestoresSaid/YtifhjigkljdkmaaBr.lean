/- Contracts of the reference of chapter 3: Parity, Group, Check, Encode. -/
import Derived.Test.YtifhjigkljdkmaaBc
namespace Go.Proofs.Ytifhjigkljdkmaa
open Go.RowKit
open Gf (F)
set_option linter.unusedSimpArgs false
set_option linter.unusedVariables false
/-- How many data pieces are in the sum at cell idx. -/
def cntR (n j i k idx : Nat) : Nat := if idx / 8 < j then n else if idx / 8 = j then (if idx % 8 < k then i + 1 else i) else 0
def pR (D : List (List F)) (j i k idx : Nat) : F := sumF (cntR D.length j i k idx) fun t => Gf.mul (Gf.pow 2 (idx / 8 * t)) (ent D t (idx % 8))
def pV (D : List (List F)) (j i k idx : Nat) : Value := .int .u8 ((pR D j i k idx).toNat : Int)
theorem pV_start (D : List (List F)) (idx : Nat) : pV D 0 0 0 idx = zeros idx := by
  unfold pV pR cntR
  rw [if_neg (Nat.not_lt_zero _)]
  by_cases h : idx / 8 = 0
  · rw [if_pos h, if_neg (Nat.not_lt_zero _)]; rfl
  · rw [if_neg h]; rfl
theorem pV_next (D : List (List F)) (j i idx : Nat) : pV D j i 8 idx = pV D j (i + 1) 0 idx := by
  unfold pV pR cntR
  rw [if_pos (show idx % 8 < 8 by omega), if_neg (Nat.not_lt_zero _)]
theorem pV_nextj (D : List (List F)) (j idx : Nat) : pV D j D.length 0 idx = pV D (j + 1) 0 0 idx := by
  unfold pV pR cntR
  rw [if_neg (Nat.not_lt_zero _), if_neg (Nat.not_lt_zero _)]
  by_cases h : idx / 8 < j
  · rw [if_pos h, if_pos (by omega)]
  · rw [if_neg h]
    by_cases h2 : idx / 8 = j
    · rw [if_pos h2, if_pos (by omega)]
    · rw [if_neg h2, if_neg (by omega)]
      split <;> rfl
theorem pV_step (D : List (List F)) {j i k : Nat} (hk : k < 8) (idx : Nat) : (if idx = j * 8 + k then Value.int .u8 ((pR D j i k (j * 8 + k) ^^^ Gf.mul (Gf.pow 2 (j * i)) (ent D i k)).toNat : Int) else pV D j i k idx) = pV D j i (k + 1) idx := by
  by_cases e : idx = j * 8 + k
  · rw [if_pos e, e]
    have e1 : (j * 8 + k) / 8 = j := by omega
    have e2 : (j * 8 + k) % 8 = k := by omega
    unfold pV pR cntR
    rw [e1, e2, if_neg (Nat.lt_irrefl j), if_pos rfl, if_neg (Nat.lt_irrefl k), if_neg (Nat.lt_irrefl j), if_pos rfl, if_pos (Nat.lt_succ_self k), sumF_succ]
  · rw [if_neg e]
    unfold pV pR cntR
    by_cases h : idx / 8 < j
    · rw [if_pos h, if_pos h]
    · rw [if_neg h, if_neg h]
      by_cases h2 : idx / 8 = j
      · rw [if_pos h2, if_pos h2]
        have h3 : idx % 8 ≠ k := by omega
        by_cases h4 : idx % 8 < k
        · rw [if_pos h4, if_pos (by omega)]
        · rw [if_neg h4, if_neg (by omega)]
      · rw [if_neg h2, if_neg h2]
section
variable {p q : Nat → Prop} {w w' : World} {A : Option Addr} {n c : Nat} {M D : List (List F)}
set_option maxRecDepth 100000 in
set_option maxHeartbeats 4000000 in
theorem parity03_any (h : Blks p w A n c D) (hn : n ≤ 64) : Calls Try.prog 118 #[.slice A n c] w fun e w' => ∃ g, e = .returned (.slice (some ⟨g, 0, none⟩) 3 3) ∧ Blks (fun b => w.heap.size ≤ b) w' (some ⟨g, 0, none⟩) 3 3 (parM D) ∧ Below w.heap.size w w' := by
  have hmk := mk53 w
  have hr0 : (w.alloc (.cells (Array.replicate 24 (.int .u8 0)) 64)).rowIs w.heap.size 64 24 (pV D 0 0 0) := (mk53_row w D).congr fun i _ => by
    rw [pV_start]
    unfold oF zeros
    rw [if_neg (Nat.not_lt_zero _)]
    split <;> rw [nth_zeroL] <;> rfl
  have hb0 : Below w.heap.size w (w.alloc (.cells (Array.replicate 24 (.int .u8 0)) 64)) := (Below.refl _ _).alloc (Nat.le_refl _) _
  have hl := Lib.hid h.1
  go_enter Try.func118, Try.ntmps118
  go_wp2
  go_loopw [4] (fun x wr => ∃ j : Nat, j ≤ 3 ∧ x = .int .i64 j ∧ wr.rowIs w.heap.size 64 24 (pV D j 0 0) ∧ Below w.heap.size w wr) (fun x _ => 3 - (intOf x).toNat)
  case atStart => exact ⟨0, by omega, rfl, hr0, hb0⟩
  case round =>
    obtain ⟨j, hj, rfl, ho, hbw⟩ := hrel
    by_cases hlt : j < 3
    · have c4 : (j : Int) < 3 := by omega
      go_wp2
      obtain ⟨wo, rfl⟩ : ∃ wo : World, wo = wr := ⟨_, rfl⟩
      go_loopw [5] (fun x wr => ∃ i : Nat, i ≤ n ∧ x = .int .i64 i ∧ wr.rowIs w.heap.size 64 24 (pV D j i 0) ∧ Below w.heap.size w wr) (fun x _ => n - (intOf x).toNat)
      case atStart => exact ⟨0, by omega, rfl, ho, hbw⟩
      case round =>
        obtain ⟨i, hi, rfl, ho, hbw⟩ := hrel
        by_cases hlt2 : i < n
        · obtain ⟨b, o, rfl, _, hlt3, hc⟩ := h.at_ (by omega)
          have hji : j * i ≤ 2 * 64 := Nat.mul_le_mul (by omega) (by omega)
          have hpow : Calls Try.prog 138 #[.int .u8 2, .int .i64 ((j : Int) * (i : Int))] wr fun e w' => e = .returned (.int .u8 ((Gf.pow 2 (j * i)).toNat : Int)) ∧ wr = w' := by rw [← Int.natCast_mul]; exact refpow_any 2 (j * i) (by omega) wr
          replace hc := Lib.hid hc
          have c2 : (i : Int) < (n : Int) := by omega
          go_wp2_with (go_at_call 138; (with_reducible refine hpow.mono ?_); rintro e w2 ⟨rfl, rfl⟩)
          obtain ⟨wp, rfl⟩ : ∃ wp : World, wp = wr := ⟨_, rfl⟩
          go_loopw [7] (fun x wr => ∃ k : Nat, k ≤ 8 ∧ x = .int .i64 k ∧ wr.rowIs w.heap.size 64 24 (pV D j i k) ∧ Below w.heap.size w wr) (fun x _ => 8 - (intOf x).toNat)
          case atStart => exact ⟨0, by omega, rfl, ho, hbw⟩
          case round =>
            obtain ⟨k, hk, rfl, ho, hbw⟩ := hrel
            by_cases hlt4 : k < 8
            · have f1 : wr.cell? ⟨b, o + i * 8 + k, none⟩ = some (.int .u8 ((ent D i k).toNat : Int)) := (hbw.cell (by exact hlt3)).trans (hc.out i hlt2 k hlt4)
              have f2 : wr.cell? ⟨w.heap.size, j * 8 + k, none⟩ = some (.int .u8 ((pR D j i k (j * 8 + k)).toNat : Int)) := ho.cell (by omega)
              have f3 := ho.frozen (j * 8 + k)
              have c1 : (0 : Int) ≤ (i : Int) := Int.natCast_nonneg _
              have c3 : (0 : Int) ≤ (j : Int) := Int.natCast_nonneg _
              have c5 : (0 : Int) ≤ (k : Int) := Int.natCast_nonneg _
              have c6 : (k : Int) < 8 := by omega
              have hx := u8_xor_F (pR D j i k (j * 8 + k)) (Gf.mul (Gf.pow 2 (j * i)) (ent D i k))
              replace ho := Lib.hid ho
              go_wp2
              go_region_law (first | (go_simp; go_at_call 97; refine (refmul_any _ _ _).mono ?_; rintro e w2 ⟨rfl, rfl⟩))
              all_goals
                go_wp2
                go_roundw
                case rel => exact ⟨k + 1, by omega, by go_num, ((ho.out.set (j * 8 + k) (.int .u8 ((pR D j i k (j * 8 + k) ^^^ Gf.mul (Gf.pow 2 (j * i)) (ent D i k)).toNat : Int))).congr fun idx _ => pV_step D hlt4 idx).drew, (hbw.setCell (Nat.le_refl _) _).drew⟩
                case measure => simp [intOf]; omega
            · obtain rfl : k = 8 := by omega
              go_wp2
              go_roundw
              case rel => exact ⟨i + 1, by omega, by go_num, ho.congr fun idx _ => pV_next D j i idx, hbw⟩
              case measure => simp [intOf]; omega
        · obtain rfl : i = n := by omega
          have ho2 : wr.rowIs w.heap.size 64 24 (pV D (j + 1) 0 0) := ho.congr fun idx _ => by rw [← hl.out]; exact pV_nextj D j idx
          go_wp2
          go_roundw
          case rel => exact ⟨j + 1, by omega, by go_num, ho2, hbw⟩
          case measure => simp [intOf]; omega
    · obtain rfl : j = 3 := by omega
      go_wp2
      go_ret
      exact ⟨w.heap.size, rfl, ⟨parM_length D, Elm.of_rowIs ho (Nat.le_refl _) (by unfold maxLen; omega) (fun j hj => by rw [agc_size, parM_rowlen D hj]) (fun j _ => agc_one _) (fun j hj k hk => by
        rw [agc_at (by rw [parM_rowlen D hj]; exact hk)]
        have e1 : (j * 8 + k) / 8 = j := by omega
        have e2 : (j * 8 + k) % 8 = k := by omega
        have e3 : nth (mrow (parM D) j) k = parE D j k := parM_ent D hj hk
        rw [e3]
        unfold pV pR cntR
        rw [e1, e2, if_pos hj]
        rfl)⟩, hbw⟩
end
end Go.Proofs.Ytifhjigkljdkmaa
