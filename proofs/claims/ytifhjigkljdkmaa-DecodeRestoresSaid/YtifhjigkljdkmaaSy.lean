/- decode.Syndromes. -/
import Derived.Test.YtifhjigkljdkmaaEn
import Derived.Test.YtifhjigkljdkmaaDe
namespace Go.Proofs.Ytifhjigkljdkmaa
open Go.RowKit Go.Shelf
open Gf (F)
set_option linter.unusedSimpArgs false
set_option linter.unusedVariables false
/-- The cells of a list of blocks, in a row. -/
def matF (M : List (List F)) (idx : Nat) : Value := .int .u8 ((ent M (idx / 8) (idx % 8)).toNat : Int)
/-- The syndromes. -/
def synM (M : List (List F)) : List (List F) := mkm 3 8 fun j k => ent (parM (M.take (M.length - 3))) j k ^^^ ent M (M.length - 3 + j) k
theorem synM_length (M : List (List F)) : (synM M).length = 3 := mkm_length _ _ _
theorem synM_row (M : List (List F)) {j : Nat} (hj : j < 3) : (mrow (synM M) j).length = 8 := by unfold synM; rw [mrow_mkm _ hj, mkr_length]
theorem synM_ent (M : List (List F)) {j k : Nat} (hj : j < 3) (hk : k < 8) : ent (synM M) j k = ent (parM (M.take (M.length - 3))) j k ^^^ ent M (M.length - 3 + j) k := by
  show nth (mrow (synM M) j) k = _
  unfold synM
  rw [mrow_mkm _ hj, nth_mkr _ hk]
theorem blks_matF {w : World} {g : Nat} {p : Nat → Prop} {M : List (List F)} (h : w.rowIs g 64 24 (matF M)) (hp : p g) (hl : M.length = 3) (hr : ∀ j, j < 3 → (mrow M j).length = 8) : Blks p w (some ⟨g, 0, none⟩) 3 3 M :=
  ⟨hl, Elm.of_rowIs h hp (by unfold maxLen; omega) (fun j hj => by rw [agc_size, hr j hj]) (fun j _ => agc_one _) (fun j hj k hk => by
    rw [agc_at (by rw [hr j hj]; exact hk)]
    unfold matF
    have e1 : (j * 8 + k) / 8 = j := by omega
    have e2 : (j * 8 + k) % 8 = k := by omega
    rw [e1, e2]
    rfl)⟩
section
variable {p q : Nat → Prop} {w : World} {A : Option Addr} {n c wd : Nat} {D M : List (List F)}
set_option maxRecDepth 100000 in
set_option maxHeartbeats 2000000 in
theorem encode_own (h : Blks p w A n c D) (h1 : 1 ≤ n) (h13 : n ≤ 13) : Calls Try.prog 117 #[.slice A n c] w fun e w' => ∃ g, e = .returned (.tuple #[.slice (some ⟨g, 0, none⟩) 3 3, .int .i64 0]) ∧ w.heap.size ≤ g ∧ w'.rowIs g 64 24 (matF (parM D)) ∧ Below w.heap.size w w' := by
  have q1 : ¬ ((n : Int) < 1) := by omega
  have hmk := mk53 w
  have hr0 := (mk53_row w D).alloc (.cells #[.slice (some ⟨w.heap.size, 0, none⟩) 3 3] 53)
  have hbx := Boxed.new (w.alloc (.cells (Array.replicate 24 (.int .u8 0)) 64)) 53 (.slice (some ⟨w.heap.size, 0, none⟩) 3 3)
  rw [size_alloc1] at hbx
  have hb0 : Below w.heap.size w ((w.alloc (.cells (Array.replicate 24 (.int .u8 0)) 64)).alloc (.cells #[.slice (some ⟨w.heap.size, 0, none⟩) 3 3] 53)) := ((Below.refl _ _).alloc (Nat.le_refl _) _).alloc (by simp) _
  refine callsIn_wide.1 (callsIn_of_wp_marks (n := 10) Try.func117 rfl trivial ?_ rfl)
  simp only [Try.ntmps117, List.size_toArray, List.length_cons, List.length_nil, Nat.reduceAdd, Nat.reduceSub, Array.replicate_succ, Array.replicate_zero, List.push_toArray, List.append_toArray, List.nil_append, List.cons_append]
  refine wpIn_wide.2 ?_
  go_wp2
  refine wp_loop_rounds 4 ?_
  rw [rounds_succ]
  go_upto_block 1 with (fail)
  refine enc_round (j := 0) (ds := []) (by omega) h13 (by omega) h (Nat.le_refl _) (by omega) ⟨hbx, hr0, hb0, fun d hd => by cases hd⟩ (fun x5 x7 x21 x22 x23 x26 x27 x28 x29 x30 x31 x32 x33 x34 x35 x36 D1 W1 hd1 hI1 => ?_)
  go_wp2
  rw [rounds_succ]
  go_upto_block 1 with (fail)
  refine enc_round (j := 1) (ds := [D1]) (by omega) h13 (by omega) h (Nat.le_refl _) (by omega) hI1 (fun x5 x7 x21 x22 x23 x26 x27 x28 x29 x30 x31 x32 x33 x34 x35 x36 D2 W2 hd2 hI2 => ?_)
  go_wp2
  rw [rounds_succ]
  go_upto_block 1 with (fail)
  refine enc_round (j := 2) (ds := [D2, D1]) (by omega) h13 (by omega) h (Nat.le_refl _) (by omega) hI2 (fun x5 x7 x21 x22 x23 x26 x27 x28 x29 x30 x31 x32 x33 x34 x35 x36 D3 W3 hd3 hI3 => ?_)
  go_wp2
  rw [rounds_succ]
  have b3 := hI3.box.cell
  go_wp2
  have m1 : D1 < W1.heap.size := (Array.getElem?_eq_some_iff.1 (hI1.marks D1 (by simp))).1
  have m2 : D2 < W2.heap.size := (Array.getElem?_eq_some_iff.1 (hI2.marks D2 (by simp))).1
  have z0 := hb0.size
  have z1 := hI1.below.size
  have z2 := hI2.below.size
  have m3 : D1 < W2.heap.size := (Array.getElem?_eq_some_iff.1 (hI2.marks D1 (by simp))).1
  have j3 := hI3.take (by omega) (by simp; omega)
  have j2 := j3.take (by omega) (by simp; omega)
  have j1 := j2.take (by omega) (by simp)
  refine ⟨by simp, .inl ⟨_, _, rfl, run_takeDeferred (hI3.marks D3 (by simp)), ?_⟩⟩
  refine ⟨by simp, .inl ⟨_, _, rfl, run_takeDeferred (j3.marks D2 (by simp)), ?_⟩⟩
  refine ⟨by simp, .inl ⟨_, _, rfl, run_takeDeferred (j2.marks D1 (by simp)), ?_⟩⟩
  exact ⟨_, results_tmp2 rfl _ _ _, _, rfl, Nat.le_refl _, j1.row.congr fun idx hidx => (by
    unfold oF matF
    rw [if_pos (show idx / 8 < 3 by omega)]
    rfl), j1.below⟩
set_option maxRecDepth 100000 in
set_option maxHeartbeats 1000000 in
theorem syn_arg (h : Blks p w A n c M) (hw : wideB (n : Int) = false) : Calls Try.prog 76 #[.slice A n c] w fun e w' => e = .returned (.tuple #[.slice none 0 0, .int .i64 1]) ∧ w = w' := by
  have hn := h.len
  go_enter Try.func76, Try.ntmps76
  go_wp2_with (go_at_call 112; (with_reducible refine (possible_any (n : Int) _).mono ?_); rw [hw]; rintro e w' ⟨rfl, rfl⟩)
  go_ret2
  exact ⟨rfl, rfl⟩
set_option maxRecDepth 100000 in
set_option maxHeartbeats 2000000 in
theorem syn_any (h4 : 4 ≤ wd) (h16 : wd ≤ 16) (h : Blks p w A wd c M) : Calls Try.prog 76 #[.slice A wd c] w fun e w' => ∃ g, e = .returned (.tuple #[.slice (some ⟨g, 0, none⟩) 3 3, .int .i64 0]) ∧ w.heap.size ≤ g ∧ Blks (fun _ => True) w' (some ⟨g, 0, none⟩) 3 3 (synM M) ∧ Below w.heap.size w w' := by
  have hwb : wideB (wd : Int) = true := by unfold wideB; simp; omega
  have hl := Lib.hid h.1
  have hcap := h.2.le
  have hcap2 := h.2.cap
  unfold maxLen at hcap2
  obtain ⟨b1, o1, rfl, _, hlt1, hc1⟩ := h.at_ (by omega)
  replace hc1 := Lib.hid hc1
  have hpre := h.pre (k := wd - 3) (by omega)
  have e3 : (wd : Int) - 3 = ((wd - 3 : Nat) : Int) := by omega
  obtain ⟨n, hn⟩ : ∃ n, n = wd - 3 := ⟨_, rfl⟩
  have hnw : wd ≤ n + 3 := by omega
  have hnw2 : n + 3 ≤ wd := by omega
  have h1n : 1 ≤ n := by omega
  have h13 : n ≤ 13 := by omega
  rw [← hn] at hpre e3
  have hes : Hid (∀ j k, j < 3 → k < 8 → ent (synM M) j k = ent (parM (M.take n)) j k ^^^ ent M (n + j) k) := fun j k hj hk => by
    have := synM_ent M hj hk
    rw [hl.out, ← hn] at this
    exact this
  replace hn := Lib.hid hn
  go_enter Try.func76, Try.ntmps76
  go_wp2_with (first | (go_at_call 112; (with_reducible refine (possible_any (wd : Int) _).mono ?_); rw [hwb]; rintro e w' ⟨rfl, rfl⟩) | (go_at_call 117; refine (encode_own hpre h1n h13).mono ?_; rintro e w1 ⟨g, rfl, hg, hrow, hb1⟩))
  go_loopw [25] (fun x wr => ∃ i : Nat, i ≤ 3 ∧ x = .int .i64 i ∧ wr.rowIs g 64 24 (upto (i * 8) (matF (synM M)) (matF (parM (M.take n)))) ∧ Below w.heap.size w wr) (fun x _ => 3 - (intOf x).toNat)
  case atStart => exact ⟨0, by omega, rfl, by rw [Nat.zero_mul, upto_zero]; exact hrow, hb1⟩
  case round =>
    obtain ⟨i, hi, rfl, hr, hbw⟩ := hrel
    by_cases hlt : i < 3
    · have c4 : (i : Int) < 3 := by omega
      have c3 : (0 : Int) ≤ (i : Int) := Int.natCast_nonneg _
      obtain ⟨wo, rfl⟩ : ∃ wo : World, wo = wr := ⟨_, rfl⟩
      go_wp2
      go_loopw [28] (fun x wr => ∃ k : Nat, k ≤ 8 ∧ x = .int .i64 k ∧ wr.rowIs g 64 24 (upto (i * 8 + k) (matF (synM M)) (matF (parM (M.take n)))) ∧ Below w.heap.size w wr) (fun x _ => 8 - (intOf x).toNat)
      case atStart => exact ⟨0, by omega, rfl, by rw [Nat.add_zero]; exact hr, hbw⟩
      case round =>
        obtain ⟨k, hk, rfl, hr, hbw⟩ := hrel
        by_cases hltk : k < 8
        · have ed1 : (i * 8 + k) / 8 = i := by omega
          have ed2 : (i * 8 + k) % 8 = k := by omega
          have e1 : wr.cell? ⟨g, i * 8 + k, none⟩ = some (.int .u8 ((ent (parM (M.take n)) i k).toNat : Int)) := by rw [hr.cell (by omega), upto_at]; unfold matF; rw [ed1, ed2]
          obtain ⟨ni, hni⟩ : ∃ ni, ni = n + i := ⟨_, rfl⟩
          have e2 : wr.cell? ⟨b1, o1 + ni * 8 + k, none⟩ = some (.int .u8 ((ent M (n + i) k).toNat : Int)) := by rw [hni]; exact (hbw.cell (p := ⟨b1, o1 + (n + i) * 8 + k, none⟩) hlt1).trans (hc1.out (n + i) (by omega) k hltk)
          have hwr : IntKind.i64.wrap ((n : Int) + (i : Int)) = (ni : Int) := by rw [IntWalk.i64_in _ (by omega)]; omega
          have e4 := hr.frozen (i * 8 + k)
          have c5 : (0 : Int) ≤ (k : Int) := Int.natCast_nonneg _
          have c6 : (k : Int) < 8 := by omega
          have c7 : (0 : Int) ≤ (ni : Int) := by omega
          have c8 : (ni : Int) < (wd : Int) := by omega
          replace hni := Lib.hid hni
          have hxr := u8_xor_F (ent (parM (M.take n)) i k) (ent M (n + i) k)
          have hfin : Hid (matF (synM M) (i * 8 + k) = .int .u8 (((ent (parM (M.take n)) i k) ^^^ (ent M (n + i) k)).toNat : Int)) := by
            show _ = _
            unfold matF
            rw [ed1, ed2, hes.out i k hlt hltk]
          replace hr := Lib.hid hr
          clear ed1 ed2
          go_wp2
          go_region_law (fail)
          all_goals
            go_wp2
            go_roundw
            case rel => exact ⟨k + 1, by omega, by go_num, (rowIs_upto_set (k := i * 8 + k) hr.out (by rw [hfin.out, UInt8.toNat_xor])).drew, (hbw.setCell hg _).drew⟩
            case measure => simp [intOf]; omega
        · obtain rfl : k = 8 := by omega
          go_wp2
          go_roundw
          case rel => exact ⟨i + 1, by omega, by go_num, by rw [Nat.add_mul, Nat.one_mul]; exact hr, hbw⟩
          case measure => simp [intOf]; omega
    · obtain rfl : i = 3 := by omega
      have hr9 : wr.rowIs g 64 24 (matF (synM M)) := hr.congr fun j hj => upto_lt (by omega) _ _
      go_wp2
      go_ret2
      exact ⟨g, rfl, hg, blks_matF hr9 trivial (synM_length M) (fun j hj => synM_row M hj), hbw⟩
end
end Go.Proofs.Ytifhjigkljdkmaa
