/- tegularef04.Syndromes; the law function DecodeSyndromes returns true. -/
import Derived.Test.YtifhjigkljdkmaaGs
import Derived.Test.YtifhjigkljdkmaaSy
import Derived.Test.YtifhjigkljdkmaaBr
namespace Go.Proofs.Ytifhjigkljdkmaa
open Go.RowKit
open Gf (F)
set_option linter.unusedSimpArgs false
set_option linter.unusedVariables false
theorem ownB_lt {w : World} {base g n c : Nat} {M : List (List F)} (h : OwnB w base (.slice (some ⟨g, 0, none⟩) n c) n M) (h0 : 0 < n) : g < w.heap.size := by
  obtain ⟨g', cap', e, _, hl⟩ := h.form h0
  cases e
  exact hl
theorem own_matF {w : World} {base g : Nat} {M : List (List F)} (h : w.rowIs g 64 24 (matF M)) (hb : base ≤ g) (hl : M.length = 3) (hr : ∀ j, j < 3 → (mrow M j).length = 8) : OwnB w base (.slice (some ⟨g, 0, none⟩) 3 3) 3 M :=
  ⟨hl, hr, own_of_row (s := 8) (cap := 3) h hb (Nat.le_refl _) (by unfold maxLen; omega) (fun j hj => by rw [agc_size, hr j hj]) (by decide) (fun j hj k hk => by
    rw [agc_at (by rw [hr j hj]; exact hk)]
    unfold matF
    have e1 : (j * 8 + k) / 8 = j := by omega
    have e2 : (j * 8 + k) % 8 = k := by omega
    rw [e1, e2]
    rfl)⟩
/-- The syndromes, the first i of them done. -/
def synI (M : List (List F)) (n : Nat) : Nat → List (List F)
  | 0 => parM (M.take n)
  | i + 1 => (synI M n i).set i (xorB (mrow (parM (M.take n)) i) (mrow M (n + i)))
theorem synI_length (M : List (List F)) (n : Nat) : ∀ i, (synI M n i).length = 3
  | 0 => parM_length _
  | i + 1 => by rw [synI, List.length_set]; exact synI_length M n i
theorem synI_row (M : List (List F)) (n : Nat) : ∀ i, i ≤ 3 → ∀ j, j < 3 → mrow (synI M n i) j = if j < i then xorB (mrow (parM (M.take n)) j) (mrow M (n + j)) else mrow (parM (M.take n)) j
  | 0, _, j, _ => by rw [if_neg (Nat.not_lt_zero _)]; rfl
  | i + 1, hi, j, hj => by
    rw [synI, mrow_set (by rw [synI_length]; omega)]
    by_cases e : j = i
    · rw [if_pos e, if_pos (by omega), e]
    · rw [if_neg e, synI_row M n i (by omega) j hj]
      by_cases e2 : j < i
      · rw [if_pos e2, if_pos (by omega)]
      · rw [if_neg e2, if_neg (by omega)]
theorem synI_all {M : List (List F)} {n : Nat} (hn : M.length = n + 3) : synI M n 3 = synM M := by
  apply mrow_ext (by rw [synI_length, synM_length])
  intro j hj
  rw [synI_length] at hj
  rw [synI_row M n 3 (Nat.le_refl _) j hj, if_pos hj]
  apply nth_ext (by rw [xorB_length, synM_row M hj])
  intro k hk
  rw [xorB_length] at hk
  have := synM_ent M hj hk
  rw [hn, Nat.add_sub_cancel] at this
  show _ = ent (synM M) j k
  rw [this]
  unfold xorB
  rw [nth_mkr _ hk]
  rfl
section
variable {p q : Nat → Prop} {w w' : World} {A : Option Addr} {n c wd : Nat} {M D : List (List F)}
set_option maxRecDepth 100000 in
set_option maxHeartbeats 4000000 in
theorem parity03_own (h : Blks p w A n c D) (hn : n ≤ 64) : Calls Try.prog 118 #[.slice A n c] w fun e w' => ∃ g, e = .returned (.slice (some ⟨g, 0, none⟩) 3 3) ∧ w.heap.size ≤ g ∧ w'.rowIs g 64 24 (matF (parM D)) ∧ Below w.heap.size w w' := by
  have hmk := mk53 w
  have hr0 : (w.alloc (.cells (Array.replicate 24 (.int .u8 0)) 64)).rowIs w.heap.size 64 24 (pV D 0 0 0) := (mk53_row w D).congr fun i _ => by
    rw [pV_start]
    unfold oF zeros
    rw [if_neg (Nat.not_lt_zero _)]
    split <;> rw [nth_zeroL] <;> rfl
  have hb0 : Below w.heap.size w (w.alloc (.cells (Array.replicate 24 (.int .u8 0)) 64)) := (Below.refl _ _).alloc (Nat.le_refl _) _
  have hl := Lib.hid h.1
  go_enter Try.func118, Try.ntmps118
  go_wp2
  go_loopw [4] (fun x wr => ∃ j : Nat, j ≤ 3 ∧ x = .int .i64 j ∧ wr.rowIs w.heap.size 64 24 (pV D j 0 0) ∧ Below w.heap.size w wr) (fun x _ => 3 - (intOf x).toNat)
  case atStart => exact ⟨0, by omega, rfl, hr0, hb0⟩
  case round =>
    obtain ⟨j, hj, rfl, ho, hbw⟩ := hrel
    by_cases hlt : j < 3
    · have c4 : (j : Int) < 3 := by omega
      go_wp2
      obtain ⟨wo, rfl⟩ : ∃ wo : World, wo = wr := ⟨_, rfl⟩
      go_loopw [5] (fun x wr => ∃ i : Nat, i ≤ n ∧ x = .int .i64 i ∧ wr.rowIs w.heap.size 64 24 (pV D j i 0) ∧ Below w.heap.size w wr) (fun x _ => n - (intOf x).toNat)
      case atStart => exact ⟨0, by omega, rfl, ho, hbw⟩
      case round =>
        obtain ⟨i, hi, rfl, ho, hbw⟩ := hrel
        by_cases hlt2 : i < n
        · obtain ⟨b, o, rfl, _, hlt3, hc⟩ := h.at_ (by omega)
          have hji : j * i ≤ 2 * 64 := Nat.mul_le_mul (by omega) (by omega)
          have hpow : Calls Try.prog 138 #[.int .u8 2, .int .i64 ((j : Int) * (i : Int))] wr fun e w' => e = .returned (.int .u8 ((Gf.pow 2 (j * i)).toNat : Int)) ∧ wr = w' := by rw [← Int.natCast_mul]; exact refpow_any 2 (j * i) (by omega) wr
          replace hc := Lib.hid hc
          have c2 : (i : Int) < (n : Int) := by omega
          go_wp2_with (go_at_call 138; (with_reducible refine hpow.mono ?_); rintro e w2 ⟨rfl, rfl⟩)
          obtain ⟨wp, rfl⟩ : ∃ wp : World, wp = wr := ⟨_, rfl⟩
          go_loopw [7] (fun x wr => ∃ k : Nat, k ≤ 8 ∧ x = .int .i64 k ∧ wr.rowIs w.heap.size 64 24 (pV D j i k) ∧ Below w.heap.size w wr) (fun x _ => 8 - (intOf x).toNat)
          case atStart => exact ⟨0, by omega, rfl, ho, hbw⟩
          case round =>
            obtain ⟨k, hk, rfl, ho, hbw⟩ := hrel
            by_cases hlt4 : k < 8
            · have f1 : wr.cell? ⟨b, o + i * 8 + k, none⟩ = some (.int .u8 ((ent D i k).toNat : Int)) := (hbw.cell (by exact hlt3)).trans (hc.out i hlt2 k hlt4)
              have f2 : wr.cell? ⟨w.heap.size, j * 8 + k, none⟩ = some (.int .u8 ((pR D j i k (j * 8 + k)).toNat : Int)) := ho.cell (by omega)
              have f3 := ho.frozen (j * 8 + k)
              have c1 : (0 : Int) ≤ (i : Int) := Int.natCast_nonneg _
              have c3 : (0 : Int) ≤ (j : Int) := Int.natCast_nonneg _
              have c5 : (0 : Int) ≤ (k : Int) := Int.natCast_nonneg _
              have c6 : (k : Int) < 8 := by omega
              have hx := u8_xor_F (pR D j i k (j * 8 + k)) (Gf.mul (Gf.pow 2 (j * i)) (ent D i k))
              replace ho := Lib.hid ho
              go_wp2
              go_region_law (first | (go_simp; go_at_call 97; refine (refmul_any _ _ _).mono ?_; rintro e w2 ⟨rfl, rfl⟩))
              all_goals
                go_wp2
                go_roundw
                case rel => exact ⟨k + 1, by omega, by go_num, ((ho.out.set (j * 8 + k) (.int .u8 ((pR D j i k (j * 8 + k) ^^^ Gf.mul (Gf.pow 2 (j * i)) (ent D i k)).toNat : Int))).congr fun idx _ => pV_step D hlt4 idx).drew, (hbw.setCell (Nat.le_refl _) _).drew⟩
                case measure => simp [intOf]; omega
            · obtain rfl : k = 8 := by omega
              go_wp2
              go_roundw
              case rel => exact ⟨i + 1, by omega, by go_num, ho.congr fun idx _ => pV_next D j i idx, hbw⟩
              case measure => simp [intOf]; omega
        · obtain rfl : i = n := by omega
          have ho2 : wr.rowIs w.heap.size 64 24 (pV D (j + 1) 0 0) := ho.congr fun idx _ => by rw [← hl.out]; exact pV_nextj D j idx
          go_wp2
          go_roundw
          case rel => exact ⟨j + 1, by omega, by go_num, ho2, hbw⟩
          case measure => simp [intOf]; omega
    · obtain rfl : j = 3 := by omega
      go_wp2
      go_ret
      exact ⟨w.heap.size, rfl, Nat.le_refl _, ho.congr fun idx hidx => (by
        have e3 : ent (parM D) (idx / 8) (idx % 8) = parE D (idx / 8) (idx % 8) := parM_ent D (by omega) (by omega)
        unfold matF
        rw [e3]
        unfold pV pR cntR
        rw [if_pos (show idx / 8 < 3 by omega)]
        rfl), hbw⟩
set_option maxRecDepth 100000 in
set_option maxHeartbeats 2000000 in
theorem rsyn_any (h4 : 4 ≤ wd) (h16 : wd ≤ 16) (h : Blks p w A wd c M) : Calls Try.prog 77 #[.slice A wd c] w fun e w' => ∃ g, e = .returned (.slice (some ⟨g, 0, none⟩) 3 3) ∧ Blks (fun _ => True) w' (some ⟨g, 0, none⟩) 3 3 (synM M) ∧ Below w.heap.size w w' := by
  have hl := h.1
  have hcap := h.2.le
  have hcap2 := h.2.cap
  unfold maxLen at hcap2
  have hpre := h.pre (k := wd - 3) (by omega)
  have hrw := fun j (hj : j < wd) => h.row hj
  obtain ⟨b1, o1, rfl, _, hlt1, hc1⟩ := h.agg (by omega)
  replace hc1 := Lib.hid hc1
  have e3 : (wd : Int) - 3 = ((wd - 3 : Nat) : Int) := by omega
  obtain ⟨n, hn⟩ : ∃ n, n = wd - 3 := ⟨_, rfl⟩
  have hnw : wd ≤ n + 3 := by omega
  have hnw2 : n + 3 ≤ wd := by omega
  rw [← hn] at hpre e3
  have hall := Lib.hid (synI_all (M := M) (n := n) (by omega))
  replace hl := Lib.hid hl
  replace hn := Lib.hid hn
  go_enter Try.func77, Try.ntmps77
  go_wp2_with (go_at_call 118; refine (parity03_own hpre (by omega)).mono ?_; rintro e w1 ⟨g, rfl, hg, hrow, hb1⟩)
  have hO1 := own_matF hrow hg (parM_length _) (fun j hj => parM_rowlen _ hj)
  go_loopw [5] (fun x wr => ∃ i : Nat, i ≤ 3 ∧ x = .int .i64 i ∧ OwnB wr w.heap.size (.slice (some ⟨g, 0, none⟩) 3 3) 3 (synI M n i) ∧ Below w.heap.size w wr) (fun x _ => 3 - (intOf x).toNat)
  case atStart => exact ⟨0, by omega, rfl, hO1, hb1⟩
  case round =>
    obtain ⟨i, hi, rfl, ho, hbw⟩ := hrel
    by_cases hlt : i < 3
    · have c4 : (i : Int) < 3 := by omega
      have c3 : (0 : Int) ≤ (i : Int) := Int.natCast_nonneg _
      obtain ⟨ni, hni⟩ : ∃ ni, ni = n + i := ⟨_, rfl⟩
      have hlp := parM_rowlen (M.take n) hlt
      have hlm := hrw ni (by omega)
      have hir := synI_row M n i hi i hlt
      rw [if_neg (Nat.lt_irrefl _)] at hir
      have e1 : ∀ k, k < 8 → wr.cell? ⟨g, i * 8 + k, none⟩ = (agc (mrow (parM (M.take n)) i))[k]? := fun k hk => by
        obtain ⟨A', c', e', hB⟩ := ho.blks
        cases e'
        obtain ⟨b', o', e', _, _, hc⟩ := hB.agg (by decide)
        cases e'
        have := hc i hlt k hk
        rwa [Nat.zero_add, hir] at this
      have e2 : ∀ k, k < 8 → wr.cell? ⟨b1, o1 + ni * 8 + k, none⟩ = (agc (mrow M ni))[k]? := fun k hk => (hbw.cell (p := ⟨b1, o1 + ni * 8 + k, none⟩) hlt1).trans (hc1.out ni (by omega) k hk)
      have hwr : IntKind.i64.wrap ((n : Int) + (i : Int)) = (ni : Int) := by rw [IntWalk.i64_in _ (by omega)]; omega
      have c7 : (0 : Int) ≤ (ni : Int) := by omega
      have c8 : (ni : Int) < (wd : Int) := by omega
      have hst : Hid (synI M n (i + 1) = (synI M n i).set i (xorB (mrow (parM (M.take n)) i) (mrow M ni))) := by
        show _ = _
        rw [hni]
        rfl
      replace hni := Lib.hid hni
      clear hir
      go_wp2
      refine AnyE.region (fun w' => (∀ k, k < 8 → w'.cell? ⟨g, i * 8 + k, none⟩ = (agc (mrow (parM (M.take n)) i))[k]?) ∧ (∀ k, k < 8 → w'.cell? ⟨b1, o1 + ni * 8 + k, none⟩ = (agc (mrow M ni))[k]?) ∧ OwnB w' w.heap.size (.slice (some ⟨g, 0, none⟩) 3 3) 3 (synI M n i) ∧ Below w.heap.size w w') 14 (by kernel_rfl) ?_
      have hS : ∀ w0 w', (fun w' => (∀ k, k < 8 → w'.cell? ⟨g, i * 8 + k, none⟩ = (agc (mrow (parM (M.take n)) i))[k]?) ∧ (∀ k, k < 8 → w'.cell? ⟨b1, o1 + ni * 8 + k, none⟩ = (agc (mrow M ni))[k]?) ∧ OwnB w' w.heap.size (.slice (some ⟨g, 0, none⟩) 3 3) 3 (synI M n i) ∧ Below w.heap.size w w') w0 → Below w0.heap.size w0 w' → (fun w' => (∀ k, k < 8 → w'.cell? ⟨g, i * 8 + k, none⟩ = (agc (mrow (parM (M.take n)) i))[k]?) ∧ (∀ k, k < 8 → w'.cell? ⟨b1, o1 + ni * 8 + k, none⟩ = (agc (mrow M ni))[k]?) ∧ OwnB w' w.heap.size (.slice (some ⟨g, 0, none⟩) 3 3) 3 (synI M n i) ∧ Below w.heap.size w w') w' := fun w0 w' h k => ⟨fun j hj => (k.cell (p := ⟨g, i * 8 + j, none⟩) (ownB_lt h.2.2.1 (by decide))).trans (h.1 j hj), fun j hj => (k.cell (p := ⟨b1, o1 + ni * 8 + j, none⟩) (Nat.lt_of_lt_of_le hlt1 h.2.2.2.size)).trans (h.2.1 j hj), h.2.2.1.below k, below_then2 h.2.2.2 k⟩
      have hH := hS wr wr.drew ⟨e1, e2, ho, hbw⟩ (show Below wr.heap.size wr wr.drew from below_drewN (Below.refl _ _) 1)
      refine AnyE.take0 0 (v := ?_) rfl (by decide) (by kernel_rfl) (by kernel_rfl) (by kernel_rfl) (by kernel_rfl) (fun _ _ _ h => h) (by rfl) (fun _ => hH) ?_ ?_
      rotate_left; · (intro w; go_simp; try with_reducible rfl)
      (try simp only [List.getElem_toArray, List.getElem_cons_succ, List.getElem_cons_zero, Act.put, List.setIfInBounds_toArray, List.set_cons_zero, List.set_cons_succ])
      refine AnyE.take0 1 (v := ?_) rfl (by decide) (by kernel_rfl) (by kernel_rfl) (by kernel_rfl) (by kernel_rfl) (fun _ _ _ h => h) (by rfl) (fun _ => hH) ?_ ?_
      rotate_left; · (intro w; go_simp; try with_reducible rfl)
      (try simp only [List.getElem_toArray, List.getElem_cons_succ, List.getElem_cons_zero, Act.put, List.setIfInBounds_toArray, List.set_cons_zero, List.set_cons_succ])
      refine AnyE.take0 2 (v := ?_) rfl (by decide) (by kernel_rfl) (by kernel_rfl) (by kernel_rfl) (by kernel_rfl) (fun _ _ _ h => h) (by rfl) (fun _ => hH) ?_ ?_
      rotate_left; · (intro w; go_simp; try with_reducible rfl)
      (try simp only [List.getElem_toArray, List.getElem_cons_succ, List.getElem_cons_zero, Act.put, List.setIfInBounds_toArray, List.set_cons_zero, List.set_cons_succ])
      refine AnyE.take0 3 (v := ?_) rfl (by decide) (by kernel_rfl) (by kernel_rfl) (by kernel_rfl) (by kernel_rfl) (fun _ _ _ h => h) (by rfl) (fun _ => hH) ?_ ?_
      rotate_left; · (intro w; go_simp; try with_reducible rfl)
      (try simp only [List.getElem_toArray, List.getElem_cons_succ, List.getElem_cons_zero, Act.put, List.setIfInBounds_toArray, List.set_cons_zero, List.set_cons_succ])
      refine AnyE.take0 4 (v := ?_) rfl (by decide) (by kernel_rfl) (by kernel_rfl) (by kernel_rfl) (by kernel_rfl) (fun _ _ _ h => h) (by rfl) (fun _ => hH) ?_ ?_
      rotate_left; · (intro w; go_simp; try with_reducible rfl)
      (try simp only [List.getElem_toArray, List.getElem_cons_succ, List.getElem_cons_zero, Act.put, List.setIfInBounds_toArray, List.set_cons_zero, List.set_cons_succ])
      refine AnyE.take 5 [5] (v := ?_) rfl (by decide) (by kernel_rfl) (by kernel_rfl) (by kernel_rfl) (by kernel_rfl) (by kernel_rfl) (by kernel_rfl) (fun _ _ _ h => h) (by rfl) hH ?_ ?_
      rotate_left; · (intro wz hSw; simp only [List.getElem_toArray, List.getElem_cons_succ, List.getElem_cons_zero, Act.put, List.setIfInBounds_toArray, List.set_cons_zero, List.set_cons_succ]; refine exec_load_agg (x := .tmp 21) (b := g) (off := i * 8) ?_ ?_ Try.underlying64 rfl (info64' hlp) (fun k hk => hSw.1 k (by rwa [agc_size, hlp] at hk)); rfl; rfl)
      (try simp only [List.getElem_toArray, List.getElem_cons_succ, List.getElem_cons_zero, Act.put, List.setIfInBounds_toArray, List.set_cons_zero, List.set_cons_succ])
      refine AnyE.take0 6 (v := ?_) rfl (by decide) (by kernel_rfl) (by kernel_rfl) (by kernel_rfl) (by kernel_rfl) (fun _ _ _ h => h) (by rfl) (fun _ => hH) ?_ ?_
      rotate_left; · (intro w; go_simp; try with_reducible rfl)
      (try simp only [List.getElem_toArray, List.getElem_cons_succ, List.getElem_cons_zero, Act.put, List.setIfInBounds_toArray, List.set_cons_zero, List.set_cons_succ])
      refine AnyE.take0 7 (v := ?_) rfl (by decide) (by kernel_rfl) (by kernel_rfl) (by kernel_rfl) (by kernel_rfl) (fun _ _ _ h => h) (by rfl) (fun _ => hH) ?_ ?_
      rotate_left; · (intro w; go_simp; try with_reducible rfl)
      (try simp only [List.getElem_toArray, List.getElem_cons_succ, List.getElem_cons_zero, Act.put, List.setIfInBounds_toArray, List.set_cons_zero, List.set_cons_succ])
      refine AnyE.take0 8 (v := ?_) rfl (by decide) (by kernel_rfl) (by kernel_rfl) (by kernel_rfl) (by kernel_rfl) (fun _ _ _ h => h) (by rfl) (fun _ => hH) ?_ ?_
      rotate_left; · (intro w; go_simp; try with_reducible rfl)
      (try simp only [List.getElem_toArray, List.getElem_cons_succ, List.getElem_cons_zero, Act.put, List.setIfInBounds_toArray, List.set_cons_zero, List.set_cons_succ])
      refine AnyE.take0 9 (v := ?_) rfl (by decide) (by kernel_rfl) (by kernel_rfl) (by kernel_rfl) (by kernel_rfl) (fun _ _ _ h => h) (by rfl) (fun _ => hH) ?_ ?_
      rotate_left; · (intro w; go_simp; try with_reducible rfl)
      (try simp only [List.getElem_toArray, List.getElem_cons_succ, List.getElem_cons_zero, Act.put, List.setIfInBounds_toArray, List.set_cons_zero, List.set_cons_succ])
      refine AnyE.take0 10 (v := ?_) rfl (by decide) (by kernel_rfl) (by kernel_rfl) (by kernel_rfl) (by kernel_rfl) (fun _ _ _ h => h) (by rfl) (fun _ => hH) ?_ ?_
      rotate_left; · (intro w; go_simp; try with_reducible rfl)
      (try simp only [List.getElem_toArray, List.getElem_cons_succ, List.getElem_cons_zero, Act.put, List.setIfInBounds_toArray, List.set_cons_zero, List.set_cons_succ])
      refine AnyE.take 11 [11] (v := ?_) rfl (by decide) (by kernel_rfl) (by kernel_rfl) (by kernel_rfl) (by kernel_rfl) (by kernel_rfl) (by kernel_rfl) (fun _ _ _ h => h) (by rfl) hH ?_ ?_
      rotate_left; · (intro wz hSw; simp only [List.getElem_toArray, List.getElem_cons_succ, List.getElem_cons_zero, Act.put, List.setIfInBounds_toArray, List.set_cons_zero, List.set_cons_succ]; refine exec_load_agg (x := .tmp 27) (b := b1) (off := o1 + ni * 8) ?_ ?_ Try.underlying64 rfl (info64' hlm) (fun k hk => hSw.2.1 k (by rwa [agc_size, hlm] at hk)); rfl; rfl)
      (try simp only [List.getElem_toArray, List.getElem_cons_succ, List.getElem_cons_zero, Act.put, List.setIfInBounds_toArray, List.set_cons_zero, List.set_cons_succ])
      refine AnyE.one 12 rfl (by kernel_rfl) (fun K hK => ?_)
      rw [if_pos (show _ = true by rfl)]
      go_simp
      go_at_call 79; (with_reducible refine (xor_any hlp hlm _).mono ?_); rintro e w12 ⟨rfl, hb12⟩
      replace hH := hS _ _ hH hb12
      refine hK.out _ _ (fun _ => hH) ?_
      clear hK K
      (try simp only [List.getElem_toArray, List.getElem_cons_succ, List.getElem_cons_zero, Act.put, List.setIfInBounds_toArray, List.set_cons_zero, List.set_cons_succ])
      refine AnyE.take0 13 (v := ?_) rfl (by decide) (by kernel_rfl) (by kernel_rfl) (by kernel_rfl) (by kernel_rfl) (fun _ _ _ h => h) (by rfl) (fun _ => hH) ?_ ?_
      rotate_left; · (intro w; go_simp; try with_reducible rfl)
      (try simp only [List.getElem_toArray, List.getElem_cons_succ, List.getElem_cons_zero, Act.put, List.setIfInBounds_toArray, List.set_cons_zero, List.set_cons_succ])
      refine AnyE.one 14 rfl (by kernel_rfl) (fun K hK => ?_)
      rw [if_pos (show _ = true by rfl)]
      (try simp only [List.getElem_toArray, List.getElem_cons_succ, List.getElem_cons_zero, Act.put, List.setIfInBounds_toArray, List.set_cons_zero, List.set_cons_succ])
      refine wp_store_own rfl hH.2.2.1 hlt (xorB_length _ _) rfl rfl rfl ?_
      intro w14 hO14 hg14 hz14
      refine hK.out _ _ (fun e => Bool.noConfusion (show true = false from e)) ?_
      clear hK K
      (try simp only [List.getElem_toArray, List.getElem_cons_succ, List.getElem_cons_zero, Act.put, List.setIfInBounds_toArray, List.set_cons_zero, List.set_cons_succ])
      refine AnyE.done (by kernel_rfl) ?_ _
      go_wp2
      go_roundw
      case rel => exact ⟨i + 1, by omega, by go_num, by rw [hst.out]; exact hO14, hH.2.2.2.grown hg14 hH.2.2.2.size (fun k e => by cases e; exact hg)⟩
      case measure => simp [intOf]; omega
    · obtain rfl : i = 3 := by omega
      rw [hall.out] at ho
      obtain ⟨A', c', e', hB⟩ := ho.blks
      cases e'
      go_wp2
      go_ret
      exact ⟨g, rfl, hB.mono fun _ _ _ => trivial, hbw⟩
end
end Go.Proofs.Ytifhjigkljdkmaa
namespace Go.Proofs.Ytifhjigkljdkmaa
open Go.RowKit
open Gf (F)
set_option linter.unusedSimpArgs false
set_option linter.unusedVariables false
theorem xor_zero_iff {a b : F} : a ^^^ b = 0 ↔ b = a := ⟨fun h => (x_eq_zero h).symm, fun h => by rw [h, x_self]⟩
theorem zeros3_ent {j k : Nat} (hj : j < 3) (hk : k < 8) : ent (zerosM 3) j k = 0 := by
  have : ∀ j : Fin 3, ∀ k : Fin 8, ent (zerosM 3) j.1 k.1 = 0 := by decide +kernel
  exact this ⟨j, hj⟩ ⟨k, hk⟩
theorem syn_zero_iff {M : List (List F)} (h3 : 3 ≤ M.length) (hr : ∀ j, j < M.length → (mrow M j).length = 8) : (M = grpM (M.take (M.length - 3))) ↔ synM M = zerosM 3 := by
  rw [con_drop h3]
  have hdl : (M.drop (M.length - 3)).length = 3 := by rw [List.length_drop]; omega
  have hdr : ∀ j, mrow (M.drop (M.length - 3)) j = mrow M (M.length - 3 + j) := fun j => by
    unfold mrow
    rw [List.getD_eq_getElem?_getD, List.getD_eq_getElem?_getD, List.getElem?_drop]
  constructor
  · intro e
    apply mrow_ext (by rw [synM_length]; rfl)
    intro j hj
    rw [synM_length] at hj
    apply nth_ext (by rw [synM_row M hj, zerosM_row hj]; rfl)
    intro k hk
    rw [synM_row M hj] at hk
    show ent (synM M) j k = ent (zerosM 3) j k
    rw [synM_ent M hj hk, zeros3_ent hj hk, xor_zero_iff]
    show nth (mrow M (M.length - 3 + j)) k = nth (mrow (parM (M.take (M.length - 3))) j) k
    rw [← hdr, e]
  · intro e
    apply mrow_ext (by rw [hdl, parM_length])
    intro j hj
    rw [hdl] at hj
    rw [hdr]
    apply nth_ext (by rw [hr _ (by omega), parM_rowlen _ hj])
    intro k hk
    rw [hr _ (by omega)] at hk
    have h1 := synM_ent M hj hk
    rw [e, zeros3_ent hj hk] at h1
    exact xor_zero_iff.1 h1.symm
/-- The sums of the first i blocks. -/
def sumM (M N : List (List F)) (i : Nat) : List (List F) := (List.range i).map fun j => xorB (mrow M j) (mrow N j)
theorem sumM_length (M N : List (List F)) (i : Nat) : (sumM M N i).length = i := by simp [sumM]
theorem sumM_row {M N : List (List F)} {i j : Nat} (h : j < i) : mrow (sumM M N i) j = xorB (mrow M j) (mrow N j) := by simp [mrow, sumM, h]
theorem sumM_succ (M N : List (List F)) (i : Nat) : sumM M N (i + 1) = sumM M N i ++ [xorB (mrow M i) (mrow N i)] := by
  unfold sumM
  rw [List.range_succ, List.map_append]
  rfl
theorem sumM_ent {M N : List (List F)} {i j k : Nat} (h : j < i) (hk : k < 8) : ent (sumM M N i) j k = ent M j k ^^^ ent N j k := by
  show nth (mrow (sumM M N i) j) k = _
  rw [sumM_row h]
  unfold xorB
  rw [nth_mkr _ hk]
  rfl
theorem syn_add {M N : List (List F)} {n : Nat} (hM : M.length = n + 3) (hN : N.length = n + 3) {j : Nat} (hj : j < 3) : mrow (synM (sumM M N (n + 3))) j = xorB (mrow (synM M) j) (mrow (synM N) j) := by
  apply nth_ext (by rw [synM_row _ hj, xorB_length])
  intro k hk
  rw [synM_row _ hj] at hk
  have tk : ∀ (X : List (List F)) (i k : Nat), i < n → ent (X.take n) i k = ent X i k := fun X i k hi => by
    unfold ent mrow
    rw [List.getD_eq_getElem?_getD, List.getD_eq_getElem?_getD, List.getElem?_take_of_lt hi]
  have pe : ∀ X : List (List F), X.length = n + 3 → ent (parM (X.take n)) j k = sumF n fun i => Gf.mul (Gf.pow 2 (j * i)) (ent X i k) := fun X hX => by
    rw [parM_ent _ hj hk]
    unfold parE
    rw [List.length_take, hX, Nat.min_eq_left (by omega)]
    exact sumF_congr fun i hi => by rw [tk X i k hi]
  have se : ∀ X : List (List F), X.length = n + 3 → ent (synM X) j k = (sumF n fun i => Gf.mul (Gf.pow 2 (j * i)) (ent X i k)) ^^^ ent X (n + j) k := fun X hX => by
    rw [synM_ent X hj hk, hX, Nat.add_sub_cancel, pe X hX]
  show ent (synM (sumM M N (n + 3))) j k = _
  unfold xorB
  rw [nth_mkr _ hk]
  show _ = ent (synM M) j k ^^^ ent (synM N) j k
  rw [se _ (sumM_length _ _ _), se M hM, se N hN, sumM_ent (by omega) hk]
  have : (sumF n fun i => Gf.mul (Gf.pow 2 (j * i)) (ent (sumM M N (n + 3)) i k)) = (sumF n fun i => Gf.mul (Gf.pow 2 (j * i)) (ent M i k)) ^^^ sumF n fun i => Gf.mul (Gf.pow 2 (j * i)) (ent N i k) := by
    rw [← sumF_xor]
    exact sumF_congr fun i hi => by rw [sumM_ent (by omega) hk, Gf.mul_add]
  rw [this]
  generalize (sumF n fun i => Gf.mul (Gf.pow 2 (j * i)) (ent M i k)) = a
  generalize (sumF n fun i => Gf.mul (Gf.pow 2 (j * i)) (ent N i k)) = b
  generalize ent M (n + j) k = c
  generalize ent N (n + j) k = d
  ac_rfl
end Go.Proofs.Ytifhjigkljdkmaa
namespace Go.Proofs.Ytifhjigkljdkmaa
open Go.RowKit
open Gf (F)
set_option linter.unusedSimpArgs false
set_option linter.unusedVariables false
theorem wp_of_exec {P : Program} {o : Oper} {a : Act} {w : World} {K : Act → World → Prop} {Q : Exit → Act → World → Prop} {v : Value} (h : (execOp a.eval o).run P w = .ok (.value v) w) (hk : K (a.put o.dst v) w) : o.wp P a w K Q := by
  unfold Oper.wp
  rw [h]
  exact hk
theorem synrow {w : World} {g : Nat} {S : List (List F)} (h : Blks (fun _ => True) w (some ⟨g, 0, none⟩) 3 3 S) {j k : Nat} (hj : j < 3) (hk : k < 8) : w.cell? ⟨g, j * 8 + k, none⟩ = (agc (mrow S j))[k]? := by
  obtain ⟨b, o, e, _, _, hc⟩ := h.agg (by decide)
  cases e
  have := hc j hj k hk
  rwa [Nat.zero_add] at this
theorem mk533 (w : World) : (Instr.makeSlice 53 (.int .i64 3) (.int .i64 3)).run Try.prog w = .ok (.slice (some ⟨w.heap.size, 0, none⟩) 3 3) (w.alloc (.cells (Array.replicate 24 (.int .u8 0)) 64)) := by kernel_rfl
theorem zer3 (w : World) : Blks (fun _ => True) (w.alloc (.cells (Array.replicate 24 (.int .u8 0)) 64)) (some ⟨w.heap.size, 0, none⟩) 3 3 (zerosM 3) := by
  have h := World.rowIs_alloc w (Array.replicate 24 (.int .u8 0)) 64 (matF (zerosM 3)) (fun i hi => by
    rw [Array.size_replicate] at hi
    rw [Array.getElem?_replicate, if_pos hi]
    unfold matF
    rw [zeros3_ent (by omega) (by omega)]
    rfl)
  rw [Array.size_replicate] at h
  exact blks_matF h trivial rfl (fun j hj => by rw [zerosM_row hj]; rfl)
section
variable {p q : Nat → Prop} {w : World} {A B : Option Addr} {n c m d wd : Nat} {M N : List (List F)}
set_option maxRecDepth 100000 in
set_option maxHeartbeats 1000000 in
theorem law22_out (h : Blks p w A n c M) (g : Blks q w B m d N) (hbad : 20 < n ∨ 20 < m ∨ n < 4 ∨ 16 < n) : Calls Try.prog 22 #[.slice A n c, .slice B m d] w fun e w' => e = .returned (.bool true) ∧ Below w.heap.size w w' := by
  have hn := h.len
  have hm := g.len
  by_cases h1 : 20 < n
  · clear hbad
    go_enter Try.func22, Try.ntmps22
    go_wp2_with (go_at_call 65; refine (awake04_any _).mono ?_; rintro e w1 ⟨rfl, hb1⟩)
    all_goals (go_ret; exact ⟨rfl, hb1⟩)
  by_cases h2 : 20 < m
  · clear hbad
    go_enter Try.func22, Try.ntmps22
    go_wp2_with (go_at_call 65; refine (awake04_any _).mono ?_; rintro e w1 ⟨rfl, hb1⟩)
    all_goals (go_ret; exact ⟨rfl, hb1⟩)
  have hw : wideB (n : Int) = false := by unfold wideB; simp; omega
  by_cases h3 : n < 4
  · clear hbad
    go_enter Try.func22, Try.ntmps22
    go_wp2_with (first | (go_at_call 65; refine (awake04_any _).mono ?_; rintro e w1 ⟨rfl, hb1⟩; have hh1 := h.below hb1) | (go_at_call 76; (with_reducible refine (syn_arg hh1 hw).mono ?_); rintro e w2 ⟨rfl, rfl⟩))
    all_goals (go_ret; exact ⟨rfl, hb1⟩)
  · have h4 : 16 < n := by omega
    clear hbad
    go_enter Try.func22, Try.ntmps22
    go_wp2_with (first | (go_at_call 65; refine (awake04_any _).mono ?_; rintro e w1 ⟨rfl, hb1⟩; have hh1 := h.below hb1) | (go_at_call 76; (with_reducible refine (syn_arg hh1 hw).mono ?_); rintro e w2 ⟨rfl, rfl⟩))
    all_goals (go_ret; exact ⟨rfl, hb1⟩)
set_option maxRecDepth 100000 in
set_option maxHeartbeats 4000000 in
theorem law22_ne_t (h4 : 4 ≤ wd) (h16 : wd ≤ 16) (h : Blks p w A wd c M) (g : Blks q w B m d N) (h2 : ¬ 20 < m) (hmw : ¬ m = wd) (hcon : M = grpM (M.take (M.length - 3))) : Calls Try.prog 22 #[.slice A wd c, .slice B m d] w fun e w' => e = .returned (.bool true) ∧ Below w.heap.size w w' := by
  have hm := g.len
  have hcap := h.2.le
  have hcap2 := h.2.cap
  unfold maxLen at hcap2
  have t1 : ((m : Int) != (wd : Int)) = true := by simp; omega
  have hn20 : ¬ 20 < wd := by omega
  have hn4 : ¬ wd < 4 := by omega
  have hn16 : ¬ 16 < wd := by omega
  have hmk := mk533
  have hMl := h.1
  have hNl := g.1
  have hdec1 : decide (M = grpM (M.take (wd - 3))) = true := by rw [← hMl]; exact decide_eq_true hcon
  have hdec2 : decide (synM M = zerosM 3) = true := decide_eq_true ((syn_zero_iff (by omega) (fun j hj => h.row (by omega))).1 hcon)
  have hpre := h.pre (k := wd - 3) (by omega)
  have hgr := fun (w' : World) (k : Below w.heap.size w w') => group03_any (hpre.below k) (by omega)
  have e33 : wd - 3 + 3 = wd := by omega
  rw [e33] at hgr
  clear e33 hcon
  replace hdec1 := Lib.hid hdec1
  replace hdec2 := Lib.hid hdec2
  replace hMl := Lib.hid hMl
  replace hNl := Lib.hid hNl
  replace hgr := Lib.hid hgr
  replace hmw := Lib.hid hmw
  go_enter Try.func22, Try.ntmps22
  go_wp2_with (first | (go_at_call 65; refine (awake04_any _).mono ?_; rintro e w1 ⟨rfl, hb1⟩; have hh1 := h.below hb1) | (go_at_call 76; (with_reducible refine (syn_any h4 h16 hh1).mono ?_); rintro e w2 ⟨g1, rfl, hg1, hs2, hb2⟩; have hB2 := below_then2 hb1 hb2; have hh2 := h.below hB2) | (go_at_call 77; (with_reducible refine (rsyn_any h4 h16 hh2).mono ?_); rintro e w3 ⟨g3, rfl, hr3, hb3⟩; have hB3 := below_then2 hB2 hb3; have hs3 := hs2.below hb3) | (go_at_call 74; (with_reducible refine (same03_any hs3 hr3).mono ?_); rw [show decide (synM M = synM M) = true from decide_eq_true rfl]; rintro e w4 ⟨rfl, nd4, rfl⟩; have hB4 := below_drewN hB3 nd4; have hs4 := hs3.drewN nd4) | (go_at_call 78; (with_reducible refine (hgr.out _ hB4).mono ?_); rintro e w5 ⟨A5, c5, rfl, hO5, hb5⟩; have hB5 := below_then2 hB4 hb5; have hs5 := hs4.below hb5; have hh5 := h.below hB5; obtain ⟨A5', c5', e5, hG5⟩ := hO5.blks; cases e5) | (go_at_call 74; (with_reducible refine (same03_any hh5 hG5).mono ?_); rw [hdec1.out]; rintro e w6 ⟨rfl, nd6, rfl⟩; have hB6 := below_drewN hB5 nd6; have hs6 := hs5.drewN nd6; have hz6 : Blks (fun _ => True) ((w5.drewN nd6).alloc (.cells (Array.replicate 24 (.int .u8 0)) 64)) (some ⟨w5.heap.size, 0, none⟩) 3 3 (zerosM 3) := zer3 (w5.drewN nd6); have ha6 : Below (w5.drewN nd6).heap.size (w5.drewN nd6) ((w5.drewN nd6).alloc (.cells (Array.replicate 24 (.int .u8 0)) 64)) := (Below.refl _ _).alloc (Nat.le_refl _) _; have hs7 := hs6.below ha6; have hB7 := below_then2 hB6 ha6) | (go_at_call 74; (with_reducible refine (same03_any hs7 hz6).mono ?_); rw [hdec2.out]; rintro e w8 ⟨rfl, hd8⟩; obtain ⟨nd8, hw8⟩ := hd8; have hB8 : Below w.heap.size w w8 := (by rw [hw8]; exact below_drewN hB7 nd8); have hs8 : Blks (fun _ => True) w8 (some ⟨g1, 0, none⟩) 3 3 (synM M) := (by rw [hw8]; exact hs7.drewN nd8); clear hw8))
  go_ret
  exact ⟨rfl, hB8⟩
set_option maxRecDepth 100000 in
set_option maxHeartbeats 4000000 in
theorem law22_ne_f (h4 : 4 ≤ wd) (h16 : wd ≤ 16) (h : Blks p w A wd c M) (g : Blks q w B m d N) (h2 : ¬ 20 < m) (hmw : ¬ m = wd) (hcon : ¬ M = grpM (M.take (M.length - 3))) : Calls Try.prog 22 #[.slice A wd c, .slice B m d] w fun e w' => e = .returned (.bool true) ∧ Below w.heap.size w w' := by
  have hm := g.len
  have hcap := h.2.le
  have hcap2 := h.2.cap
  unfold maxLen at hcap2
  have t1 : ((m : Int) != (wd : Int)) = true := by simp; omega
  have hn20 : ¬ 20 < wd := by omega
  have hn4 : ¬ wd < 4 := by omega
  have hn16 : ¬ 16 < wd := by omega
  have hmk := mk533
  have hMl := h.1
  have hNl := g.1
  have hdec1 : decide (M = grpM (M.take (wd - 3))) = false := by rw [← hMl]; exact decide_eq_false hcon
  have hdec2 : decide (synM M = zerosM 3) = false := decide_eq_false (fun e => hcon ((syn_zero_iff (by omega) (fun j hj => h.row (by omega))).2 e))
  have hpre := h.pre (k := wd - 3) (by omega)
  have hgr := fun (w' : World) (k : Below w.heap.size w w') => group03_any (hpre.below k) (by omega)
  have e33 : wd - 3 + 3 = wd := by omega
  rw [e33] at hgr
  clear e33 hcon
  replace hdec1 := Lib.hid hdec1
  replace hdec2 := Lib.hid hdec2
  replace hMl := Lib.hid hMl
  replace hNl := Lib.hid hNl
  replace hgr := Lib.hid hgr
  replace hmw := Lib.hid hmw
  go_enter Try.func22, Try.ntmps22
  go_wp2_with (first | (go_at_call 65; refine (awake04_any _).mono ?_; rintro e w1 ⟨rfl, hb1⟩; have hh1 := h.below hb1) | (go_at_call 76; (with_reducible refine (syn_any h4 h16 hh1).mono ?_); rintro e w2 ⟨g1, rfl, hg1, hs2, hb2⟩; have hB2 := below_then2 hb1 hb2; have hh2 := h.below hB2) | (go_at_call 77; (with_reducible refine (rsyn_any h4 h16 hh2).mono ?_); rintro e w3 ⟨g3, rfl, hr3, hb3⟩; have hB3 := below_then2 hB2 hb3; have hs3 := hs2.below hb3) | (go_at_call 74; (with_reducible refine (same03_any hs3 hr3).mono ?_); rw [show decide (synM M = synM M) = true from decide_eq_true rfl]; rintro e w4 ⟨rfl, nd4, rfl⟩; have hB4 := below_drewN hB3 nd4; have hs4 := hs3.drewN nd4) | (go_at_call 78; (with_reducible refine (hgr.out _ hB4).mono ?_); rintro e w5 ⟨A5, c5, rfl, hO5, hb5⟩; have hB5 := below_then2 hB4 hb5; have hs5 := hs4.below hb5; have hh5 := h.below hB5; obtain ⟨A5', c5', e5, hG5⟩ := hO5.blks; cases e5) | (go_at_call 74; (with_reducible refine (same03_any hh5 hG5).mono ?_); rw [hdec1.out]; rintro e w6 ⟨rfl, nd6, rfl⟩; have hB6 := below_drewN hB5 nd6; have hs6 := hs5.drewN nd6; have hz6 : Blks (fun _ => True) ((w5.drewN nd6).alloc (.cells (Array.replicate 24 (.int .u8 0)) 64)) (some ⟨w5.heap.size, 0, none⟩) 3 3 (zerosM 3) := zer3 (w5.drewN nd6); have ha6 : Below (w5.drewN nd6).heap.size (w5.drewN nd6) ((w5.drewN nd6).alloc (.cells (Array.replicate 24 (.int .u8 0)) 64)) := (Below.refl _ _).alloc (Nat.le_refl _) _; have hs7 := hs6.below ha6; have hB7 := below_then2 hB6 ha6) | (go_at_call 74; (with_reducible refine (same03_any hs7 hz6).mono ?_); rw [hdec2.out]; rintro e w8 ⟨rfl, hd8⟩; obtain ⟨nd8, hw8⟩ := hd8; have hB8 : Below w.heap.size w w8 := (by rw [hw8]; exact below_drewN hB7 nd8); have hs8 : Blks (fun _ => True) w8 (some ⟨g1, 0, none⟩) 3 3 (synM M) := (by rw [hw8]; exact hs7.drewN nd8); clear hw8))
  go_ret
  exact ⟨rfl, hB8⟩
set_option maxRecDepth 100000 in
set_option maxHeartbeats 4000000 in
theorem law22_eq_t (h4 : 4 ≤ wd) (h16 : wd ≤ 16) (h : Blks p w A wd c M) (g : Blks q w B wd d N) (h2 : ¬ 20 < wd) (hcon : M = grpM (M.take (M.length - 3))) : Calls Try.prog 22 #[.slice A wd c, .slice B wd d] w fun e w' => e = .returned (.bool true) ∧ Below w.heap.size w w' := by
  have hm := g.len
  have hcap := h.2.le
  have hcap2 := h.2.cap
  unfold maxLen at hcap2
  have t1 : ((wd : Int) != (wd : Int)) = false := by simp
  have hn20 : ¬ 20 < wd := by omega
  have hn4 : ¬ wd < 4 := by omega
  have hn16 : ¬ 16 < wd := by omega
  have hmk := mk533
  have hMl := h.1
  have hNl := g.1
  have hdec1 : decide (M = grpM (M.take (wd - 3))) = true := by rw [← hMl]; exact decide_eq_true hcon
  have hdec2 : decide (synM M = zerosM 3) = true := decide_eq_true ((syn_zero_iff (by omega) (fun j hj => h.row (by omega))).1 hcon)
  have hpre := h.pre (k := wd - 3) (by omega)
  have hgr := fun (w' : World) (k : Below w.heap.size w w') => group03_any (hpre.below k) (by omega)
  have e33 : wd - 3 + 3 = wd := by omega
  rw [e33] at hgr
  clear e33 hcon
  replace hdec1 := Lib.hid hdec1
  replace hdec2 := Lib.hid hdec2
  replace hMl := Lib.hid hMl
  replace hNl := Lib.hid hNl
  replace hgr := Lib.hid hgr
  go_enter Try.func22, Try.ntmps22
  go_wp2_with (first | (go_at_call 65; refine (awake04_any _).mono ?_; rintro e w1 ⟨rfl, hb1⟩; have hh1 := h.below hb1) | (go_at_call 76; (with_reducible refine (syn_any h4 h16 hh1).mono ?_); rintro e w2 ⟨g1, rfl, hg1, hs2, hb2⟩; have hB2 := below_then2 hb1 hb2; have hh2 := h.below hB2) | (go_at_call 77; (with_reducible refine (rsyn_any h4 h16 hh2).mono ?_); rintro e w3 ⟨g3, rfl, hr3, hb3⟩; have hB3 := below_then2 hB2 hb3; have hs3 := hs2.below hb3) | (go_at_call 74; (with_reducible refine (same03_any hs3 hr3).mono ?_); rw [show decide (synM M = synM M) = true from decide_eq_true rfl]; rintro e w4 ⟨rfl, nd4, rfl⟩; have hB4 := below_drewN hB3 nd4; have hs4 := hs3.drewN nd4) | (go_at_call 78; (with_reducible refine (hgr.out _ hB4).mono ?_); rintro e w5 ⟨A5, c5, rfl, hO5, hb5⟩; have hB5 := below_then2 hB4 hb5; have hs5 := hs4.below hb5; have hh5 := h.below hB5; obtain ⟨A5', c5', e5, hG5⟩ := hO5.blks; cases e5) | (go_at_call 74; (with_reducible refine (same03_any hh5 hG5).mono ?_); rw [hdec1.out]; rintro e w6 ⟨rfl, nd6, rfl⟩; have hB6 := below_drewN hB5 nd6; have hs6 := hs5.drewN nd6; have hz6 : Blks (fun _ => True) ((w5.drewN nd6).alloc (.cells (Array.replicate 24 (.int .u8 0)) 64)) (some ⟨w5.heap.size, 0, none⟩) 3 3 (zerosM 3) := zer3 (w5.drewN nd6); have ha6 : Below (w5.drewN nd6).heap.size (w5.drewN nd6) ((w5.drewN nd6).alloc (.cells (Array.replicate 24 (.int .u8 0)) 64)) := (Below.refl _ _).alloc (Nat.le_refl _) _; have hs7 := hs6.below ha6; have hB7 := below_then2 hB6 ha6) | (go_at_call 74; (with_reducible refine (same03_any hs7 hz6).mono ?_); rw [hdec2.out]; rintro e w8 ⟨rfl, hd8⟩; obtain ⟨nd8, hw8⟩ := hd8; have hB8 : Below w.heap.size w w8 := (by rw [hw8]; exact below_drewN hB7 nd8); have hs8 : Blks (fun _ => True) w8 (some ⟨g1, 0, none⟩) 3 3 (synM M) := (by rw [hw8]; exact hs7.drewN nd8); clear hw8))
  have hM8 := h.below hB8
  have hN8 := g.below hB8
  obtain ⟨b1, o1, rfl, _, hlt1, hc1⟩ := hM8.agg (by omega)
  obtain ⟨b2, o2, rfl, _, hlt2, hc2⟩ := hN8.agg (by omega)
  replace hc1 := Lib.hid hc1
  replace hc2 := Lib.hid hc2
  go_loopw [8, 9] (fun v x wr => ∃ (i : Nat) (A8 : Option Addr) (c8 : Nat), i ≤ wd ∧ v = .slice A8 i c8 ∧ x = .int .i64 i ∧ OwnB wr w8.heap.size v i (sumM M N i) ∧ Below w8.heap.size w8 wr) (fun _ x _ => wd - (intOf x).toNat)
  case atStart => exact ⟨0, none, 0, by omega, rfl, rfl, OwnB.nil _ _, Below.refl _ _⟩
  case round =>
    obtain ⟨i, A8, c8, hi, rfl, rfl, ho, hbw⟩ := hrel
    by_cases hlti : i < wd
    · have hlm := h.row hlti
      have hln := g.row hlti
      have hx8 : (agc (xorB (mrow M i) (mrow N i))).size = 8 := by rw [agc_size, xorB_length]
      have d1 : (0 : Int) ≤ (i : Int) := Int.natCast_nonneg _
      have d2 : (i : Int) < (wd : Int) := by omega
      go_wp2
      refine AnyE.region (fun w' => Below w8.heap.size w8 w') 12 (by kernel_rfl) ?_
      have hC : ∀ W', Below w8.heap.size w8 W' → (∀ k, k < 8 → W'.cell? ⟨b1, o1 + i * 8 + k, none⟩ = (agc (mrow M i))[k]?) ∧ (∀ k, k < 8 → W'.cell? ⟨b2, o2 + i * 8 + k, none⟩ = (agc (mrow N i))[k]?) := fun W' hW => ⟨fun j hj => (hW.cell (p := ⟨b1, o1 + i * 8 + j, none⟩) hlt1).trans (hc1.out i hlti j hj), fun j hj => (hW.cell (p := ⟨b2, o2 + i * 8 + j, none⟩) hlt2).trans (hc2.out i hlti j hj)⟩
      have hO := ho.below (show Below wr.heap.size wr wr.drew from below_drewN (Below.refl _ _) 1)
      have hH : Below w8.heap.size w8 wr.drew := below_drewN hbw 1
      refine AnyE.take0 0 (v := ?_) rfl (by decide) (by kernel_rfl) (by kernel_rfl) (by kernel_rfl) (by kernel_rfl) (fun _ _ _ h => h) (by rfl) (fun _ => hH) ?_ ?_
      rotate_left; · (intro w; go_simp; try with_reducible rfl)
      (try simp only [List.getElem_toArray, List.getElem_cons_succ, List.getElem_cons_zero, Act.put, List.setIfInBounds_toArray, List.set_cons_zero, List.set_cons_succ])
      refine AnyE.take0 1 (v := ?_) rfl (by decide) (by kernel_rfl) (by kernel_rfl) (by kernel_rfl) (by kernel_rfl) (fun _ _ _ h => h) (by rfl) (fun _ => hH) ?_ ?_
      rotate_left; · (intro w; go_simp; try with_reducible rfl)
      (try simp only [List.getElem_toArray, List.getElem_cons_succ, List.getElem_cons_zero, Act.put, List.setIfInBounds_toArray, List.set_cons_zero, List.set_cons_succ])
      refine AnyE.take0 2 (v := ?_) rfl (by decide) (by kernel_rfl) (by kernel_rfl) (by kernel_rfl) (by kernel_rfl) (fun _ _ _ h => h) (by rfl) (fun _ => hH) ?_ ?_
      rotate_left; · (intro w; go_simp; try with_reducible rfl)
      (try simp only [List.getElem_toArray, List.getElem_cons_succ, List.getElem_cons_zero, Act.put, List.setIfInBounds_toArray, List.set_cons_zero, List.set_cons_succ])
      refine AnyE.take0 3 (v := ?_) rfl (by decide) (by kernel_rfl) (by kernel_rfl) (by kernel_rfl) (by kernel_rfl) (fun _ _ _ h => h) (by rfl) (fun _ => hH) ?_ ?_
      rotate_left; · (intro w; go_simp; try with_reducible rfl)
      (try simp only [List.getElem_toArray, List.getElem_cons_succ, List.getElem_cons_zero, Act.put, List.setIfInBounds_toArray, List.set_cons_zero, List.set_cons_succ])
      refine AnyE.take 4 [4] (v := ?_) rfl (by decide) (by kernel_rfl) (by kernel_rfl) (by kernel_rfl) (by kernel_rfl) (by kernel_rfl) (by kernel_rfl) (fun _ _ _ h => h) (by rfl) hH ?_ ?_
      rotate_left; · (intro wz hSw; simp only [List.getElem_toArray, List.getElem_cons_succ, List.getElem_cons_zero, Act.put, List.setIfInBounds_toArray, List.set_cons_zero, List.set_cons_succ]; refine exec_load_agg (x := .tmp 81) (b := b1) (off := o1 + i * 8) ?_ ?_ Try.underlying64 rfl (info64' hlm) (fun k hk => (hC _ hSw).1 k (by rwa [agc_size, hlm] at hk)); rfl; rfl)
      (try simp only [List.getElem_toArray, List.getElem_cons_succ, List.getElem_cons_zero, Act.put, List.setIfInBounds_toArray, List.set_cons_zero, List.set_cons_succ])
      refine AnyE.take0 5 (v := ?_) rfl (by decide) (by kernel_rfl) (by kernel_rfl) (by kernel_rfl) (by kernel_rfl) (fun _ _ _ h => h) (by rfl) (fun _ => hH) ?_ ?_
      rotate_left; · (intro w; go_simp; try with_reducible rfl)
      (try simp only [List.getElem_toArray, List.getElem_cons_succ, List.getElem_cons_zero, Act.put, List.setIfInBounds_toArray, List.set_cons_zero, List.set_cons_succ])
      refine AnyE.take0 6 (v := ?_) rfl (by decide) (by kernel_rfl) (by kernel_rfl) (by kernel_rfl) (by kernel_rfl) (fun _ _ _ h => h) (by rfl) (fun _ => hH) ?_ ?_
      rotate_left; · (intro w; go_simp; try with_reducible rfl)
      (try simp only [List.getElem_toArray, List.getElem_cons_succ, List.getElem_cons_zero, Act.put, List.setIfInBounds_toArray, List.set_cons_zero, List.set_cons_succ])
      refine AnyE.take0 7 (v := ?_) rfl (by decide) (by kernel_rfl) (by kernel_rfl) (by kernel_rfl) (by kernel_rfl) (fun _ _ _ h => h) (by rfl) (fun _ => hH) ?_ ?_
      rotate_left; · (intro w; go_simp; try with_reducible rfl)
      (try simp only [List.getElem_toArray, List.getElem_cons_succ, List.getElem_cons_zero, Act.put, List.setIfInBounds_toArray, List.set_cons_zero, List.set_cons_succ])
      refine AnyE.take 8 [8] (v := ?_) rfl (by decide) (by kernel_rfl) (by kernel_rfl) (by kernel_rfl) (by kernel_rfl) (by kernel_rfl) (by kernel_rfl) (fun _ _ _ h => h) (by rfl) hH ?_ ?_
      rotate_left; · (intro wz hSw; simp only [List.getElem_toArray, List.getElem_cons_succ, List.getElem_cons_zero, Act.put, List.setIfInBounds_toArray, List.set_cons_zero, List.set_cons_succ]; refine exec_load_agg (x := .tmp 85) (b := b2) (off := o2 + i * 8) ?_ ?_ Try.underlying64 rfl (info64' hln) (fun k hk => (hC _ hSw).2 k (by rwa [agc_size, hln] at hk)); rfl; rfl)
      (try simp only [List.getElem_toArray, List.getElem_cons_succ, List.getElem_cons_zero, Act.put, List.setIfInBounds_toArray, List.set_cons_zero, List.set_cons_succ])
      refine AnyE.one 9 rfl (by kernel_rfl) (fun K hK => ?_)
      rw [if_pos (show _ = true by rfl)]
      go_simp
      go_at_call 79; (with_reducible refine (xor_any hlm hln _).mono ?_); rintro e w9 ⟨rfl, hb9⟩
      replace hH := below_then2 hH hb9
      replace hO := hO.below hb9
      refine hK.out _ _ (fun _ => hH) ?_
      clear hK K
      (try simp only [List.getElem_toArray, List.getElem_cons_succ, List.getElem_cons_zero, Act.put, List.setIfInBounds_toArray, List.set_cons_zero, List.set_cons_succ])
      refine AnyE.one 10 rfl (by kernel_rfl) (fun K hK => ?_)
      have b10 := (Below.refl w9.heap.size w9).alloc (Nat.le_refl _) (.cells (agc (xorB (mrow M i) (mrow N i))) 64)
      have o10 := elm_one (w := w9) (agc (xorB (mrow M i) (mrow N i))) 64 hx8 (agc_one _)
      refine step_build1_agg (by rfl) (by rfl) Try.underlying53 info64f (by decide) (by decide) (by rfl) hx8 ?_
      replace hH := below_then2 hH b10
      replace hO := hO.below b10
      refine hK.out _ _ (fun _ => hH) ?_
      clear hK K
      (try simp only [List.getElem_toArray, List.getElem_cons_succ, List.getElem_cons_zero, Act.put, List.setIfInBounds_toArray, List.set_cons_zero, List.set_cons_succ])
      generalize hW10 : w9.alloc (.cells (agc (xorB (mrow M i) (mrow N i))) 64) = w10 at *
      clear hW10 b10
      refine AnyE.one 11 rfl (by kernel_rfl) (fun K hK => ?_)
      refine step_append_elm (by rfl) (by rfl) Try.underlying53 info64f rfl (by decide) (by rfl) hO.own (by rfl) o10 (by unfold maxLen; omega) (by omega) hH.size ?_
      intro v11 w11 own11 hgr11 hor11
      have hO11 : OwnB w11 w8.heap.size v11 (i + 1) (sumM M N (i + 1)) := by rw [sumM_succ]; exact hO.push (xorB_length _ _) (by rw [← flatE_single]; exact own11)
      replace hH : Below w8.heap.size w8 w11 := hH.grown hgr11 hH.size (fun k e => ownge hO k e)
      obtain ⟨A11, c11, rfl, _⟩ := hO11.blks
      refine hK.out _ _ (fun _ => hH) ?_
      clear hK K
      (try simp only [List.getElem_toArray, List.getElem_cons_succ, List.getElem_cons_zero, Act.put, List.setIfInBounds_toArray, List.set_cons_zero, List.set_cons_succ])
      refine AnyE.one 12 rfl (by kernel_rfl) (fun K hK => ?_)
      go_simp
      refine hK.out _ _ (fun e => Bool.noConfusion (show true = false from e)) ?_
      clear hK K
      (try simp only [List.getElem_toArray, List.getElem_cons_succ, List.getElem_cons_zero, Act.put, List.setIfInBounds_toArray, List.set_cons_zero, List.set_cons_succ])
      refine AnyE.done (by kernel_rfl) ?_ _
      go_wp2
      go_roundw
      case rel => exact ⟨i + 1, A11, c11, by omega, rfl, by go_num, hO11, hH⟩
      case measure => simp [intOf]; omega
    · obtain rfl : i = wd := by omega
      obtain ⟨A8', c8', e8, hSm⟩ := ho.blks
      cases e8
      obtain ⟨SS, hSS⟩ : ∃ SS, SS = sumM M N i := ⟨_, rfl⟩
      rw [← hSS] at hSm
      have hs9 := hs8.below hbw
      have hN9 := hN8.below hbw
      have hB9 := below_then2 hB8 hbw
      have hadd : Hid (∀ j, j < 3 → mrow (synM SS) j = xorB (mrow (synM M) j) (mrow (synM N) j)) := fun j hj => by
        have := syn_add (M := M) (N := N) (n := i - 3) (by rw [hMl.out]; omega) (by rw [hNl.out]; omega) hj
        rw [show i - 3 + 3 = i by omega] at this
        rw [hSS]
        exact this
      replace hSS := Lib.hid hSS
      obtain ⟨wo, rfl⟩ : ∃ wo : World, wo = wr := ⟨_, rfl⟩
      go_wp2_with (first | (go_at_call 76; (with_reducible refine (syn_any h4 h16 hN9).mono ?_); rintro e w10 ⟨g2, rfl, hg2, hn10, hb10⟩; have hB10 := below_then2 hB9 hb10; have hs10 := hs9.below hb10; have hSm10 := hSm.below hb10) | (go_at_call 76; (with_reducible refine (syn_any h4 h16 hSm10).mono ?_); rintro e w11 ⟨g3, rfl, hg3, hu11, hb11⟩; have hB11 := below_then2 hB10 hb11; have hs11 := hs10.below hb11; have hn11 := hn10.below hb11))
      go_loopw [14] (fun x wr => ∃ j : Nat, j ≤ 3 ∧ x = .int .i64 j ∧ Blks (fun _ => True) wr (some ⟨g1, 0, none⟩) 3 3 (synM M) ∧ Blks (fun _ => True) wr (some ⟨g2, 0, none⟩) 3 3 (synM N) ∧ Blks (fun _ => True) wr (some ⟨g3, 0, none⟩) 3 3 (synM SS) ∧ Below w.heap.size w wr) (fun x _ => 3 - (intOf x).toNat)
      case atStart => exact ⟨0, by omega, rfl, hs11, hn11, hu11, hB11⟩
      case round =>
        obtain ⟨j, hj, rfl, hs1, hs2, hs3, hbw2⟩ := hrel
        replace hbw := hbw2
        by_cases hlt : j < 3
        · have hl1 := synM_row M hlt
          have hl2 := synM_row N hlt
          have hl3 := synM_row SS hlt
          have hne := fun w => neq64 hl3 (xorB_length (mrow (synM M) j) (mrow (synM N) j)) w
          rw [decide_eq_true (hadd.out j hlt)] at hne
          have d1 : (0 : Int) ≤ (j : Int) := Int.natCast_nonneg _
          have d2 : (j : Int) < 3 := by omega
          go_wp2
          refine AnyE.region (fun w' => Blks (fun _ => True) w' (some ⟨g1, 0, none⟩) 3 3 (synM M) ∧ Blks (fun _ => True) w' (some ⟨g2, 0, none⟩) 3 3 (synM N) ∧ Blks (fun _ => True) w' (some ⟨g3, 0, none⟩) 3 3 (synM SS)) 13 (by kernel_rfl) ?_
          have kd : Below wr.heap.size wr wr.drew := below_drewN (Below.refl _ _) 1
          have hH := And.intro (hs1.below kd) (And.intro (hs2.below kd) (hs3.below kd))
          have hBB := below_then2 hbw kd
          refine AnyE.take0 0 (v := ?_) rfl (by decide) (by kernel_rfl) (by kernel_rfl) (by kernel_rfl) (by kernel_rfl) (fun _ _ _ h => h) (by rfl) (fun _ => hH) ?_ ?_
          rotate_left; · (intro w; go_simp; try with_reducible rfl)
          (try simp only [List.getElem_toArray, List.getElem_cons_succ, List.getElem_cons_zero, Act.put, List.setIfInBounds_toArray, List.set_cons_zero, List.set_cons_succ])
          refine AnyE.take0 1 (v := ?_) rfl (by decide) (by kernel_rfl) (by kernel_rfl) (by kernel_rfl) (by kernel_rfl) (fun _ _ _ h => h) (by rfl) (fun _ => hH) ?_ ?_
          rotate_left; · (intro w; go_simp; try with_reducible rfl)
          (try simp only [List.getElem_toArray, List.getElem_cons_succ, List.getElem_cons_zero, Act.put, List.setIfInBounds_toArray, List.set_cons_zero, List.set_cons_succ])
          refine AnyE.take0 2 (v := ?_) rfl (by decide) (by kernel_rfl) (by kernel_rfl) (by kernel_rfl) (by kernel_rfl) (fun _ _ _ h => h) (by rfl) (fun _ => hH) ?_ ?_
          rotate_left; · (intro w; go_simp; try with_reducible rfl)
          (try simp only [List.getElem_toArray, List.getElem_cons_succ, List.getElem_cons_zero, Act.put, List.setIfInBounds_toArray, List.set_cons_zero, List.set_cons_succ])
          refine AnyE.take 3 [3] (v := ?_) rfl (by decide) (by kernel_rfl) (by kernel_rfl) (by kernel_rfl) (by kernel_rfl) (by kernel_rfl) (by kernel_rfl) (fun _ _ _ h => h) (by rfl) hH ?_ ?_
          rotate_left; · (intro wz hSw; simp only [List.getElem_toArray, List.getElem_cons_succ, List.getElem_cons_zero, Act.put, List.setIfInBounds_toArray, List.set_cons_zero, List.set_cons_succ]; refine exec_load_agg (x := .tmp 122) (b := g3) (off := j * 8) ?_ ?_ Try.underlying64 rfl (info64' hl3) (fun k hk => synrow hSw.2.2 hlt (by rwa [agc_size, hl3] at hk)); rfl; rfl)
          (try simp only [List.getElem_toArray, List.getElem_cons_succ, List.getElem_cons_zero, Act.put, List.setIfInBounds_toArray, List.set_cons_zero, List.set_cons_succ])
          refine AnyE.take0 4 (v := ?_) rfl (by decide) (by kernel_rfl) (by kernel_rfl) (by kernel_rfl) (by kernel_rfl) (fun _ _ _ h => h) (by rfl) (fun _ => hH) ?_ ?_
          rotate_left; · (intro w; go_simp; try with_reducible rfl)
          (try simp only [List.getElem_toArray, List.getElem_cons_succ, List.getElem_cons_zero, Act.put, List.setIfInBounds_toArray, List.set_cons_zero, List.set_cons_succ])
          refine AnyE.take0 5 (v := ?_) rfl (by decide) (by kernel_rfl) (by kernel_rfl) (by kernel_rfl) (by kernel_rfl) (fun _ _ _ h => h) (by rfl) (fun _ => hH) ?_ ?_
          rotate_left; · (intro w; go_simp; try with_reducible rfl)
          (try simp only [List.getElem_toArray, List.getElem_cons_succ, List.getElem_cons_zero, Act.put, List.setIfInBounds_toArray, List.set_cons_zero, List.set_cons_succ])
          refine AnyE.take0 6 (v := ?_) rfl (by decide) (by kernel_rfl) (by kernel_rfl) (by kernel_rfl) (by kernel_rfl) (fun _ _ _ h => h) (by rfl) (fun _ => hH) ?_ ?_
          rotate_left; · (intro w; go_simp; try with_reducible rfl)
          (try simp only [List.getElem_toArray, List.getElem_cons_succ, List.getElem_cons_zero, Act.put, List.setIfInBounds_toArray, List.set_cons_zero, List.set_cons_succ])
          refine AnyE.take 7 [12, 7] (v := ?_) rfl (by decide) (by kernel_rfl) (by kernel_rfl) (by kernel_rfl) (by kernel_rfl) (by kernel_rfl) (by kernel_rfl) (fun _ _ _ h => h) (by rfl) hH ?_ ?_
          rotate_left; · (intro wz hSw; simp only [List.getElem_toArray, List.getElem_cons_succ, List.getElem_cons_zero, Act.put, List.setIfInBounds_toArray, List.set_cons_zero, List.set_cons_succ]; refine exec_load_agg (x := .tmp 126) (b := g1) (off := j * 8) ?_ ?_ Try.underlying64 rfl (info64' hl1) (fun k hk => synrow hSw.1 hlt (by rwa [agc_size, hl1] at hk)); rfl; rfl)
          (try simp only [List.getElem_toArray, List.getElem_cons_succ, List.getElem_cons_zero, Act.put, List.setIfInBounds_toArray, List.set_cons_zero, List.set_cons_succ])
          refine AnyE.take0 8 (v := ?_) rfl (by decide) (by kernel_rfl) (by kernel_rfl) (by kernel_rfl) (by kernel_rfl) (fun _ _ _ h => h) (by rfl) (fun _ => hH) ?_ ?_
          rotate_left; · (intro w; go_simp; try with_reducible rfl)
          (try simp only [List.getElem_toArray, List.getElem_cons_succ, List.getElem_cons_zero, Act.put, List.setIfInBounds_toArray, List.set_cons_zero, List.set_cons_succ])
          refine AnyE.take0 9 (v := ?_) rfl (by decide) (by kernel_rfl) (by kernel_rfl) (by kernel_rfl) (by kernel_rfl) (fun _ _ _ h => h) (by rfl) (fun _ => hH) ?_ ?_
          rotate_left; · (intro w; go_simp; try with_reducible rfl)
          (try simp only [List.getElem_toArray, List.getElem_cons_succ, List.getElem_cons_zero, Act.put, List.setIfInBounds_toArray, List.set_cons_zero, List.set_cons_succ])
          refine AnyE.take0 10 (v := ?_) rfl (by decide) (by kernel_rfl) (by kernel_rfl) (by kernel_rfl) (by kernel_rfl) (fun _ _ _ h => h) (by rfl) (fun _ => hH) ?_ ?_
          rotate_left; · (intro w; go_simp; try with_reducible rfl)
          (try simp only [List.getElem_toArray, List.getElem_cons_succ, List.getElem_cons_zero, Act.put, List.setIfInBounds_toArray, List.set_cons_zero, List.set_cons_succ])
          refine AnyE.take 11 [12, 11] (v := ?_) rfl (by decide) (by kernel_rfl) (by kernel_rfl) (by kernel_rfl) (by kernel_rfl) (by kernel_rfl) (by kernel_rfl) (fun _ _ _ h => h) (by rfl) hH ?_ ?_
          rotate_left; · (intro wz hSw; simp only [List.getElem_toArray, List.getElem_cons_succ, List.getElem_cons_zero, Act.put, List.setIfInBounds_toArray, List.set_cons_zero, List.set_cons_succ]; refine exec_load_agg (x := .tmp 130) (b := g2) (off := j * 8) ?_ ?_ Try.underlying64 rfl (info64' hl2) (fun k hk => synrow hSw.2.1 hlt (by rwa [agc_size, hl2] at hk)); rfl; rfl)
          (try simp only [List.getElem_toArray, List.getElem_cons_succ, List.getElem_cons_zero, Act.put, List.setIfInBounds_toArray, List.set_cons_zero, List.set_cons_succ])
          refine AnyE.one 12 rfl (by kernel_rfl) (fun K hK => ?_)
          rw [if_pos (show _ = true by rfl)]
          go_simp
          go_at_call 79; (with_reducible refine (xor_any hl1 hl2 _).mono ?_); rintro e w12 ⟨rfl, hb12⟩
          replace hH := And.intro (hH.1.below hb12) (And.intro (hH.2.1.below hb12) (hH.2.2.below hb12))
          replace hBB := below_then2 hBB hb12
          refine hK.out _ _ (fun _ => hH) ?_
          clear hK K
          (try simp only [List.getElem_toArray, List.getElem_cons_succ, List.getElem_cons_zero, Act.put, List.setIfInBounds_toArray, List.set_cons_zero, List.set_cons_succ])
          refine AnyE.one 13 rfl (by kernel_rfl) (fun K hK => ?_)
          rw [if_pos (show _ = true by rfl)]
          (try simp only [List.getElem_toArray, List.getElem_cons_succ, List.getElem_cons_zero, Act.put, List.setIfInBounds_toArray, List.set_cons_zero, List.set_cons_succ])
          refine wp_of_exec (exec_binL (t2 := 64) (x := .tmp 123) (y := .tmp 132) (r := .bool false) hne (guard64 _ _ _ _ _) (by rfl) (by rfl) (by rfl)) ?_
          refine hK.out _ _ (fun e => Bool.noConfusion (show true = false from e)) ?_
          clear hK K
          (try simp only [List.getElem_toArray, List.getElem_cons_succ, List.getElem_cons_zero, Act.put, List.setIfInBounds_toArray, List.set_cons_zero, List.set_cons_succ])
          refine AnyE.done (by kernel_rfl) ?_ _
          go_wp2
          go_roundw
          case rel => exact ⟨j + 1, by omega, by go_num, hH.1, hH.2.1, hH.2.2, hBB⟩
          case measure => simp [intOf]; omega
        · obtain rfl : j = 3 := by omega
          go_wp2
          go_ret
          exact ⟨rfl, hbw⟩
set_option maxRecDepth 100000 in
set_option maxHeartbeats 4000000 in
theorem law22_eq_f (h4 : 4 ≤ wd) (h16 : wd ≤ 16) (h : Blks p w A wd c M) (g : Blks q w B wd d N) (h2 : ¬ 20 < wd) (hcon : ¬ M = grpM (M.take (M.length - 3))) : Calls Try.prog 22 #[.slice A wd c, .slice B wd d] w fun e w' => e = .returned (.bool true) ∧ Below w.heap.size w w' := by
  have hm := g.len
  have hcap := h.2.le
  have hcap2 := h.2.cap
  unfold maxLen at hcap2
  have t1 : ((wd : Int) != (wd : Int)) = false := by simp
  have hn20 : ¬ 20 < wd := by omega
  have hn4 : ¬ wd < 4 := by omega
  have hn16 : ¬ 16 < wd := by omega
  have hmk := mk533
  have hMl := h.1
  have hNl := g.1
  have hdec1 : decide (M = grpM (M.take (wd - 3))) = false := by rw [← hMl]; exact decide_eq_false hcon
  have hdec2 : decide (synM M = zerosM 3) = false := decide_eq_false (fun e => hcon ((syn_zero_iff (by omega) (fun j hj => h.row (by omega))).2 e))
  have hpre := h.pre (k := wd - 3) (by omega)
  have hgr := fun (w' : World) (k : Below w.heap.size w w') => group03_any (hpre.below k) (by omega)
  have e33 : wd - 3 + 3 = wd := by omega
  rw [e33] at hgr
  clear e33 hcon
  replace hdec1 := Lib.hid hdec1
  replace hdec2 := Lib.hid hdec2
  replace hMl := Lib.hid hMl
  replace hNl := Lib.hid hNl
  replace hgr := Lib.hid hgr
  go_enter Try.func22, Try.ntmps22
  go_wp2_with (first | (go_at_call 65; refine (awake04_any _).mono ?_; rintro e w1 ⟨rfl, hb1⟩; have hh1 := h.below hb1) | (go_at_call 76; (with_reducible refine (syn_any h4 h16 hh1).mono ?_); rintro e w2 ⟨g1, rfl, hg1, hs2, hb2⟩; have hB2 := below_then2 hb1 hb2; have hh2 := h.below hB2) | (go_at_call 77; (with_reducible refine (rsyn_any h4 h16 hh2).mono ?_); rintro e w3 ⟨g3, rfl, hr3, hb3⟩; have hB3 := below_then2 hB2 hb3; have hs3 := hs2.below hb3) | (go_at_call 74; (with_reducible refine (same03_any hs3 hr3).mono ?_); rw [show decide (synM M = synM M) = true from decide_eq_true rfl]; rintro e w4 ⟨rfl, nd4, rfl⟩; have hB4 := below_drewN hB3 nd4; have hs4 := hs3.drewN nd4) | (go_at_call 78; (with_reducible refine (hgr.out _ hB4).mono ?_); rintro e w5 ⟨A5, c5, rfl, hO5, hb5⟩; have hB5 := below_then2 hB4 hb5; have hs5 := hs4.below hb5; have hh5 := h.below hB5; obtain ⟨A5', c5', e5, hG5⟩ := hO5.blks; cases e5) | (go_at_call 74; (with_reducible refine (same03_any hh5 hG5).mono ?_); rw [hdec1.out]; rintro e w6 ⟨rfl, nd6, rfl⟩; have hB6 := below_drewN hB5 nd6; have hs6 := hs5.drewN nd6; have hz6 : Blks (fun _ => True) ((w5.drewN nd6).alloc (.cells (Array.replicate 24 (.int .u8 0)) 64)) (some ⟨w5.heap.size, 0, none⟩) 3 3 (zerosM 3) := zer3 (w5.drewN nd6); have ha6 : Below (w5.drewN nd6).heap.size (w5.drewN nd6) ((w5.drewN nd6).alloc (.cells (Array.replicate 24 (.int .u8 0)) 64)) := (Below.refl _ _).alloc (Nat.le_refl _) _; have hs7 := hs6.below ha6; have hB7 := below_then2 hB6 ha6) | (go_at_call 74; (with_reducible refine (same03_any hs7 hz6).mono ?_); rw [hdec2.out]; rintro e w8 ⟨rfl, hd8⟩; obtain ⟨nd8, hw8⟩ := hd8; have hB8 : Below w.heap.size w w8 := (by rw [hw8]; exact below_drewN hB7 nd8); have hs8 : Blks (fun _ => True) w8 (some ⟨g1, 0, none⟩) 3 3 (synM M) := (by rw [hw8]; exact hs7.drewN nd8); clear hw8))
  have hM8 := h.below hB8
  have hN8 := g.below hB8
  obtain ⟨b1, o1, rfl, _, hlt1, hc1⟩ := hM8.agg (by omega)
  obtain ⟨b2, o2, rfl, _, hlt2, hc2⟩ := hN8.agg (by omega)
  replace hc1 := Lib.hid hc1
  replace hc2 := Lib.hid hc2
  go_loopw [8, 9] (fun v x wr => ∃ (i : Nat) (A8 : Option Addr) (c8 : Nat), i ≤ wd ∧ v = .slice A8 i c8 ∧ x = .int .i64 i ∧ OwnB wr w8.heap.size v i (sumM M N i) ∧ Below w8.heap.size w8 wr) (fun _ x _ => wd - (intOf x).toNat)
  case atStart => exact ⟨0, none, 0, by omega, rfl, rfl, OwnB.nil _ _, Below.refl _ _⟩
  case round =>
    obtain ⟨i, A8, c8, hi, rfl, rfl, ho, hbw⟩ := hrel
    by_cases hlti : i < wd
    · have hlm := h.row hlti
      have hln := g.row hlti
      have hx8 : (agc (xorB (mrow M i) (mrow N i))).size = 8 := by rw [agc_size, xorB_length]
      have d1 : (0 : Int) ≤ (i : Int) := Int.natCast_nonneg _
      have d2 : (i : Int) < (wd : Int) := by omega
      go_wp2
      refine AnyE.region (fun w' => Below w8.heap.size w8 w') 12 (by kernel_rfl) ?_
      have hC : ∀ W', Below w8.heap.size w8 W' → (∀ k, k < 8 → W'.cell? ⟨b1, o1 + i * 8 + k, none⟩ = (agc (mrow M i))[k]?) ∧ (∀ k, k < 8 → W'.cell? ⟨b2, o2 + i * 8 + k, none⟩ = (agc (mrow N i))[k]?) := fun W' hW => ⟨fun j hj => (hW.cell (p := ⟨b1, o1 + i * 8 + j, none⟩) hlt1).trans (hc1.out i hlti j hj), fun j hj => (hW.cell (p := ⟨b2, o2 + i * 8 + j, none⟩) hlt2).trans (hc2.out i hlti j hj)⟩
      have hO := ho.below (show Below wr.heap.size wr wr.drew from below_drewN (Below.refl _ _) 1)
      have hH : Below w8.heap.size w8 wr.drew := below_drewN hbw 1
      refine AnyE.take0 0 (v := ?_) rfl (by decide) (by kernel_rfl) (by kernel_rfl) (by kernel_rfl) (by kernel_rfl) (fun _ _ _ h => h) (by rfl) (fun _ => hH) ?_ ?_
      rotate_left; · (intro w; go_simp; try with_reducible rfl)
      (try simp only [List.getElem_toArray, List.getElem_cons_succ, List.getElem_cons_zero, Act.put, List.setIfInBounds_toArray, List.set_cons_zero, List.set_cons_succ])
      refine AnyE.take0 1 (v := ?_) rfl (by decide) (by kernel_rfl) (by kernel_rfl) (by kernel_rfl) (by kernel_rfl) (fun _ _ _ h => h) (by rfl) (fun _ => hH) ?_ ?_
      rotate_left; · (intro w; go_simp; try with_reducible rfl)
      (try simp only [List.getElem_toArray, List.getElem_cons_succ, List.getElem_cons_zero, Act.put, List.setIfInBounds_toArray, List.set_cons_zero, List.set_cons_succ])
      refine AnyE.take0 2 (v := ?_) rfl (by decide) (by kernel_rfl) (by kernel_rfl) (by kernel_rfl) (by kernel_rfl) (fun _ _ _ h => h) (by rfl) (fun _ => hH) ?_ ?_
      rotate_left; · (intro w; go_simp; try with_reducible rfl)
      (try simp only [List.getElem_toArray, List.getElem_cons_succ, List.getElem_cons_zero, Act.put, List.setIfInBounds_toArray, List.set_cons_zero, List.set_cons_succ])
      refine AnyE.take0 3 (v := ?_) rfl (by decide) (by kernel_rfl) (by kernel_rfl) (by kernel_rfl) (by kernel_rfl) (fun _ _ _ h => h) (by rfl) (fun _ => hH) ?_ ?_
      rotate_left; · (intro w; go_simp; try with_reducible rfl)
      (try simp only [List.getElem_toArray, List.getElem_cons_succ, List.getElem_cons_zero, Act.put, List.setIfInBounds_toArray, List.set_cons_zero, List.set_cons_succ])
      refine AnyE.take 4 [4] (v := ?_) rfl (by decide) (by kernel_rfl) (by kernel_rfl) (by kernel_rfl) (by kernel_rfl) (by kernel_rfl) (by kernel_rfl) (fun _ _ _ h => h) (by rfl) hH ?_ ?_
      rotate_left; · (intro wz hSw; simp only [List.getElem_toArray, List.getElem_cons_succ, List.getElem_cons_zero, Act.put, List.setIfInBounds_toArray, List.set_cons_zero, List.set_cons_succ]; refine exec_load_agg (x := .tmp 81) (b := b1) (off := o1 + i * 8) ?_ ?_ Try.underlying64 rfl (info64' hlm) (fun k hk => (hC _ hSw).1 k (by rwa [agc_size, hlm] at hk)); rfl; rfl)
      (try simp only [List.getElem_toArray, List.getElem_cons_succ, List.getElem_cons_zero, Act.put, List.setIfInBounds_toArray, List.set_cons_zero, List.set_cons_succ])
      refine AnyE.take0 5 (v := ?_) rfl (by decide) (by kernel_rfl) (by kernel_rfl) (by kernel_rfl) (by kernel_rfl) (fun _ _ _ h => h) (by rfl) (fun _ => hH) ?_ ?_
      rotate_left; · (intro w; go_simp; try with_reducible rfl)
      (try simp only [List.getElem_toArray, List.getElem_cons_succ, List.getElem_cons_zero, Act.put, List.setIfInBounds_toArray, List.set_cons_zero, List.set_cons_succ])
      refine AnyE.take0 6 (v := ?_) rfl (by decide) (by kernel_rfl) (by kernel_rfl) (by kernel_rfl) (by kernel_rfl) (fun _ _ _ h => h) (by rfl) (fun _ => hH) ?_ ?_
      rotate_left; · (intro w; go_simp; try with_reducible rfl)
      (try simp only [List.getElem_toArray, List.getElem_cons_succ, List.getElem_cons_zero, Act.put, List.setIfInBounds_toArray, List.set_cons_zero, List.set_cons_succ])
      refine AnyE.take0 7 (v := ?_) rfl (by decide) (by kernel_rfl) (by kernel_rfl) (by kernel_rfl) (by kernel_rfl) (fun _ _ _ h => h) (by rfl) (fun _ => hH) ?_ ?_
      rotate_left; · (intro w; go_simp; try with_reducible rfl)
      (try simp only [List.getElem_toArray, List.getElem_cons_succ, List.getElem_cons_zero, Act.put, List.setIfInBounds_toArray, List.set_cons_zero, List.set_cons_succ])
      refine AnyE.take 8 [8] (v := ?_) rfl (by decide) (by kernel_rfl) (by kernel_rfl) (by kernel_rfl) (by kernel_rfl) (by kernel_rfl) (by kernel_rfl) (fun _ _ _ h => h) (by rfl) hH ?_ ?_
      rotate_left; · (intro wz hSw; simp only [List.getElem_toArray, List.getElem_cons_succ, List.getElem_cons_zero, Act.put, List.setIfInBounds_toArray, List.set_cons_zero, List.set_cons_succ]; refine exec_load_agg (x := .tmp 85) (b := b2) (off := o2 + i * 8) ?_ ?_ Try.underlying64 rfl (info64' hln) (fun k hk => (hC _ hSw).2 k (by rwa [agc_size, hln] at hk)); rfl; rfl)
      (try simp only [List.getElem_toArray, List.getElem_cons_succ, List.getElem_cons_zero, Act.put, List.setIfInBounds_toArray, List.set_cons_zero, List.set_cons_succ])
      refine AnyE.one 9 rfl (by kernel_rfl) (fun K hK => ?_)
      rw [if_pos (show _ = true by rfl)]
      go_simp
      go_at_call 79; (with_reducible refine (xor_any hlm hln _).mono ?_); rintro e w9 ⟨rfl, hb9⟩
      replace hH := below_then2 hH hb9
      replace hO := hO.below hb9
      refine hK.out _ _ (fun _ => hH) ?_
      clear hK K
      (try simp only [List.getElem_toArray, List.getElem_cons_succ, List.getElem_cons_zero, Act.put, List.setIfInBounds_toArray, List.set_cons_zero, List.set_cons_succ])
      refine AnyE.one 10 rfl (by kernel_rfl) (fun K hK => ?_)
      have b10 := (Below.refl w9.heap.size w9).alloc (Nat.le_refl _) (.cells (agc (xorB (mrow M i) (mrow N i))) 64)
      have o10 := elm_one (w := w9) (agc (xorB (mrow M i) (mrow N i))) 64 hx8 (agc_one _)
      refine step_build1_agg (by rfl) (by rfl) Try.underlying53 info64f (by decide) (by decide) (by rfl) hx8 ?_
      replace hH := below_then2 hH b10
      replace hO := hO.below b10
      refine hK.out _ _ (fun _ => hH) ?_
      clear hK K
      (try simp only [List.getElem_toArray, List.getElem_cons_succ, List.getElem_cons_zero, Act.put, List.setIfInBounds_toArray, List.set_cons_zero, List.set_cons_succ])
      generalize hW10 : w9.alloc (.cells (agc (xorB (mrow M i) (mrow N i))) 64) = w10 at *
      clear hW10 b10
      refine AnyE.one 11 rfl (by kernel_rfl) (fun K hK => ?_)
      refine step_append_elm (by rfl) (by rfl) Try.underlying53 info64f rfl (by decide) (by rfl) hO.own (by rfl) o10 (by unfold maxLen; omega) (by omega) hH.size ?_
      intro v11 w11 own11 hgr11 hor11
      have hO11 : OwnB w11 w8.heap.size v11 (i + 1) (sumM M N (i + 1)) := by rw [sumM_succ]; exact hO.push (xorB_length _ _) (by rw [← flatE_single]; exact own11)
      replace hH : Below w8.heap.size w8 w11 := hH.grown hgr11 hH.size (fun k e => ownge hO k e)
      obtain ⟨A11, c11, rfl, _⟩ := hO11.blks
      refine hK.out _ _ (fun _ => hH) ?_
      clear hK K
      (try simp only [List.getElem_toArray, List.getElem_cons_succ, List.getElem_cons_zero, Act.put, List.setIfInBounds_toArray, List.set_cons_zero, List.set_cons_succ])
      refine AnyE.one 12 rfl (by kernel_rfl) (fun K hK => ?_)
      go_simp
      refine hK.out _ _ (fun e => Bool.noConfusion (show true = false from e)) ?_
      clear hK K
      (try simp only [List.getElem_toArray, List.getElem_cons_succ, List.getElem_cons_zero, Act.put, List.setIfInBounds_toArray, List.set_cons_zero, List.set_cons_succ])
      refine AnyE.done (by kernel_rfl) ?_ _
      go_wp2
      go_roundw
      case rel => exact ⟨i + 1, A11, c11, by omega, rfl, by go_num, hO11, hH⟩
      case measure => simp [intOf]; omega
    · obtain rfl : i = wd := by omega
      obtain ⟨A8', c8', e8, hSm⟩ := ho.blks
      cases e8
      obtain ⟨SS, hSS⟩ : ∃ SS, SS = sumM M N i := ⟨_, rfl⟩
      rw [← hSS] at hSm
      have hs9 := hs8.below hbw
      have hN9 := hN8.below hbw
      have hB9 := below_then2 hB8 hbw
      have hadd : Hid (∀ j, j < 3 → mrow (synM SS) j = xorB (mrow (synM M) j) (mrow (synM N) j)) := fun j hj => by
        have := syn_add (M := M) (N := N) (n := i - 3) (by rw [hMl.out]; omega) (by rw [hNl.out]; omega) hj
        rw [show i - 3 + 3 = i by omega] at this
        rw [hSS]
        exact this
      replace hSS := Lib.hid hSS
      obtain ⟨wo, rfl⟩ : ∃ wo : World, wo = wr := ⟨_, rfl⟩
      go_wp2_with (first | (go_at_call 76; (with_reducible refine (syn_any h4 h16 hN9).mono ?_); rintro e w10 ⟨g2, rfl, hg2, hn10, hb10⟩; have hB10 := below_then2 hB9 hb10; have hs10 := hs9.below hb10; have hSm10 := hSm.below hb10) | (go_at_call 76; (with_reducible refine (syn_any h4 h16 hSm10).mono ?_); rintro e w11 ⟨g3, rfl, hg3, hu11, hb11⟩; have hB11 := below_then2 hB10 hb11; have hs11 := hs10.below hb11; have hn11 := hn10.below hb11))
      go_loopw [14] (fun x wr => ∃ j : Nat, j ≤ 3 ∧ x = .int .i64 j ∧ Blks (fun _ => True) wr (some ⟨g1, 0, none⟩) 3 3 (synM M) ∧ Blks (fun _ => True) wr (some ⟨g2, 0, none⟩) 3 3 (synM N) ∧ Blks (fun _ => True) wr (some ⟨g3, 0, none⟩) 3 3 (synM SS) ∧ Below w.heap.size w wr) (fun x _ => 3 - (intOf x).toNat)
      case atStart => exact ⟨0, by omega, rfl, hs11, hn11, hu11, hB11⟩
      case round =>
        obtain ⟨j, hj, rfl, hs1, hs2, hs3, hbw2⟩ := hrel
        replace hbw := hbw2
        by_cases hlt : j < 3
        · have hl1 := synM_row M hlt
          have hl2 := synM_row N hlt
          have hl3 := synM_row SS hlt
          have hne := fun w => neq64 hl3 (xorB_length (mrow (synM M) j) (mrow (synM N) j)) w
          rw [decide_eq_true (hadd.out j hlt)] at hne
          have d1 : (0 : Int) ≤ (j : Int) := Int.natCast_nonneg _
          have d2 : (j : Int) < 3 := by omega
          go_wp2
          refine AnyE.region (fun w' => Blks (fun _ => True) w' (some ⟨g1, 0, none⟩) 3 3 (synM M) ∧ Blks (fun _ => True) w' (some ⟨g2, 0, none⟩) 3 3 (synM N) ∧ Blks (fun _ => True) w' (some ⟨g3, 0, none⟩) 3 3 (synM SS)) 13 (by kernel_rfl) ?_
          have kd : Below wr.heap.size wr wr.drew := below_drewN (Below.refl _ _) 1
          have hH := And.intro (hs1.below kd) (And.intro (hs2.below kd) (hs3.below kd))
          have hBB := below_then2 hbw kd
          refine AnyE.take0 0 (v := ?_) rfl (by decide) (by kernel_rfl) (by kernel_rfl) (by kernel_rfl) (by kernel_rfl) (fun _ _ _ h => h) (by rfl) (fun _ => hH) ?_ ?_
          rotate_left; · (intro w; go_simp; try with_reducible rfl)
          (try simp only [List.getElem_toArray, List.getElem_cons_succ, List.getElem_cons_zero, Act.put, List.setIfInBounds_toArray, List.set_cons_zero, List.set_cons_succ])
          refine AnyE.take0 1 (v := ?_) rfl (by decide) (by kernel_rfl) (by kernel_rfl) (by kernel_rfl) (by kernel_rfl) (fun _ _ _ h => h) (by rfl) (fun _ => hH) ?_ ?_
          rotate_left; · (intro w; go_simp; try with_reducible rfl)
          (try simp only [List.getElem_toArray, List.getElem_cons_succ, List.getElem_cons_zero, Act.put, List.setIfInBounds_toArray, List.set_cons_zero, List.set_cons_succ])
          refine AnyE.take0 2 (v := ?_) rfl (by decide) (by kernel_rfl) (by kernel_rfl) (by kernel_rfl) (by kernel_rfl) (fun _ _ _ h => h) (by rfl) (fun _ => hH) ?_ ?_
          rotate_left; · (intro w; go_simp; try with_reducible rfl)
          (try simp only [List.getElem_toArray, List.getElem_cons_succ, List.getElem_cons_zero, Act.put, List.setIfInBounds_toArray, List.set_cons_zero, List.set_cons_succ])
          refine AnyE.take 3 [3] (v := ?_) rfl (by decide) (by kernel_rfl) (by kernel_rfl) (by kernel_rfl) (by kernel_rfl) (by kernel_rfl) (by kernel_rfl) (fun _ _ _ h => h) (by rfl) hH ?_ ?_
          rotate_left; · (intro wz hSw; simp only [List.getElem_toArray, List.getElem_cons_succ, List.getElem_cons_zero, Act.put, List.setIfInBounds_toArray, List.set_cons_zero, List.set_cons_succ]; refine exec_load_agg (x := .tmp 122) (b := g3) (off := j * 8) ?_ ?_ Try.underlying64 rfl (info64' hl3) (fun k hk => synrow hSw.2.2 hlt (by rwa [agc_size, hl3] at hk)); rfl; rfl)
          (try simp only [List.getElem_toArray, List.getElem_cons_succ, List.getElem_cons_zero, Act.put, List.setIfInBounds_toArray, List.set_cons_zero, List.set_cons_succ])
          refine AnyE.take0 4 (v := ?_) rfl (by decide) (by kernel_rfl) (by kernel_rfl) (by kernel_rfl) (by kernel_rfl) (fun _ _ _ h => h) (by rfl) (fun _ => hH) ?_ ?_
          rotate_left; · (intro w; go_simp; try with_reducible rfl)
          (try simp only [List.getElem_toArray, List.getElem_cons_succ, List.getElem_cons_zero, Act.put, List.setIfInBounds_toArray, List.set_cons_zero, List.set_cons_succ])
          refine AnyE.take0 5 (v := ?_) rfl (by decide) (by kernel_rfl) (by kernel_rfl) (by kernel_rfl) (by kernel_rfl) (fun _ _ _ h => h) (by rfl) (fun _ => hH) ?_ ?_
          rotate_left; · (intro w; go_simp; try with_reducible rfl)
          (try simp only [List.getElem_toArray, List.getElem_cons_succ, List.getElem_cons_zero, Act.put, List.setIfInBounds_toArray, List.set_cons_zero, List.set_cons_succ])
          refine AnyE.take0 6 (v := ?_) rfl (by decide) (by kernel_rfl) (by kernel_rfl) (by kernel_rfl) (by kernel_rfl) (fun _ _ _ h => h) (by rfl) (fun _ => hH) ?_ ?_
          rotate_left; · (intro w; go_simp; try with_reducible rfl)
          (try simp only [List.getElem_toArray, List.getElem_cons_succ, List.getElem_cons_zero, Act.put, List.setIfInBounds_toArray, List.set_cons_zero, List.set_cons_succ])
          refine AnyE.take 7 [12, 7] (v := ?_) rfl (by decide) (by kernel_rfl) (by kernel_rfl) (by kernel_rfl) (by kernel_rfl) (by kernel_rfl) (by kernel_rfl) (fun _ _ _ h => h) (by rfl) hH ?_ ?_
          rotate_left; · (intro wz hSw; simp only [List.getElem_toArray, List.getElem_cons_succ, List.getElem_cons_zero, Act.put, List.setIfInBounds_toArray, List.set_cons_zero, List.set_cons_succ]; refine exec_load_agg (x := .tmp 126) (b := g1) (off := j * 8) ?_ ?_ Try.underlying64 rfl (info64' hl1) (fun k hk => synrow hSw.1 hlt (by rwa [agc_size, hl1] at hk)); rfl; rfl)
          (try simp only [List.getElem_toArray, List.getElem_cons_succ, List.getElem_cons_zero, Act.put, List.setIfInBounds_toArray, List.set_cons_zero, List.set_cons_succ])
          refine AnyE.take0 8 (v := ?_) rfl (by decide) (by kernel_rfl) (by kernel_rfl) (by kernel_rfl) (by kernel_rfl) (fun _ _ _ h => h) (by rfl) (fun _ => hH) ?_ ?_
          rotate_left; · (intro w; go_simp; try with_reducible rfl)
          (try simp only [List.getElem_toArray, List.getElem_cons_succ, List.getElem_cons_zero, Act.put, List.setIfInBounds_toArray, List.set_cons_zero, List.set_cons_succ])
          refine AnyE.take0 9 (v := ?_) rfl (by decide) (by kernel_rfl) (by kernel_rfl) (by kernel_rfl) (by kernel_rfl) (fun _ _ _ h => h) (by rfl) (fun _ => hH) ?_ ?_
          rotate_left; · (intro w; go_simp; try with_reducible rfl)
          (try simp only [List.getElem_toArray, List.getElem_cons_succ, List.getElem_cons_zero, Act.put, List.setIfInBounds_toArray, List.set_cons_zero, List.set_cons_succ])
          refine AnyE.take0 10 (v := ?_) rfl (by decide) (by kernel_rfl) (by kernel_rfl) (by kernel_rfl) (by kernel_rfl) (fun _ _ _ h => h) (by rfl) (fun _ => hH) ?_ ?_
          rotate_left; · (intro w; go_simp; try with_reducible rfl)
          (try simp only [List.getElem_toArray, List.getElem_cons_succ, List.getElem_cons_zero, Act.put, List.setIfInBounds_toArray, List.set_cons_zero, List.set_cons_succ])
          refine AnyE.take 11 [12, 11] (v := ?_) rfl (by decide) (by kernel_rfl) (by kernel_rfl) (by kernel_rfl) (by kernel_rfl) (by kernel_rfl) (by kernel_rfl) (fun _ _ _ h => h) (by rfl) hH ?_ ?_
          rotate_left; · (intro wz hSw; simp only [List.getElem_toArray, List.getElem_cons_succ, List.getElem_cons_zero, Act.put, List.setIfInBounds_toArray, List.set_cons_zero, List.set_cons_succ]; refine exec_load_agg (x := .tmp 130) (b := g2) (off := j * 8) ?_ ?_ Try.underlying64 rfl (info64' hl2) (fun k hk => synrow hSw.2.1 hlt (by rwa [agc_size, hl2] at hk)); rfl; rfl)
          (try simp only [List.getElem_toArray, List.getElem_cons_succ, List.getElem_cons_zero, Act.put, List.setIfInBounds_toArray, List.set_cons_zero, List.set_cons_succ])
          refine AnyE.one 12 rfl (by kernel_rfl) (fun K hK => ?_)
          rw [if_pos (show _ = true by rfl)]
          go_simp
          go_at_call 79; (with_reducible refine (xor_any hl1 hl2 _).mono ?_); rintro e w12 ⟨rfl, hb12⟩
          replace hH := And.intro (hH.1.below hb12) (And.intro (hH.2.1.below hb12) (hH.2.2.below hb12))
          replace hBB := below_then2 hBB hb12
          refine hK.out _ _ (fun _ => hH) ?_
          clear hK K
          (try simp only [List.getElem_toArray, List.getElem_cons_succ, List.getElem_cons_zero, Act.put, List.setIfInBounds_toArray, List.set_cons_zero, List.set_cons_succ])
          refine AnyE.one 13 rfl (by kernel_rfl) (fun K hK => ?_)
          rw [if_pos (show _ = true by rfl)]
          (try simp only [List.getElem_toArray, List.getElem_cons_succ, List.getElem_cons_zero, Act.put, List.setIfInBounds_toArray, List.set_cons_zero, List.set_cons_succ])
          refine wp_of_exec (exec_binL (t2 := 64) (x := .tmp 123) (y := .tmp 132) (r := .bool false) hne (guard64 _ _ _ _ _) (by rfl) (by rfl) (by rfl)) ?_
          refine hK.out _ _ (fun e => Bool.noConfusion (show true = false from e)) ?_
          clear hK K
          (try simp only [List.getElem_toArray, List.getElem_cons_succ, List.getElem_cons_zero, Act.put, List.setIfInBounds_toArray, List.set_cons_zero, List.set_cons_succ])
          refine AnyE.done (by kernel_rfl) ?_ _
          go_wp2
          go_roundw
          case rel => exact ⟨j + 1, by omega, by go_num, hH.1, hH.2.1, hH.2.2, hBB⟩
          case measure => simp [intOf]; omega
        · obtain rfl : j = 3 := by omega
          go_wp2
          go_ret
          exact ⟨rfl, hbw⟩
theorem law22 (h : Blks p w A n c M) (g : Blks q w B m d N) : Calls Try.prog 22 #[.slice A n c, .slice B m d] w fun e w' => e = .returned (.bool true) ∧ Below w.heap.size w w' := by
  by_cases hb : 20 < n ∨ 20 < m ∨ n < 4 ∨ 16 < n
  · exact law22_out h g hb
  by_cases hm : m = n
  · subst hm
    by_cases hc : M = grpM (M.take (M.length - 3))
    · exact law22_eq_t (by omega) (by omega) h g (by omega) hc
    · exact law22_eq_f (by omega) (by omega) h g (by omega) hc
  · by_cases hc : M = grpM (M.take (M.length - 3))
    · exact law22_ne_t (by omega) (by omega) h g (by omega) hm hc
    · exact law22_ne_f (by omega) (by omega) h g (by omega) hm hc
end
end Go.Proofs.Ytifhjigkljdkmaa
