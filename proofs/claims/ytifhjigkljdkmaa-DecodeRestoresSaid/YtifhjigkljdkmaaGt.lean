/- decode.generator: the rows of all pieces. -/
import Derived.Test.YtifhjigkljdkmaaCb
import Derived.Test.YtifhjigkljdkmaaM4
namespace Go.Proofs.Ytifhjigkljdkmaa
open Go.RowKit
open Gf (F)
set_option linter.unusedSimpArgs false
set_option linter.unusedVariables false
def parR (n : Nat) : List (List F) := (List.range 3).map fun j => genR n (n + j)
theorem parR_row {n j : Nat} (hj : j < 3) : mrow (parR n) j = genR n (n + j) := by simp [mrow, parR, hj]
def genM (n : Nat) : List (List F) := (List.range (n + 3)).map (genR n)
theorem genM_row {n p : Nat} (hp : p < n + 3) : mrow (genM n) p = genR n p := by simp [mrow, genM, hp]
theorem par_nth {n j i : Nat} (hi : i < n) : nth (genR n (n + j)) i = Gf.pow 2 (i * j) := by
  unfold genR
  rw [nth_mkr _ hi, if_neg (by omega), Nat.add_sub_cancel_left, Nat.mul_comm]
theorem id_nth {n p i : Nat} (hp : p < n) (hi : i < n) : nth (genR n p) i = if p = i then 1 else 0 := by
  unfold genR
  rw [nth_mkr _ hi, if_pos hp]
  by_cases e : i = p
  · rw [if_pos e, if_pos e.symm]
  · rw [if_neg e, if_neg (Ne.symm e)]
set_option maxHeartbeats 400000 in
theorem identity_own (n : Nat) (h1 : 1 ≤ n) (h2 : n ≤ 64) (w : World) : Calls Try.prog 38 #[.int .i64 (n : Int)] w fun e w' =>
    ∃ g G, e = .returned (.tuple #[.slice (some ⟨g, 0, none⟩) n n, .int .i64 0]) ∧ Own2 w' w.heap.size g G n n (fun i j => if i = j then 1 else 0) ∧ Below w.heap.size w w' := by
  go_enter Try.func38, Try.ntmps38
  go_wp2_with (go_at_call 87; refine (blank_any n n (by omega) (by omega) _).mono ?_; rintro e w1 ⟨g, G, rfl, hown, hb1⟩)
  go_loopw [5, 17] (fun _ i wr => ∃ k : Nat, k ≤ n ∧ i = .int .i64 k ∧ Own2 wr w.heap.size g G n n (fun i j => if i = j ∧ i < k then 1 else 0) ∧ Below w.heap.size w wr) (fun _ i _ => n - (intOf i).toNat)
  case atStart => exact ⟨0, by omega, rfl, hown.congr fun i j _ _ => by simp, hb1⟩
  case round =>
    obtain ⟨k, hk, rfl, ho, hb⟩ := hrel
    by_cases hlt : k < n
    · have e1 := ho.topCell hlt
      have e2 := ho.cell hlt hlt
      have e3 := ho.frozen hlt k
      go_wp2
      go_roundw
      case rel => exact ⟨k + 1, by omega, by go_num, (ho.set (j := k) hlt 1).congr fun i j hi hj => idm_step i j, hb.setCell (ho.low hlt) _⟩
      case measure => simp [intOf]; omega
    · obtain rfl : k = n := by omega
      go_wp2
      go_ret2
      exact ⟨g, _, rfl, ho.congr fun i j hi hj => idm_end hi, hb⟩
theorem OwnA.parts {w : World} {N : Nat} {q : Nat → Prop} {v : Value} {k : Nat} {R : Nat → Option Addr} {L C : Nat → Nat} {f : Nat → List F} (h : OwnA w N q v k R L C f) : ∃ A c, v = .slice A k c ∧ Row (fun _ => True) w A k c (fun j => .slice (R j) (L j) (C j)) ∧ ∀ i, i < k → Byt q w (R i) (L i) (C i) (f i) := by
  obtain ⟨A, c, hv, hr⟩ := own_slice h.own
  refine ⟨A, c, hv, (hr.congr fun j hj => ?_).mono fun _ _ _ => trivial, fun i hi => (h.row i hi).mono fun _ _ hp => hp.1⟩
  rw [List.getD_eq_getElem?_getD]
  simp [hj]
set_option maxRecDepth 100000 in
set_option maxHeartbeats 2000000 in
theorem pmatrix_any (n : Nat) (h1 : 1 ≤ n) (h13 : n ≤ 13) (w : World) : Calls Try.prog 137 #[.int .i64 (n : Int)] w fun e w' =>
    ∃ (A' : Option Addr) (c' : Nat) (R' : Nat → Option Addr) (C' : Nat → Nat), e = .returned (.tuple #[.slice A' 3 c', .int .i64 0]) ∧ Row (fun _ => True) w' A' 3 c' (fun j => .slice (R' j) n (C' j)) ∧ (∀ j, j < 3 → Byt (fun b => w.heap.size ≤ b) w' (R' j) n (C' j) (genR n (n + j))) ∧ Below w.heap.size w w' := by
  have t1 : ¬ ((n : Int) < 1) := by omega
  have t2 : ¬ (13 < (n : Int)) := by omega
  go_enter Try.func137, Try.ntmps137
  go_wp2
  go_loopw [4, 14] (fun v x wr => ∃ (j : Nat) (R' : Nat → Option Addr) (L' C' : Nat → Nat), j ≤ 3 ∧ x = .int .i64 j ∧ OwnA wr w.heap.size (fun b => w.heap.size ≤ b) v j R' L' C' (fun j => genR n (n + j)) ∧ Below w.heap.size w wr) (fun _ x _ => 3 - (intOf x).toNat)
  case atStart => exact ⟨0, _, _, _, by omega, rfl, (OwnA.start _ _ _).congr fun i hi => absurd hi (Nat.not_lt_zero _), Below.refl _ _⟩
  case round =>
    obtain ⟨j, R', L', C', hj, rfl, ho, hbw⟩ := hrel
    by_cases hlt : j < 3
    · have hsz := hbw.size
      have c4 : (j : Int) < 3 := by omega
      have c3 : (0 : Int) ≤ (j : Int) := Int.natCast_nonneg _
      obtain ⟨wo, rfl⟩ : ∃ wo : World, wo = wr := ⟨_, rfl⟩
      replace ho := Lib.hid ho
      go_wp2_with (at_make; refine wpl_make rfl rfl Try.underlying28 info5 rfl rfl rfl (by omega) (by omega) ?_; intro w1 g hrow hb1 hg)
      go_loopw [21] (fun x wr => ∃ i : Nat, i ≤ n ∧ x = .int .i64 i ∧ wr.rowIs g 5 n (upto i (bytes (genR n (n + j))) zeros) ∧ Below wo.heap.size wo wr) (fun x _ => n - (intOf x).toNat)
      case atStart => exact ⟨0, by omega, rfl, by rw [upto_zero]; exact hrow, hb1⟩
      case round =>
        obtain ⟨i, hi, rfl, hr, hbi⟩ := hrel
        by_cases hlti : i < n
        · have hij : i * j ≤ 13 * 2 := Nat.mul_le_mul (by omega) (by omega)
          have hexp : Calls Try.prog 120 #[.int .i64 ((i : Int) * (j : Int))] wr fun e w' => e = .returned (.int .u8 ((Gf.pow 2 (i * j)).toNat : Int)) ∧ wr = w' := by rw [← Int.natCast_mul]; exact exp_any (i * j) (by omega) wr
          have e3 : wr.cell? ⟨g, i, none⟩ = some (.int .u8 0) := by rw [hr.cell hlti, upto_at]; rfl
          have e4 := hr.frozen i
          have c1 : (0 : Int) ≤ (i : Int) := Int.natCast_nonneg _
          have c2 : (i : Int) < (n : Int) := by omega
          replace hr := Lib.hid hr
          go_wp2_with (go_at_call 120; (with_reducible refine hexp.mono ?_); rintro e w2 ⟨rfl, rfl⟩)
          go_roundw
          case rel => exact ⟨i + 1, by omega, by go_num, rowIs_upto_set hr.out (by unfold bytes; rw [par_nth hlti]), hbi.setCell hg _⟩
          case measure => simp [intOf]; omega
        · obtain rfl : i = n := by omega
          have hr9 : wr.rowIs g 5 i (bytes (genR i (i + j))) := hr.congr fun j hj => upto_lt hj _ _
          have hoi := ho.out.below hbi
          have hB := below_then2 hbw hbi
          have hszi := hB.size
          have hnew := own_new_ne ho.out.own hg
          go_wp2_with (at_builtin; refine wpl_append1s rfl (s := .tmp 32) (x := .tmp 34) rfl Try.underlying22 info28 rfl rfl hoi.own rfl rfl rfl (by unfold maxLen; omega) (by omega) hszi ?_; intro v2 w2 hown2 hgr2 hne2)
          go_roundw
          case rel =>
            refine ⟨j + 1, _, _, _, by omega, by go_num, (hoi.push (Byt.of_rowIs (l := genR i (i + j)) hr9 (genR_length _ _) ⟨Nat.le_trans hsz hg, hnew⟩ (max_of (by omega))) hown2 hgr2 hne2).congr fun j' _ => ?_, hB.grown hgr2 hszi (own_ge hoi.own)⟩
            by_cases e : j' = j <;> simp [e]
          case measure => simp [intOf]; omega
    · obtain rfl : j = 3 := by omega
      obtain ⟨A', c', rfl, hr', hrow⟩ := ho.parts
      have hL : ∀ j, j < 3 → L' j = n := fun j hj => by rw [← (hrow j hj).len, genR_length]
      replace hL := Lib.hid hL
      go_wp2
      go_ret2
      exact ⟨A', c', R', C', rfl, hr'.congr fun j hj => by rw [hL.out j hj], fun j hj => by have := hrow j hj; rw [hL.out j hj] at this; exact this, hbw⟩
theorem flatE_cells (f : Nat → Value) : ∀ n, flatE (fun i => #[f i]) n = (List.range n).map f
  | 0 => rfl
  | n + 1 => by rw [flatE_succ, flatE_cells f n, List.range_succ, List.map_append]; rfl
theorem own_row1 {w : World} {g n : Nat} {e : TypeId} {f : Nat → Value} {base : Nat} (h : w.rowIs g e n f) (hb : base ≤ g) (hn : n ≤ maxLen) : w.ownsRow base e 1 (.slice (some ⟨g, 0, none⟩) n n) n ((List.range n).map f) := by
  rw [← flatE_cells]
  refine own_of_row (s := 1) (cap := n) (by rw [Nat.mul_one]; exact h) hb (Nat.le_refl _) hn (fun j hj => rfl) (by decide) (fun j hj k hk => ?_)
  obtain rfl : k = 0 := by omega
  rw [Nat.mul_one, Nat.add_zero]
  rfl
set_option maxRecDepth 100000 in
set_option maxHeartbeats 2000000 in
theorem generator_any {n wd : Nat} (h1 : 1 ≤ n) (h13 : n ≤ 13) (hwd : wd = n + 3) (w : World) : Calls Try.prog 113 #[.int .i64 (wd : Int)] w fun e w' =>
    ∃ A' c' R' C', e = .returned (.slice A' wd c') ∧ Mat (fun _ => True) w' A' wd c' R' n C' (genM n) ∧ Below w.heap.size w w' := by
  have e3 : (wd : Int) - 3 = (n : Int) := by omega
  go_enter Try.func113, Try.ntmps113
  go_wp2_with (first | (go_at_call 38; (try rw [e3]); refine (identity_own n h1 (by omega) _).mono ?_; rintro e w1 ⟨g, G, rfl, ho1, hb1⟩) | (go_at_call 137; (try rw [e3]); refine (pmatrix_any n h1 h13 _).mono ?_; rintro e w2 ⟨A2, c2, R2, C2, rfl, hm2, hk2, hb2⟩; have hB2 := below_then2 hb1 hb2; have ho2 := ho1.below hb2; have hown2 := own_row1 ho2.top ho2.lo (max_of (by omega)); have hs2 := hB2.size; have hg1 := ho1.top.lt) | (at_builtin; refine wpl_append_row (v := .slice (some ⟨g, 0, none⟩) n n) rfl rfl Try.underlying22 info28 rfl rfl hown2 rfl hm2 (fun _ _ => rfl) (by unfold maxLen; omega) (by omega) hs2 ?_; intro v3 w3 hown3 hgr3 hne3))
  obtain ⟨A3, c3, hv3, hr3⟩ := own_slice hown3
  have hB3 := hB2.grown hgr3 hs2 (fun k e => by cases e; exact ho2.lo)
  subst hv3
  subst hwd
  go_ret
  refine ⟨A3, c3, fun p => if p < n then some ⟨G p, 0, none⟩ else R2 (p - n), fun p => if p < n then n else C2 (p - n), rfl, ⟨by simp [genM], (hr3.congr fun p hp => ?_).mono fun _ _ _ => trivial, fun p hp => ?_⟩, hB3⟩
  · rw [List.getD_eq_getElem?_getD]
    by_cases hpn : p < n
    · rw [if_pos hpn, if_pos hpn, List.getElem?_append_left (by simpa using hpn)]
      simp [hpn]
    · rw [if_neg hpn, if_neg hpn, List.getElem?_append_right (by simp; omega)]
      have : p - n < 3 := by omega
      simp [this]
  · rw [genM_row hp]
    by_cases hpn : p < n
    · rw [if_pos hpn, if_pos hpn]
      have hrow := (ho2.row p hpn)
      have hb : some (G p) ≠ (Value.slice (some ⟨g, 0, none⟩) n n).ownBlock := fun e => by
        have := ho2.gt p hpn
        cases e
        omega
      refine Byt.of_rowIs ((hrow.of_block (hgr3.block (G p) hrow.lt hb)).congr fun j hj => ?_) (genR_length _ _) trivial (max_of (by omega))
      rw [id_nth hpn hj]
      rfl
    · rw [if_neg hpn, if_neg hpn]
      have h3 := hk2 (p - n) (by omega)
      rw [Nat.add_sub_cancel' (by omega)] at h3
      exact (h3.keep (Keeps.grown hgr3 fun b e hp => by cases e; exact absurd hp (Nat.not_le.2 hg1))).mono fun _ _ _ => trivial
end Go.Proofs.Ytifhjigkljdkmaa
