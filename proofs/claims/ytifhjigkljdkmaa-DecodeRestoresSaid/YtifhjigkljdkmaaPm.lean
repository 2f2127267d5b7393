/- Plain laws of the parity of a group of pieces: the sums, Horner's way, and that a group with at most three pieces other than 0 is 0. No program is named here. -/
import Derived.Test.YtifhjigkljdkmaaLa
namespace Go.Proofs.Ytifhjigkljdkmaa
open Gf (F)
set_option linter.unusedSimpArgs false
set_option linter.unusedVariables false

/-! ### The parity -/
/-- Byte k of parity piece j. -/
def parE (D : List (List F)) (j k : Nat) : F := sumF D.length fun i => Gf.mul (Gf.pow 2 (j * i)) (ent D i k)
def parM (D : List (List F)) : List (List F) := mkm 3 8 (parE D)
/-- The whole group of the data pieces D. -/
def grpM (D : List (List F)) : List (List F) := D ++ parM D
theorem parM_length (D : List (List F)) : (parM D).length = 3 := mkm_length _ _ _
theorem parM_row (D : List (List F)) {j : Nat} (hj : j < 3) : mrow (parM D) j = mkr 8 (parE D j) := mrow_mkm _ hj
theorem parM_rowlen (D : List (List F)) {j : Nat} (hj : j < 3) : (mrow (parM D) j).length = 8 := by rw [parM_row D hj, mkr_length]
theorem parM_ent (D : List (List F)) {j k : Nat} (hj : j < 3) (hk : k < 8) : ent (parM D) j k = parE D j k := by
  unfold ent
  rw [parM_row D hj, nth_mkr _ hk]
theorem sumF_head (n : Nat) (f : Nat → F) : sumF (n + 1) f = f 0 ^^^ sumF n fun k => f (k + 1) := by
  induction n with
  | zero => rw [sumF_succ, sumF_zero, sumF_zero, x_comm]
  | succ n ih => rw [sumF_succ, ih, sumF_succ, x_assoc]
/-- Horner's way, from the last data piece to data piece i. -/
def horn (D : List (List F)) (j : Nat) : Nat → List F
  | 0 => zeroL 8
  | t + 1 => fuse (mrow D (D.length - (t + 1))) (horn D j t) (Gf.pow 2 j)
theorem horn_length {D : List (List F)} (hD : ∀ i, i < D.length → (mrow D i).length = 8) (j : Nat) : ∀ t, t ≤ D.length → (horn D j t).length = 8
  | 0, _ => zeroL_length 8
  | t + 1, h => fuse_length _ (hD _ (by omega)) (horn_length hD j t (by omega))
theorem horn_nth {D : List (List F)} (hD : ∀ i, i < D.length → (mrow D i).length = 8) (j k : Nat) (hk : k < 8) : ∀ t, t ≤ D.length → nth (horn D j t) k = sumF t fun i => Gf.mul (Gf.pow 2 (j * i)) (ent D (D.length - t + i) k)
  | 0, _ => nth_zeroL 8 k
  | t + 1, h => by
    rw [horn, nth_fuse _ (hD _ (by omega)) (horn_length hD j t (by omega)) hk, horn_nth hD j k hk t (by omega), sumF_head, Nat.mul_zero, Gf.pow_zero, Gf.one_mul, ← sumF_mul]
    congr 1
    refine sumF_congr fun i hi => ?_
    rw [← Gf.mul_assoc, ← Gf.pow_add, show j * (i + 1) = j + j * i by rw [Nat.mul_succ, Nat.add_comm]]
    congr 2
    omega
theorem horn_all {D : List (List F)} (hD : ∀ i, i < D.length → (mrow D i).length = 8) {j : Nat} (hj : j < 3) : horn D j D.length = mrow (parM D) j := by
  refine nth_ext (by rw [horn_length hD j _ (Nat.le_refl _), parM_rowlen D hj]) fun k hk => ?_
  rw [horn_length hD j _ (Nat.le_refl _)] at hk
  rw [horn_nth hD j k hk _ (Nat.le_refl _)]
  show _ = ent (parM D) j k
  rw [parM_ent D hj hk]
  unfold parE
  refine sumF_congr fun i _ => ?_
  rw [Nat.sub_self, Nat.zero_add]
theorem grpM_length (D : List (List F)) : (grpM D).length = D.length + 3 := by simp [grpM, parM_length]
theorem grpM_data (D : List (List F)) {i : Nat} (h : i < D.length) : mrow (grpM D) i = mrow D i := mrow_append_left h
theorem mrow_append_at {A B : List (List F)} (j : Nat) : mrow (A ++ B) (A.length + j) = mrow B j := by
  unfold mrow
  rw [List.getD_eq_getElem?_getD, List.getD_eq_getElem?_getD, List.getElem?_append_right (by omega), Nat.add_sub_cancel_left]
theorem grpM_par (D : List (List F)) (j : Nat) : mrow (grpM D) (D.length + j) = mrow (parM D) j := mrow_append_at j
theorem grpM_take (D : List (List F)) : (grpM D).take D.length = D := List.take_left
theorem grpM_drop (D : List (List F)) : (grpM D).drop D.length = parM D := List.drop_left
theorem grpM_rows {D : List (List F)} (hD : ∀ i, i < D.length → (mrow D i).length = 8) : ∀ i, i < (grpM D).length → (mrow (grpM D) i).length = 8 := by
  intro i hi
  rw [grpM_length] at hi
  by_cases h : i < D.length
  · rw [grpM_data D h]; exact hD i h
  · obtain ⟨j, rfl⟩ : ∃ j, i = D.length + j := ⟨i - D.length, by omega⟩
    rw [grpM_par]; exact parM_rowlen D (by omega)
/-- The group is consistent. -/
def conB (M : List (List F)) : Bool := decide (4 ≤ M.length) && decide (M.length ≤ 16) && decide (M = grpM (M.take (M.length - 3)))
theorem con_drop {M : List (List F)} (h : 3 ≤ M.length) : (M = grpM (M.take (M.length - 3))) ↔ M.drop (M.length - 3) = parM (M.take (M.length - 3)) := by
  constructor
  · intro e
    have hl : (M.take (M.length - 3)).length = M.length - 3 := by rw [List.length_take]; omega
    have h2 := congrArg (List.drop (M.length - 3)) e
    rw [h2]
    conv => lhs; rw [← hl]
    rw [hl]
    unfold grpM
    rw [List.drop_left' (by rw [List.length_take]; omega)]
  · intro e
    unfold grpM
    rw [← e, List.take_append_drop]
theorem conB_grp {D : List (List F)} (h1 : 1 ≤ D.length) (h2 : D.length ≤ 13) : conB (grpM D) = true := by
  unfold conB
  rw [grpM_length, Nat.add_sub_cancel, grpM_take]
  simp
  omega

/-! ### Powers of 2 -/
theorem two_ne : (2 : F) ≠ 0 := by decide
def X (i : Nat) : F := Gf.pow 2 i
theorem X_ne (i : Nat) : X i ≠ 0 := Gf.pow_ne_zero two_ne i
theorem X_inj_all : (List.range 16).all (fun i => (List.range 16).all fun j => i == j || X i != X j) = true := by decide +kernel
theorem X_inj {i j : Nat} (hi : i < 16) (hj : j < 16) (h : X i = X j) : i = j := by
  have h1 := List.all_eq_true.1 (List.all_eq_true.1 X_inj_all i (List.mem_range.2 hi)) j (List.mem_range.2 hj)
  simp only [Bool.or_eq_true, beq_iff_eq, bne_iff_ne] at h1
  rcases h1 with h1 | h1
  · exact h1
  · exact absurd h h1
theorem X_add_ne {i j : Nat} (hi : i < 16) (hj : j < 16) (h : i ≠ j) : X i ^^^ X j ≠ 0 := fun e => h (X_inj hi hj (x_eq_zero e))
theorem pow_0 (i : Nat) : Gf.pow 2 (0 * i) = 1 := by rw [Nat.zero_mul, Gf.pow_zero]
theorem pow_1 (i : Nat) : Gf.pow 2 (1 * i) = X i := by rw [Nat.one_mul]; rfl
theorem pow_2 (i : Nat) : Gf.pow 2 (2 * i) = Gf.mul (X i) (X i) := by rw [show 2 * i = i + i by omega, Gf.pow_add]; rfl
theorem mul_ne {a b : F} (ha : a ≠ 0) (hb : b ≠ 0) : Gf.mul a b ≠ 0 := fun h => by rcases Gf.mul_eq_zero h with h | h <;> contradiction

/-! ### A word with at most three places other than 0 is 0 -/
/-- The j-th sum of a word of data. -/
def syn (n : Nat) (x : Nat → F) (j : Nat) : F := sumF n fun i => Gf.mul (Gf.pow 2 (j * i)) (x i)
section
variable {n a b c : Nat} {x : Nat → F}
theorem syn_one {j : Nat} (ha : a < n) (hx : ∀ i, i < n → i ≠ a → x i = 0) : syn n x j = Gf.mul (Gf.pow 2 (j * a)) (x a) :=
  sumF_one ha fun k hk hne => by rw [hx k hk hne, Gf.mul_zero]
theorem zero_1 {j : Nat} (ha : a < n) (hx : ∀ i, i < n → i ≠ a → x i = 0) (hs : syn n x j = 0) : x a = 0 := by
  rw [syn_one ha hx] at hs
  rcases Gf.mul_eq_zero hs with h | h
  · exact absurd h (Gf.pow_ne_zero two_ne _)
  · exact h
theorem sum_weight (g : Nat → F) (ha : a < n) (h : ∀ i, i < n → i ≠ a → Gf.mul (g i) (x i) = 0) : (sumF n fun i => Gf.mul (g i) (x i)) = Gf.mul (g a) (x a) := sumF_one ha h
theorem zero_of (g : Nat → F) (ha : a < n) (hg : g a ≠ 0) (h : ∀ i, i < n → i ≠ a → Gf.mul (g i) (x i) = 0) (hs : (sumF n fun i => Gf.mul (g i) (x i)) = 0) : x a = 0 := by
  rw [sum_weight g ha h] at hs
  rcases Gf.mul_eq_zero hs with h | h
  · exact absurd h hg
  · exact h
theorem syn_01 (t : F) : Gf.mul t (syn n x 0) ^^^ syn n x 1 = sumF n fun i => Gf.mul (t ^^^ X i) (x i) := by
  unfold syn
  rw [← sumF_mul, ← sumF_xor]
  refine sumF_congr fun i _ => ?_
  rw [pow_0, pow_1, Gf.one_mul, Gf.add_mul]
theorem syn_12 (t : F) : Gf.mul t (syn n x 1) ^^^ syn n x 2 = sumF n fun i => Gf.mul (Gf.mul (X i) (t ^^^ X i)) (x i) := by
  unfold syn
  rw [← sumF_mul, ← sumF_xor]
  refine sumF_congr fun i _ => ?_
  rw [pow_1, pow_2, Gf.mul_add, Gf.add_mul, ← Gf.mul_assoc, Gf.mul_comm t (X i)]
theorem syn_02 (t : F) : Gf.mul (Gf.mul t t) (syn n x 0) ^^^ syn n x 2 = sumF n fun i => Gf.mul (Gf.mul (t ^^^ X i) (t ^^^ X i)) (x i) := by
  unfold syn
  rw [← sumF_mul, ← sumF_xor]
  refine sumF_congr fun i _ => ?_
  rw [pow_0, pow_2, Gf.one_mul, ← Gf.add_mul]
  congr 1
  rw [Gf.mul_add, Gf.add_mul, Gf.add_mul, Gf.mul_comm (X i) t, x_assoc, ← x_assoc (Gf.mul t (X i)), x_self, zero_x]
theorem syn_012 (t u : F) : (Gf.mul (Gf.mul t u) (syn n x 0) ^^^ Gf.mul (t ^^^ u) (syn n x 1)) ^^^ syn n x 2 = sumF n fun i => Gf.mul (Gf.mul (t ^^^ X i) (u ^^^ X i)) (x i) := by
  unfold syn
  rw [← sumF_mul, ← sumF_mul, ← sumF_xor, ← sumF_xor]
  refine sumF_congr fun i _ => ?_
  rw [pow_0, pow_1, pow_2, Gf.one_mul, ← Gf.mul_assoc, ← Gf.add_mul, ← Gf.add_mul]
  congr 1
  rw [Gf.mul_add, Gf.add_mul, Gf.add_mul, Gf.add_mul, Gf.mul_comm (X i) u, ← x_assoc, x_assoc (Gf.mul t u), x_comm (Gf.mul t (X i))]
  simp only [x_assoc]
theorem zero_2 (ha : a < n) (hn : n ≤ 16) (hb : b < n) (hab : b ≠ a) (hx : ∀ i, i < n → i ≠ a → i ≠ b → x i = 0) {j k : Nat} (hjk : (j = 0 ∧ k = 1) ∨ (j = 1 ∧ k = 2) ∨ (j = 0 ∧ k = 2)) (h1 : syn n x j = 0) (h2 : syn n x k = 0) : x a = 0 := by
  have hne : X b ^^^ X a ≠ 0 := X_add_ne (by omega) (by omega) hab
  rcases hjk with ⟨rfl, rfl⟩ | ⟨rfl, rfl⟩ | ⟨rfl, rfl⟩
  · refine zero_of (fun i => X b ^^^ X i) ha hne (fun i hi hia => ?_) (by rw [← syn_01, h1, h2, Gf.mul_zero, x_self])
    by_cases hib : i = b
    · rw [hib, x_self, Gf.zero_mul]
    · rw [hx i hi hia hib, Gf.mul_zero]
  · refine zero_of (fun i => Gf.mul (X i) (X b ^^^ X i)) ha (mul_ne (X_ne a) hne) (fun i hi hia => ?_) (by rw [← syn_12, h1, h2, Gf.mul_zero, x_self])
    by_cases hib : i = b
    · rw [hib, x_self, Gf.mul_zero, Gf.zero_mul]
    · rw [hx i hi hia hib, Gf.mul_zero]
  · refine zero_of (fun i => Gf.mul (X b ^^^ X i) (X b ^^^ X i)) ha (mul_ne hne hne) (fun i hi hia => ?_) (by rw [← syn_02, h1, h2, Gf.mul_zero, x_self])
    by_cases hib : i = b
    · rw [hib, x_self, Gf.mul_zero, Gf.zero_mul]
    · rw [hx i hi hia hib, Gf.mul_zero]
theorem zero_3 (ha : a < n) (hn : n ≤ 16) (hb : b < n) (hab : b ≠ a) (hc : c < n) (hac : c ≠ a) (hx : ∀ i, i < n → i ≠ a → i ≠ b → i ≠ c → x i = 0) (h0 : syn n x 0 = 0) (h1 : syn n x 1 = 0) (h2 : syn n x 2 = 0) : x a = 0 := by
  have hne : X b ^^^ X a ≠ 0 := X_add_ne (by omega) (by omega) hab
  have hne2 : X c ^^^ X a ≠ 0 := X_add_ne (by omega) (by omega) hac
  refine zero_of (fun i => Gf.mul (X b ^^^ X i) (X c ^^^ X i)) ha (mul_ne hne hne2) (fun i hi hia => ?_) (by rw [← syn_012, h0, h1, h2, Gf.mul_zero, Gf.mul_zero, x_self, x_self])
  by_cases hib : i = b
  · rw [hib, x_self, Gf.zero_mul, Gf.zero_mul]
  · by_cases hic : i = c
    · rw [hic, x_self, Gf.mul_zero, Gf.zero_mul]
    · rw [hx i hi hia hib hic, Gf.mul_zero]
/-- What a place other than a is: it does not matter, another data piece, or a parity piece. -/
theorem kind (a b n : Nat) : (b = a ∨ n + 3 ≤ b) ∨ (b < n ∧ b ≠ a) ∨ ∃ j, j < 3 ∧ b = n + j := by
  by_cases h : b = a
  · exact .inl (.inl h)
  · by_cases h2 : b < n
    · exact .inr (.inl ⟨h2, h⟩)
    · by_cases h3 : b < n + 3
      · exact .inr (.inr ⟨b - n, by omega, by omega⟩)
      · exact .inl (.inr (by omega))
theorem mds_a (hn : n ≤ 16) (ha : a < n) (hx : ∀ i, i < n → i ≠ a → i ≠ b → i ≠ c → x i = 0) (hs : ∀ j, j < 3 → n + j ≠ a → n + j ≠ b → n + j ≠ c → syn n x j = 0) : x a = 0 := by
  rcases kind a b n with hb | ⟨hb, hba⟩ | ⟨j, hj, rfl⟩
  · have hb' : ∀ i, i < n → i ≠ a → i ≠ b := fun i hi h e => by rcases hb with hb | hb <;> omega
    have hb2 : ∀ i, i < 3 → n + i ≠ b := fun i hi e => by rcases hb with hb | hb <;> omega
    rcases kind a c n with hc | ⟨hc, hca⟩ | ⟨j, hj, rfl⟩
    · exact zero_1 ha (fun i hi h => hx i hi h (hb' i hi h) (fun e => by rcases hc with hc | hc <;> omega)) (hs 0 (by omega) (by omega) (hb2 0 (by omega)) (fun e => by rcases hc with hc | hc <;> omega))
    · exact zero_2 ha hn hc hca (fun i hi h h2 => hx i hi h (hb' i hi h) h2) (.inl ⟨rfl, rfl⟩) (hs 0 (by omega) (by omega) (hb2 0 (by omega)) (by omega)) (hs 1 (by omega) (by omega) (hb2 1 (by omega)) (by omega))
    · by_cases h0 : j = 0
      · exact zero_1 ha (fun i hi h => hx i hi h (hb' i hi h) (by omega)) (hs 1 (by omega) (by omega) (hb2 1 (by omega)) (by omega))
      · exact zero_1 ha (fun i hi h => hx i hi h (hb' i hi h) (by omega)) (hs 0 (by omega) (by omega) (hb2 0 (by omega)) (by omega))
  · rcases kind a c n with hc | ⟨hc, hca⟩ | ⟨j, hj, rfl⟩
    · have hc' : ∀ i, i < n → i ≠ a → i ≠ c := fun i hi h e => by rcases hc with hc | hc <;> omega
      have hc2 : ∀ i, i < 3 → n + i ≠ c := fun i hi e => by rcases hc with hc | hc <;> omega
      exact zero_2 ha hn hb hba (fun i hi h h2 => hx i hi h h2 (hc' i hi h)) (.inl ⟨rfl, rfl⟩) (hs 0 (by omega) (by omega) (by omega) (hc2 0 (by omega))) (hs 1 (by omega) (by omega) (by omega) (hc2 1 (by omega)))
    · exact zero_3 ha hn hb hba hc hca hx (hs 0 (by omega) (by omega) (by omega) (by omega)) (hs 1 (by omega) (by omega) (by omega) (by omega)) (hs 2 (by omega) (by omega) (by omega) (by omega))
    · have hx' : ∀ i, i < n → i ≠ a → i ≠ b → x i = 0 := fun i hi h h2 => hx i hi h h2 (by omega)
      by_cases h0 : j = 0
      · exact zero_2 ha hn hb hba hx' (.inr (.inl ⟨rfl, rfl⟩)) (hs 1 (by omega) (by omega) (by omega) (by omega)) (hs 2 (by omega) (by omega) (by omega) (by omega))
      · by_cases h1 : j = 1
        · exact zero_2 ha hn hb hba hx' (.inr (.inr ⟨rfl, rfl⟩)) (hs 0 (by omega) (by omega) (by omega) (by omega)) (hs 2 (by omega) (by omega) (by omega) (by omega))
        · exact zero_2 ha hn hb hba hx' (.inl ⟨rfl, rfl⟩) (hs 0 (by omega) (by omega) (by omega) (by omega)) (hs 1 (by omega) (by omega) (by omega) (by omega))
  · rcases kind a c n with hc | ⟨hc, hca⟩ | ⟨k, hk, rfl⟩
    · have hc' : ∀ i, i < n → i ≠ a → i ≠ c := fun i hi h e => by rcases hc with hc | hc <;> omega
      have hc2 : ∀ i, i < 3 → n + i ≠ c := fun i hi e => by rcases hc with hc | hc <;> omega
      by_cases h0 : j = 0
      · exact zero_1 ha (fun i hi h => hx i hi h (by omega) (hc' i hi h)) (hs 1 (by omega) (by omega) (by omega) (hc2 1 (by omega)))
      · exact zero_1 ha (fun i hi h => hx i hi h (by omega) (hc' i hi h)) (hs 0 (by omega) (by omega) (by omega) (hc2 0 (by omega)))
    · have hx' : ∀ i, i < n → i ≠ a → i ≠ c → x i = 0 := fun i hi h h2 => hx i hi h (by omega) h2
      by_cases h0 : j = 0
      · exact zero_2 ha hn hc hca hx' (.inr (.inl ⟨rfl, rfl⟩)) (hs 1 (by omega) (by omega) (by omega) (by omega)) (hs 2 (by omega) (by omega) (by omega) (by omega))
      · by_cases h1 : j = 1
        · exact zero_2 ha hn hc hca hx' (.inr (.inr ⟨rfl, rfl⟩)) (hs 0 (by omega) (by omega) (by omega) (by omega)) (hs 2 (by omega) (by omega) (by omega) (by omega))
        · exact zero_2 ha hn hc hca hx' (.inl ⟨rfl, rfl⟩) (hs 0 (by omega) (by omega) (by omega) (by omega)) (hs 1 (by omega) (by omega) (by omega) (by omega))
    · have hx' : ∀ i, i < n → i ≠ a → x i = 0 := fun i hi h => hx i hi h (by omega) (by omega)
      by_cases h0 : j ≠ 0 ∧ k ≠ 0
      · exact zero_1 ha hx' (hs 0 (by omega) (by omega) (by omega) (by omega))
      · by_cases h1 : j ≠ 1 ∧ k ≠ 1
        · exact zero_1 ha hx' (hs 1 (by omega) (by omega) (by omega) (by omega))
        · exact zero_1 ha hx' (hs 2 (by omega) (by omega) (by omega) (by omega))
/-- Data that are 0 but for the places a, b, c, whose sums are 0 but for the parity places among them, are 0. -/
theorem mds (hn : n ≤ 16) (hx : ∀ i, i < n → i ≠ a → i ≠ b → i ≠ c → x i = 0) (hs : ∀ j, j < 3 → n + j ≠ a → n + j ≠ b → n + j ≠ c → syn n x j = 0) : ∀ i, i < n → x i = 0 := by
  intro i hi
  by_cases h1 : i = a
  · subst h1; exact mds_a hn hi hx hs
  · by_cases h2 : i = b
    · subst h2
      exact mds_a hn hi (fun k hk e1 e2 e3 => hx k hk e2 e1 e3) (fun j hj e1 e2 e3 => hs j hj e2 e1 e3)
    · by_cases h3 : i = c
      · subst h3
        exact mds_a hn hi (fun k hk e1 e2 e3 => hx k hk e2 e3 e1) (fun j hj e1 e2 e3 => hs j hj e2 e3 e1)
      · exact hx i hi h1 h2 h3
end
end Go.Proofs.Ytifhjigkljdkmaa
