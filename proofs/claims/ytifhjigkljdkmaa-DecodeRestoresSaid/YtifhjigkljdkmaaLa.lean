/- Plain linear algebra over the field of 256 elements: sums, kernels, reduced bases. No program is named here. -/
import Derived.Test.YtifhjigkljdkmaaPl
namespace Go.Proofs.Ytifhjigkljdkmaa
open Gf (F)
set_option linter.unusedSimpArgs false
set_option linter.unusedVariables false

/-! ### Sums -/
theorem x_zero (a : F) : a ^^^ 0 = a := UInt8.xor_zero
theorem zero_x (a : F) : 0 ^^^ a = a := UInt8.zero_xor
theorem x_self (a : F) : a ^^^ a = 0 := UInt8.xor_self
theorem x_comm (a b : F) : a ^^^ b = b ^^^ a := UInt8.xor_comm a b
theorem x_assoc (a b c : F) : a ^^^ b ^^^ c = a ^^^ (b ^^^ c) := UInt8.xor_assoc a b c
theorem x_left (a b c : F) : a ^^^ (b ^^^ c) = b ^^^ (a ^^^ c) := by rw [← x_assoc, x_comm a b, x_assoc]
theorem x_four (a b c d : F) : (a ^^^ b) ^^^ (c ^^^ d) = (a ^^^ c) ^^^ (b ^^^ d) := by rw [x_assoc, x_assoc, x_left b c]
theorem x_eq_zero {a b : F} (h : a ^^^ b = 0) : a = b := by
  have := congrArg (· ^^^ b) h
  simpa [x_assoc, x_self, x_zero, zero_x] using this
theorem sumF_xor (n : Nat) (f g : Nat → F) : sumF n (fun k => f k ^^^ g k) = sumF n f ^^^ sumF n g := by
  induction n with
  | zero => rw [sumF_zero, sumF_zero, sumF_zero, x_zero]
  | succ n ih => rw [sumF_succ, sumF_succ, sumF_succ, ih, x_four]
theorem sumF_mul (n : Nat) (c : F) (f : Nat → F) : sumF n (fun k => Gf.mul c (f k)) = Gf.mul c (sumF n f) := by
  induction n with
  | zero => exact (Gf.mul_zero c).symm
  | succ n ih => rw [sumF_succ, sumF_succ, ih, Gf.mul_add]
theorem sumF_mul_r (n : Nat) (c : F) (f : Nat → F) : sumF n (fun k => Gf.mul (f k) c) = Gf.mul (sumF n f) c := by
  rw [Gf.mul_comm, ← sumF_mul]
  exact sumF_congr fun k _ => Gf.mul_comm _ _
theorem sumF_zero_of {n : Nat} {f : Nat → F} (h : ∀ k, k < n → f k = 0) : sumF n f = 0 := by
  induction n with
  | zero => rfl
  | succ n ih => rw [sumF_succ, ih (fun k hk => h k (by omega)), h n (by omega), x_zero]
theorem sumF_one {n i : Nat} {f : Nat → F} (hi : i < n) (h : ∀ k, k < n → k ≠ i → f k = 0) : sumF n f = f i := by
  induction n with
  | zero => omega
  | succ n ih =>
    rw [sumF_succ]
    by_cases e : i = n
    · subst e
      rw [sumF_zero_of fun k hk => h k (by omega) (by omega), zero_x]
    · rw [ih (by omega) fun k hk hne => h k (by omega) hne, h n (by omega) (Ne.symm e), x_zero]
theorem sumF_swap (n m : Nat) (f : Nat → Nat → F) : sumF n (fun i => sumF m fun j => f i j) = sumF m fun j => sumF n fun i => f i j := by
  induction n with
  | zero => exact (sumF_zero_of fun _ _ => rfl).symm
  | succ n ih =>
    rw [sumF_succ, ih, ← sumF_xor]
    exact sumF_congr fun j _ => by rw [sumF_succ]

/-! ### Products of rows -/
/-- The product of two lists, of c elements each. -/
def dot (c : Nat) (r : List F) (x : Nat → F) : F := sumF c fun j => Gf.mul (nth r j) (x j)
theorem dot_congr {c : Nat} {r s : List F} {x y : Nat → F} (h : ∀ j, j < c → nth r j = nth s j) (h2 : ∀ j, j < c → x j = y j) : dot c r x = dot c s y :=
  sumF_congr fun j hj => by rw [h j hj, h2 j hj]
theorem dot_fuse {c : Nat} {r s : List F} (u : F) (x : Nat → F) (hr : r.length = c) (hs : s.length = c) : dot c (fuse r s u) x = dot c r x ^^^ Gf.mul u (dot c s x) := by
  unfold dot
  rw [← sumF_mul, ← sumF_xor]
  refine sumF_congr fun j hj => ?_
  rw [nth_fuse u hr hs hj, Gf.add_mul, Gf.mul_assoc]
theorem dot_zero {c : Nat} {r : List F} {x : Nat → F} (h : ∀ j, j < c → nth r j = 0) : dot c r x = 0 := sumF_zero_of fun j hj => by rw [h j hj, Gf.zero_mul]

/-! ### Reduced bases -/
/-- x less multiples of the rows of B: 0 where they have their first element. -/
def redR (B : List (List F)) (x : List F) : List F := B.foldl (fun acc r => fuse acc r (nth acc (leadN r))) x
def zeroL (n : Nat) : List F := List.replicate n 0
/-- x, its first element made 1. -/
def norm (x : List F) : List F := fuse (zeroL x.length) x (Gf.inv (nth x (leadN x)))
def elimB (B : List (List F)) (y : List F) (k : Nat) : List (List F) := B.map fun r => fuse r y (nth r k)
def addB (B : List (List F)) (x : List F) : Option (List (List F)) :=
  if leadN (redR B x) < (redR B x).length then some (elimB B (norm (redR B x)) (leadN (redR B x)) ++ [norm (redR B x)]) else none
def indI (M : List (List F)) : Nat → List (List F) × List Int
  | 0 => ([], [])
  | i + 1 => match addB (indI M i).1 (mrow M i) with
    | some B => (B, (indI M i).2 ++ [(i : Int)])
    | none => indI M i
/-- The numbers of the first independent rows. -/
def indep (M : List (List F)) : List Int := (indI M M.length).2
structure Red (c : Nat) (B : List (List F)) : Prop where
  len : ∀ i, i < B.length → (mrow B i).length = c
  lead : ∀ i, i < B.length → leadN (mrow B i) < c
  one : ∀ i, i < B.length → nth (mrow B i) (leadN (mrow B i)) = 1
  zero : ∀ i j, i < B.length → j < B.length → j ≠ i → nth (mrow B j) (leadN (mrow B i)) = 0
theorem zeroL_length (n : Nat) : (zeroL n).length = n := List.length_replicate
theorem nth_zeroL (n j : Nat) : nth (zeroL n) j = 0 := by
  unfold nth zeroL
  rw [List.getD_eq_getElem?_getD]
  by_cases h : j < n <;> simp [h]
theorem norm_length (x : List F) : (norm x).length = x.length := fuse_length _ (zeroL_length _) rfl
theorem nth_norm {x : List F} {j : Nat} (hj : j < x.length) : nth (norm x) j = Gf.mul (Gf.inv (nth x (leadN x))) (nth x j) := by
  unfold norm
  rw [nth_fuse _ (zeroL_length _) rfl hj, nth_zeroL, zero_x]
/-- Where there is an element other than 0: the first. -/
theorem leadN_lt {x : List F} (h : leadN x < x.length) : nth x (leadN x) ≠ 0 ∧ ∀ j, j < leadN x → nth x j = 0 := by
  rcases lead_cases x with ⟨h1, _⟩ | ⟨k, _, _, hk, h2, h3⟩
  · unfold lead at h1
    rw [if_pos h] at h1
    omega
  · rw [hk]; exact ⟨h2, h3⟩
theorem leadN_ge {x : List F} (h : ¬ leadN x < x.length) (j : Nat) : nth x j = 0 := by
  rcases lead_cases x with ⟨_, h2⟩ | ⟨k, hk, _, he, _, _⟩
  · exact h2 j
  · rw [he] at h; exact absurd hk h
theorem leadN_norm {x : List F} (h : leadN x < x.length) : leadN (norm x) = leadN x := by
  obtain ⟨h1, h2⟩ := leadN_lt h
  refine leadN_of (by rw [norm_length]; exact h) ?_ fun j hj => ?_
  · rw [nth_norm h, Gf.inv_mul h1]; exact Gf.one_ne_zero
  · rw [nth_norm (by omega), h2 j hj, Gf.mul_zero]
theorem nth_norm_lead {x : List F} (h : leadN x < x.length) : nth (norm x) (leadN x) = 1 := by
  rw [nth_norm h, Gf.inv_mul (leadN_lt h).1]
theorem mrow_append_left {A B : List (List F)} {i : Nat} (h : i < A.length) : mrow (A ++ B) i = mrow A i := by
  unfold mrow
  simp [List.getElem?_append_left h]
theorem mrow_append_right (A : List (List F)) (x : List F) : mrow (A ++ [x]) A.length = x := by
  unfold mrow
  simp
theorem mrow_elimB {B : List (List F)} {i : Nat} (y : List F) (k : Nat) (h : i < B.length) : mrow (elimB B y k) i = fuse (mrow B i) y (nth (mrow B i) k) := by
  rw [mrow_of_lt (by simpa [elimB] using h), mrow_of_lt h]
  simp [elimB]
theorem elimB_length (B : List (List F)) (y : List F) (k : Nat) : (elimB B y k).length = B.length := by simp [elimB]
/-- After the first n rows. -/
theorem redR_take {c : Nat} {B : List (List F)} (hB : Red c B) {x : List F} (hx : x.length = c) : ∀ n, n ≤ B.length → (redR (B.take n) x).length = c ∧
    (∀ i, i < B.length → nth (redR (B.take n) x) (leadN (mrow B i)) = if i < n then 0 else nth x (leadN (mrow B i))) ∧
    (∀ j, j < c → nth (redR (B.take n) x) j = nth x j ^^^ sumF n fun i => Gf.mul (nth x (leadN (mrow B i))) (nth (mrow B i) j)) := by
  intro n
  induction n with
  | zero =>
    intro _
    refine ⟨hx, fun i _ => by rw [if_neg (Nat.not_lt_zero _)]; rfl, fun j _ => by rw [sumF_zero, x_zero]; rfl⟩
  | succ n ih =>
    intro hn
    obtain ⟨h1, h2, h3⟩ := ih (by omega)
    have hlt : n < B.length := by omega
    have e : redR (B.take (n + 1)) x = fuse (redR (B.take n) x) (mrow B n) (nth x (leadN (mrow B n))) := by
      unfold redR
      rw [List.take_succ_eq_append_getElem hlt, List.foldl_append, ← mrow_of_lt hlt]
      simp only [List.foldl_cons, List.foldl_nil]
      have := h2 n hlt
      rw [if_neg (Nat.lt_irrefl n)] at this
      unfold redR at this
      rw [this]
    have hl := hB.len n hlt
    rw [e]
    refine ⟨fuse_length _ h1 hl, fun i hi => ?_, fun j hj => ?_⟩
    · rw [nth_fuse _ h1 hl (hB.lead i hi), h2 i hi]
      by_cases e1 : i = n
      · subst e1
        rw [if_neg (Nat.lt_irrefl i), if_pos (Nat.lt_succ_self i), hB.one i hi, Gf.mul_one, x_self]
      · rw [hB.zero i n hi hlt (Ne.symm e1), Gf.mul_zero, x_zero]
        by_cases e2 : i < n
        · rw [if_pos e2, if_pos (by omega)]
        · rw [if_neg e2, if_neg (by omega)]
    · rw [nth_fuse _ h1 hl hj, h3 j hj, sumF_succ, x_assoc]
theorem redR_all {c : Nat} {B : List (List F)} (hB : Red c B) {x : List F} (hx : x.length = c) : (redR B x).length = c ∧ (∀ i, i < B.length → nth (redR B x) (leadN (mrow B i)) = 0) ∧
    (∀ j, j < c → nth (redR B x) j = nth x j ^^^ sumF B.length fun i => Gf.mul (nth x (leadN (mrow B i))) (nth (mrow B i) j)) := by
  obtain ⟨h1, h2, h3⟩ := redR_take hB hx B.length (Nat.le_refl _)
  rw [List.take_length] at h1 h2 h3
  exact ⟨h1, fun i hi => by rw [h2 i hi, if_pos hi], h3⟩
/-- What elimination does to a row of the basis: its first element stays where it is. -/
theorem elim_row {c : Nat} {B : List (List F)} (hB : Red c B) {z : List F} (hz : z.length = c) (hl : leadN z < c) (hzero : ∀ i, i < B.length → nth z (leadN (mrow B i)) = 0) {i : Nat} (hi : i < B.length) :
    (fuse (mrow B i) (norm z) (nth (mrow B i) (leadN z))).length = c ∧ leadN (fuse (mrow B i) (norm z) (nth (mrow B i) (leadN z))) = leadN (mrow B i) ∧
    (∀ j, j < c → nth (fuse (mrow B i) (norm z) (nth (mrow B i) (leadN z))) j = nth (mrow B i) j ^^^ Gf.mul (nth (mrow B i) (leadN z)) (nth (norm z) j)) ∧
    (∀ i', i' < B.length → nth (norm z) (leadN (mrow B i')) = 0) := by
  have hl' : leadN z < z.length := by rw [hz]; exact hl
  have hn : (norm z).length = c := by rw [norm_length, hz]
  have hr := hB.len i hi
  have hf := fuse_length (nth (mrow B i) (leadN z)) hr hn
  have hnz : ∀ i', i' < B.length → nth (norm z) (leadN (mrow B i')) = 0 := fun i' hi' => by
    rw [nth_norm (by rw [hz]; exact hB.lead i' hi'), hzero i' hi', Gf.mul_zero]
  have hnth : ∀ j, j < c → nth (fuse (mrow B i) (norm z) (nth (mrow B i) (leadN z))) j = nth (mrow B i) j ^^^ Gf.mul (nth (mrow B i) (leadN z)) (nth (norm z) j) := fun j hj => nth_fuse _ hr hn hj
  refine ⟨hf, leadN_of (by rw [hf]; exact hB.lead i hi) ?_ fun j hj => ?_, hnth, hnz⟩
  · rw [hnth _ (hB.lead i hi), hnz i hi, Gf.mul_zero, x_zero, hB.one i hi]
    exact Gf.one_ne_zero
  · have hjc : j < c := Nat.lt_trans hj (hB.lead i hi)
    have hbj : nth (mrow B i) j = 0 := (leadN_lt (by rw [hr]; exact hB.lead i hi)).2 j hj
    rw [hnth j hjc, hbj, zero_x]
    by_cases hlt : j < leadN z
    · rw [nth_norm (by rw [hz]; exact hjc), (leadN_lt hl').2 j hlt, Gf.mul_zero, Gf.mul_zero]
    · have : nth (mrow B i) (leadN z) = 0 := (leadN_lt (by rw [hr]; exact hB.lead i hi)).2 _ (by omega)
      rw [this, Gf.zero_mul]
/-- A row that is added keeps the basis reduced. -/
theorem addB_red {c : Nat} {B B' : List (List F)} (hB : Red c B) {x : List F} (hx : x.length = c) (h : addB B x = some B') : Red c B' ∧ B'.length = B.length + 1 ∧ ∀ i, i < B.length → leadN (mrow B' i) = leadN (mrow B i) := by
  obtain ⟨h1, h2, _⟩ := redR_all hB hx
  unfold addB at h
  by_cases hl : leadN (redR B x) < (redR B x).length
  case neg => rw [if_neg hl] at h; cases h
  rw [if_pos hl] at h
  cases h
  generalize redR B x = z at *
  have hlc : leadN z < c := by rw [← h1]; exact hl
  have hlen : (elimB B (norm z) (leadN z) ++ [norm z]).length = B.length + 1 := by simp [elimB_length]
  have e1 : ∀ i, i < B.length → mrow (elimB B (norm z) (leadN z) ++ [norm z]) i = fuse (mrow B i) (norm z) (nth (mrow B i) (leadN z)) := fun i hi => by
    rw [mrow_append_left (by rw [elimB_length]; exact hi), mrow_elimB _ _ hi]
  have e2 : mrow (elimB B (norm z) (leadN z) ++ [norm z]) B.length = norm z := by
    have := mrow_append_right (elimB B (norm z) (leadN z)) (norm z)
    rwa [elimB_length] at this
  have cases_ : ∀ i, i < B.length + 1 → i < B.length ∨ i = B.length := fun i hi => by omega
  refine ⟨⟨fun i hi => ?_, fun i hi => ?_, fun i hi => ?_, fun i j hi hj hne => ?_⟩, hlen, fun i hi => by rw [e1 i hi]; exact (elim_row hB h1 hlc h2 hi).2.1⟩
  · rw [hlen] at hi
    rcases cases_ i hi with hi | rfl
    · rw [e1 i hi]; exact (elim_row hB h1 hlc h2 hi).1
    · rw [e2, norm_length, h1]
  · rw [hlen] at hi
    rcases cases_ i hi with hi | rfl
    · rw [e1 i hi, (elim_row hB h1 hlc h2 hi).2.1]; exact hB.lead i hi
    · rw [e2, leadN_norm hl]; exact hlc
  · rw [hlen] at hi
    rcases cases_ i hi with hi | rfl
    · obtain ⟨_, q2, q3, q4⟩ := elim_row hB h1 hlc h2 hi
      rw [e1 i hi, q2, q3 _ (hB.lead i hi), q4 i hi, Gf.mul_zero, x_zero, hB.one i hi]
    · rw [e2, leadN_norm hl, nth_norm_lead hl]
  · rw [hlen] at hi hj
    rcases cases_ i hi with hi | rfl
    · obtain ⟨_, q2, _, q4⟩ := elim_row hB h1 hlc h2 hi
      rw [e1 i hi, q2]
      rcases cases_ j hj with hj | rfl
      · rw [e1 j hj, (elim_row hB h1 hlc h2 hj).2.2.1 _ (hB.lead i hi), q4 i hi, Gf.mul_zero, x_zero, hB.zero i j hi hj hne]
      · rw [e2, q4 i hi]
    · rw [e2, leadN_norm hl]
      rcases cases_ j hj with hj | rfl
      · rw [e1 j hj, (elim_row hB h1 hlc h2 hj).2.2.1 _ hlc, nth_norm_lead hl, Gf.mul_one, x_self]
      · exact absurd rfl hne
theorem red_nil (c : Nat) : Red c [] := ⟨fun _ hi => absurd hi (Nat.not_lt_zero _), fun _ hi => absurd hi (Nat.not_lt_zero _), fun _ hi => absurd hi (Nat.not_lt_zero _), fun _ _ hi => absurd hi (Nat.not_lt_zero _)⟩
theorem indI_red {M : List (List F)} {c : Nat} (hM : ∀ i, i < M.length → (mrow M i).length = c) : ∀ n, n ≤ M.length → Red c (indI M n).1 ∧ (indI M n).2.length = (indI M n).1.length ∧ (indI M n).1.length ≤ n
  | 0, _ => ⟨red_nil c, rfl, Nat.le_refl _⟩
  | n + 1, hn => by
    obtain ⟨h1, h2, h3⟩ := indI_red hM n (by omega)
    unfold indI
    cases e : addB (indI M n).1 (mrow M n) with
    | none => exact ⟨h1, h2, Nat.le_succ_of_le h3⟩
    | some B =>
      obtain ⟨q1, q2, _⟩ := addB_red h1 (hM n (by omega)) e
      exact ⟨q1, by simp [q2, h2], by simp only; omega⟩
end Go.Proofs.Ytifhjigkljdkmaa
