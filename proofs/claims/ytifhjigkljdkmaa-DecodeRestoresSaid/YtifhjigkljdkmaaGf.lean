/- Plain arithmetic of the field with 256 elements: the products of the program and of the reference are one product, which is commutative, associative, distributive over xor, with inverses. No program is named here. -/
import Derived.KernelRfl
namespace Go.Proofs.Ytifhjigkljdkmaa.Gf
set_option linter.unusedSimpArgs false
set_option linter.unusedVariables false

def dbl (x : Nat) : Nat := if x.testBit 7 then (2 * x) ^^^ 285 else 2 * x
def mulL : Nat → Nat → Nat → Nat → Nat
  | 0, _, _, o => o
  | k + 1, x, b, o => mulL k (dbl x) (b / 2) (if b.testBit 0 then o ^^^ x else o)
def mulN (a b : Nat) : Nat := mulL 8 a b 0
def powL : Nat → Nat → Nat → Nat → Nat
  | 0, _, _, o => o
  | k + 1, a, e, o => powL k (mulN a a) (e / 2) (if e.testBit 0 then mulN o a else o)
def all256 (p : Nat → Bool) : Bool := (List.range 256).all p
theorem of_all256 {p : Nat → Bool} (h : all256 p = true) {a : Nat} (ha : a < 256) : p a = true :=
  List.all_eq_true.1 h a (List.mem_range.2 ha)

/- the reference's product -/
def refA : Nat → Nat → Nat → Nat → Nat
  | 0, _, _, p => p
  | n + 1, a, b, p => refA n a b (if b.testBit (7 - n) then p ^^^ (a <<< (7 - n)) else p)
def refR : Nat → Nat → Nat
  | 0, p => p
  | n + 1, p => refR n (if p.testBit (n + 8) then p ^^^ (285 <<< n) else p)
def refN (a b : Nat) : Nat := refR 7 (refA 8 a b 0)

set_option maxRecDepth 10000 in
theorem inv_all : (all256 fun a => a == 0 || (powL 8 a 254 1 < 256 && mulN a (powL 8 a 254 1) == 1)) = true := by decide +kernel

/-! ### Linear maps over xor -/
def Lin (f : Nat → Nat) : Prop := ∀ x y, f (x ^^^ y) = f x ^^^ f y
theorem Lin.zero {f : Nat → Nat} (h : Lin f) : f 0 = 0 := by
  have := h 0 0
  simpa using this
theorem xor4 (a b c d : Nat) : (a ^^^ b) ^^^ (c ^^^ d) = (a ^^^ c) ^^^ (b ^^^ d) := by
  rw [Nat.xor_assoc, Nat.xor_assoc, ← Nat.xor_assoc b c d, Nat.xor_comm b c, Nat.xor_assoc c b d]
theorem two_mul_xor (x y : Nat) : 2 * (x ^^^ y) = 2 * x ^^^ 2 * y := by
  apply Nat.eq_of_testBit_eq
  intro i
  cases i with
  | zero => simp [Nat.testBit_zero]
  | succ i =>
    rw [Nat.testBit_xor, Nat.testBit_succ, Nat.testBit_succ, Nat.testBit_succ, Nat.mul_div_cancel_left _ (by omega), Nat.mul_div_cancel_left _ (by omega), Nat.mul_div_cancel_left _ (by omega), Nat.testBit_xor]
theorem half_xor (x y : Nat) : (x ^^^ y) / 2 = x / 2 ^^^ y / 2 := by
  apply Nat.eq_of_testBit_eq
  intro i
  simp [Nat.testBit_xor, Nat.testBit_div_two]
theorem dbl_lin : Lin dbl := by
  intro x y
  unfold dbl
  rw [Nat.testBit_xor, two_mul_xor]
  cases x.testBit 7 <;> cases y.testBit 7 <;> simp
  · rw [Nat.xor_assoc]
  · rw [Nat.xor_assoc, Nat.xor_assoc, Nat.xor_comm (2 * y) 285]
  · rw [xor4]; simp
theorem mulL_lin_x : ∀ (k x y b o p : Nat), mulL k (x ^^^ y) b (o ^^^ p) = mulL k x b o ^^^ mulL k y b p
  | 0, _, _, _, _, _ => rfl
  | k + 1, x, y, b, o, p => by
    unfold mulL
    rw [dbl_lin, ← mulL_lin_x k]
    congr 1
    cases b.testBit 0 <;> simp
    rw [xor4]
theorem mulL_lin_b : ∀ (k x b c o p : Nat), mulL k x (b ^^^ c) (o ^^^ p) = mulL k x b o ^^^ mulL k x c p
  | 0, _, _, _, _, _ => rfl
  | k + 1, x, b, c, o, p => by
    unfold mulL
    rw [half_xor, Nat.testBit_xor, ← mulL_lin_b k]
    congr 1
    cases b.testBit 0 <;> cases c.testBit 0 <;> simp
    · rw [Nat.xor_assoc]
    · rw [Nat.xor_assoc, Nat.xor_assoc, Nat.xor_comm p x]
    · rw [xor4]; simp
theorem mul_lin_l (b : Nat) : Lin (fun a => mulN a b) := fun x y => mulL_lin_x 8 x y b 0 0
theorem mul_lin_r (a : Nat) : Lin (fun b => mulN a b) := fun x y => mulL_lin_b 8 a x y 0 0
theorem shl_lin (n : Nat) : Lin (fun a => a <<< n) := by
  intro x y
  apply Nat.eq_of_testBit_eq
  intro i
  simp only [Nat.testBit_shiftLeft, Nat.testBit_xor]
  cases decide (i ≥ n) <;> simp
theorem refA_lin_x : ∀ (n x y b o p : Nat), refA n (x ^^^ y) b (o ^^^ p) = refA n x b o ^^^ refA n y b p
  | 0, _, _, _, _, _ => rfl
  | n + 1, x, y, b, o, p => by
    unfold refA
    rw [← refA_lin_x n]
    congr 1
    cases b.testBit (7 - n) <;> simp
    rw [show (x ^^^ y) <<< (7 - n) = x <<< (7 - n) ^^^ y <<< (7 - n) from shl_lin _ x y, xor4]
theorem refA_lin_b : ∀ (n x b c o p : Nat), refA n x (b ^^^ c) (o ^^^ p) = refA n x b o ^^^ refA n x c p
  | 0, _, _, _, _, _ => rfl
  | n + 1, x, b, c, o, p => by
    unfold refA
    rw [Nat.testBit_xor, ← refA_lin_b n]
    congr 1
    cases b.testBit (7 - n) <;> cases c.testBit (7 - n) <;> simp
    · rw [Nat.xor_assoc]
    · rw [Nat.xor_assoc, Nat.xor_assoc, Nat.xor_comm p]
    · rw [xor4]; simp
theorem refR_lin : ∀ n, Lin (refR n)
  | 0 => fun _ _ => rfl
  | n + 1 => fun x y => by
    unfold refR
    rw [Nat.testBit_xor, ← refR_lin n]
    congr 1
    cases x.testBit (n + 8) <;> cases y.testBit (n + 8) <;> simp
    · rw [Nat.xor_assoc]
    · rw [Nat.xor_assoc, Nat.xor_assoc, Nat.xor_comm y]
    · rw [xor4]; simp
theorem ref_lin_l (b : Nat) : Lin (fun a => refN a b) := fun x y => by
  show refR 7 (refA 8 (x ^^^ y) b 0) = _
  have := refA_lin_x 8 x y b 0 0
  rw [Nat.xor_self] at this
  rw [this, refR_lin]; rfl
theorem ref_lin_r (a : Nat) : Lin (fun b => refN a b) := fun x y => by
  show refR 7 (refA 8 a (x ^^^ y) 0) = _
  have := refA_lin_b 8 a x y 0 0
  rw [Nat.xor_self] at this
  rw [this, refR_lin]; rfl

theorem lin_ext_n {f g : Nat → Nat} (hf : Lin f) (hg : Lin g) (n : Nat) (h : ∀ i, i < n → f (2 ^ i) = g (2 ^ i)) : ∀ a, a < 2 ^ n → f a = g a := by
  induction n with
  | zero =>
    intro a ha
    obtain rfl : a = 0 := by simpa using ha
    rw [hf.zero, hg.zero]
  | succ n ih =>
    intro a ha
    have ih := ih (fun i hi => h i (Nat.lt_succ_of_lt hi))
    by_cases hlt : a < 2 ^ n
    · exact ih a hlt
    · have hbit : a.testBit n = true := by
        cases hb : a.testBit n with
        | true => rfl
        | false =>
          exfalso
          apply hlt
          apply Nat.lt_pow_two_of_testBit
          intro i hi
          rcases Nat.eq_or_lt_of_le hi with rfl | hi
          · exact hb
          · exact Nat.testBit_lt_two_pow (Nat.lt_of_lt_of_le ha (Nat.pow_le_pow_right (by omega) hi))
      have hc : a ^^^ 2 ^ n < 2 ^ n := by
        apply Nat.lt_pow_two_of_testBit
        intro i hi
        rw [Nat.testBit_xor]
        rcases Nat.eq_or_lt_of_le hi with rfl | hi
        · simp [hbit]
        · rw [Nat.testBit_lt_two_pow (Nat.lt_of_lt_of_le ha (Nat.pow_le_pow_right (by omega) hi)), Nat.testBit_two_pow]
          simp; omega
      have e : a = (a ^^^ 2 ^ n) ^^^ 2 ^ n := by rw [Nat.xor_assoc, Nat.xor_self, Nat.xor_zero]
      rw [e, hf, hg, ih _ hc, h n (Nat.lt_succ_self n)]
theorem lin_ext {f g : Nat → Nat} (hf : Lin f) (hg : Lin g) (h : ∀ i, i < 8 → f (2 ^ i) = g (2 ^ i)) (a : Nat) (ha : a < 256) : f a = g a := lin_ext_n hf hg 8 h a ha
theorem all8 {p : Nat → Prop} [DecidablePred p] (h : (List.range 8).all (fun i => decide (p i)) = true) : ∀ i, i < 8 → p i :=
  fun i hi => of_decide_eq_true (List.all_eq_true.1 h i (List.mem_range.2 hi))

theorem Lin.comp {f g : Nat → Nat} (hf : Lin f) (hg : Lin g) : Lin (fun a => f (g a)) := fun x y => by
  show f (g (x ^^^ y)) = _
  rw [hg, hf]
theorem comm_basis : (List.range 8).all (fun i => (List.range 8).all fun j => mulN (2 ^ i) (2 ^ j) == mulN (2 ^ j) (2 ^ i)) = true := by decide +kernel
theorem assoc_basis : (List.range 8).all (fun i => (List.range 8).all fun j => (List.range 8).all fun k => mulN (mulN (2 ^ i) (2 ^ j)) (2 ^ k) == mulN (2 ^ i) (mulN (2 ^ j) (2 ^ k))) = true := by decide +kernel
theorem ref_basis : (List.range 8).all (fun i => (List.range 8).all fun j => mulN (2 ^ i) (2 ^ j) == refN (2 ^ i) (2 ^ j)) = true := by decide +kernel
theorem one_basis : (List.range 8).all (fun j => mulN 1 (2 ^ j) == 2 ^ j) = true := by decide +kernel
theorem basis2 {p : Nat → Nat → Bool} (h : (List.range 8).all (fun i => (List.range 8).all fun j => p i j) = true) {i j : Nat} (hi : i < 8) (hj : j < 8) : p i j = true :=
  List.all_eq_true.1 (List.all_eq_true.1 h i (List.mem_range.2 hi)) j (List.mem_range.2 hj)

theorem mulN_comm {a b : Nat} (ha : a < 256) (hb : b < 256) : mulN a b = mulN b a :=
  lin_ext (mul_lin_l b) (mul_lin_r b) (fun i hi => lin_ext (mul_lin_r (2 ^ i)) (mul_lin_l (2 ^ i)) (fun j hj => by simpa using basis2 comm_basis hi hj) b hb) a ha
theorem mulN_assoc {a b c : Nat} (ha : a < 256) (hb : b < 256) (hc : c < 256) : mulN (mulN a b) c = mulN a (mulN b c) :=
  lin_ext (f := fun a => mulN (mulN a b) c) (g := fun a => mulN a (mulN b c)) ((mul_lin_l c).comp (mul_lin_l b)) (mul_lin_l _) (fun i hi =>
    lin_ext (f := fun b => mulN (mulN (2 ^ i) b) c) (g := fun b => mulN (2 ^ i) (mulN b c)) ((mul_lin_l c).comp (mul_lin_r _)) ((mul_lin_r _).comp (mul_lin_l c)) (fun j hj =>
      lin_ext (f := fun c => mulN (mulN (2 ^ i) (2 ^ j)) c) (g := fun c => mulN (2 ^ i) (mulN (2 ^ j) c)) (mul_lin_r _) ((mul_lin_r _).comp (mul_lin_r _)) (fun k hk => by
        have := List.all_eq_true.1 (List.all_eq_true.1 (List.all_eq_true.1 assoc_basis i (List.mem_range.2 hi)) j (List.mem_range.2 hj)) k (List.mem_range.2 hk)
        simpa using this) c hc) b hb) a ha
theorem mulN_ref {a b : Nat} (ha : a < 256) (hb : b < 256) : mulN a b = refN a b :=
  lin_ext (mul_lin_l b) (ref_lin_l b) (fun i hi => lin_ext (mul_lin_r (2 ^ i)) (ref_lin_r (2 ^ i)) (fun j hj => by simpa using basis2 ref_basis hi hj) b hb) a ha
theorem mulN_one {b : Nat} (hb : b < 256) : mulN 1 b = b :=
  lin_ext (f := fun b => mulN 1 b) (g := fun b => b) (mul_lin_r 1) (fun _ _ => rfl) (fun j hj => by simpa using List.all_eq_true.1 one_basis j (List.mem_range.2 hj)) b hb
theorem dbl_bound : (all256 fun a => decide (dbl a < 256)) = true := by decide +kernel
theorem dbl_lt {a : Nat} (ha : a < 256) : dbl a < 256 := of_decide_eq_true (of_all256 dbl_bound ha)
theorem mulL_lt : ∀ (k x b o : Nat), x < 256 → o < 256 → mulL k x b o < 256
  | 0, _, _, _, _, h => h
  | k + 1, x, b, o, hx, ho => by
    unfold mulL
    refine mulL_lt k _ _ _ (dbl_lt hx) ?_
    split
    · exact Nat.xor_lt_two_pow (n := 8) ho hx
    · exact ho
theorem mulN_lt {a : Nat} (b : Nat) (ha : a < 256) : mulN a b < 256 := mulL_lt 8 a b 0 ha (by omega)

/-! ### The field on bytes -/
abbrev F := UInt8
def mul (a b : F) : F := UInt8.ofNat (mulN a.toNat b.toNat)
theorem lt (a : F) : a.toNat < 256 := a.toNat_lt
theorem toNat_mul (a b : F) : (mul a b).toNat = mulN a.toNat b.toNat := by
  unfold mul
  rw [UInt8.toNat_ofNat']
  exact Nat.mod_eq_of_lt (mulN_lt _ (lt a))
theorem eq_of {a b : F} (h : a.toNat = b.toNat) : a = b := UInt8.toNat_inj.1 h
theorem mul_comm (a b : F) : mul a b = mul b a := eq_of (by rw [toNat_mul, toNat_mul]; exact mulN_comm (lt a) (lt b))
theorem mul_assoc (a b c : F) : mul (mul a b) c = mul a (mul b c) := eq_of (by simp only [toNat_mul]; exact mulN_assoc (lt a) (lt b) (lt c))
theorem one_mul (a : F) : mul 1 a = a := eq_of (by rw [toNat_mul]; exact mulN_one (lt a))
theorem mul_one (a : F) : mul a 1 = a := by rw [mul_comm, one_mul]
theorem add_mul (a b c : F) : mul (a ^^^ b) c = mul a c ^^^ mul b c := eq_of (by
  rw [toNat_mul, UInt8.toNat_xor, UInt8.toNat_xor, toNat_mul, toNat_mul]; exact mul_lin_l _ _ _)
theorem mul_add (a b c : F) : mul a (b ^^^ c) = mul a b ^^^ mul a c := by rw [mul_comm, add_mul, mul_comm b, mul_comm c]
theorem zero_mul (a : F) : mul 0 a = 0 := eq_of (by rw [toNat_mul]; exact (mul_lin_l _).zero)
theorem mul_zero (a : F) : mul a 0 = 0 := by rw [mul_comm, zero_mul]
theorem mul_left_comm (a b c : F) : mul a (mul b c) = mul b (mul a c) := by rw [← mul_assoc, mul_comm a b, mul_assoc]

/-- The inverse of a, 0 at 0. -/
def inv (a : F) : F := if a = 0 then 0 else UInt8.ofNat (powL 8 a.toNat 254 1)
theorem mul_inv {a : F} (h : a ≠ 0) : mul a (inv a) = 1 := by
  have hn : a.toNat ≠ 0 := fun e => h (eq_of (by simpa using e))
  have := of_all256 inv_all (lt a)
  simp only [Bool.or_eq_true, beq_iff_eq, hn, false_or, Bool.and_eq_true, decide_eq_true_eq] at this
  apply eq_of
  rw [toNat_mul, inv, if_neg h, UInt8.toNat_ofNat', Nat.mod_eq_of_lt this.1]
  exact this.2
theorem inv_mul {a : F} (h : a ≠ 0) : mul (inv a) a = 1 := by rw [mul_comm, mul_inv h]
theorem inv_zero : inv 0 = 0 := rfl
theorem one_ne_zero : (1 : F) ≠ 0 := by decide
theorem mul_eq_zero {a b : F} (h : mul a b = 0) : a = 0 ∨ b = 0 := by
  by_cases ha : a = 0
  · exact .inl ha
  · right
    have := congrArg (mul (inv a)) h
    rwa [← mul_assoc, inv_mul ha, one_mul, mul_zero] at this
theorem inv_ne_zero {a : F} (h : a ≠ 0) : inv a ≠ 0 := fun e => by
  have := mul_inv h
  rw [e, mul_zero] at this
  exact one_ne_zero this.symm
theorem inv_unique {a b : F} (h : mul a b = 1) : b = inv a := by
  have ha : a ≠ 0 := fun e => by rw [e, zero_mul] at h; exact one_ne_zero h.symm
  have := congrArg (mul (inv a)) h
  rwa [← mul_assoc, inv_mul ha, one_mul, mul_one] at this

/-! ### Powers -/
def pow (a : F) : Nat → F
  | 0 => 1
  | n + 1 => mul (pow a n) a
theorem pow_add (a : F) (m n : Nat) : pow a (m + n) = mul (pow a m) (pow a n) := by
  induction n with
  | zero => rw [Nat.add_zero, pow, mul_one]
  | succ n ih => rw [← Nat.add_assoc, pow, ih, pow, mul_assoc]
theorem pow_one (a : F) : pow a 1 = a := by rw [pow, pow, one_mul]
theorem pow_mul (a : F) (m n : Nat) : pow a (m * n) = pow (pow a m) n := by
  induction n with
  | zero => rfl
  | succ n ih => rw [Nat.mul_succ, pow_add, ih, pow]
theorem pow_two_mul (a : F) (n : Nat) : pow a (2 * n) = pow (mul a a) n := by
  rw [pow_mul]; congr 1; rw [pow, pow_one]
theorem pow_ne_zero {a : F} (h : a ≠ 0) (n : Nat) : pow a n ≠ 0 := by
  induction n with
  | zero => exact one_ne_zero
  | succ n ih => intro e; rcases mul_eq_zero e with e | e <;> contradiction
/-- Repeated squaring, as the program does it. -/
def sqr (k : Nat) (a : F) (e : Nat) (o : F) : F :=
  match k with
  | 0 => o
  | k + 1 => sqr k (mul a a) (e / 2) (if e.testBit 0 then mul o a else o)
theorem sqr_pow : ∀ (k : Nat) (a : F) (e : Nat) (o : F), e < 2 ^ k → sqr k a e o = mul o (pow a e)
  | 0, a, e, o, h => by
    obtain rfl : e = 0 := by simpa using h
    rw [sqr, pow, mul_one]
  | k + 1, a, e, o, h => by
    rw [sqr, sqr_pow k _ _ _ (by rw [Nat.pow_succ] at h; omega), ← pow_two_mul]
    cases hb : e.testBit 0 with
    | false =>
      rw [if_neg (by simp)]
      have : 2 * (e / 2) = e := by rw [Nat.testBit_zero] at hb; simp at hb; omega
      rw [this]
    | true =>
      rw [if_pos rfl, mul_assoc]
      have : 1 + 2 * (e / 2) = e := by rw [Nat.testBit_zero] at hb; simp at hb; omega
      congr 1
      rw [← this, pow_add, pow_one]
      congr 2
      omega
theorem powL_sqr : ∀ (k : Nat) (a : F) (e : Nat) (o : F), powL k a.toNat e o.toNat = (sqr k a e o).toNat
  | 0, _, _, _ => rfl
  | k + 1, a, e, o => by
    unfold powL sqr
    rw [← powL_sqr k, toNat_mul]
    congr 1
    split
    · exact (toNat_mul _ _).symm
    · rfl
theorem inv_pow (a : F) : inv a = pow a 254 := by
  unfold inv
  split
  · rename_i h; subst h; decide +kernel
  · apply eq_of
    rw [UInt8.toNat_ofNat', show powL 8 a.toNat 254 1 = powL 8 a.toNat 254 (1 : F).toNat from rfl, powL_sqr, sqr_pow 8 a 254 1 (by omega), one_mul]
    exact Nat.mod_eq_of_lt (lt _)
theorem pow_two_255 : pow 2 255 = 1 := by
  have h : pow 2 255 = sqr 8 2 255 1 := by rw [sqr_pow 8 2 255 1 (by omega), one_mul]
  rw [h]
  decide +kernel
theorem pow_two_mod (n : Nat) : pow 2 (n % 255) = pow 2 n := by
  have h : n = 255 * (n / 255) + n % 255 := (Nat.div_add_mod n 255).symm
  have one_pow : ∀ k, pow 1 k = 1 := fun k => by
    induction k with
    | zero => rfl
    | succ k ih => rw [pow, ih, one_mul]
  conv => rhs; rw [h, pow_add, pow_mul, pow_two_255, one_pow, one_mul]
theorem pow_zero (a : F) : pow a 0 = 1 := rfl
theorem pow_succ (a : F) (n : Nat) : pow a (n + 1) = mul (pow a n) a := rfl
attribute [irreducible] mul inv pow
end Go.Proofs.Ytifhjigkljdkmaa.Gf
