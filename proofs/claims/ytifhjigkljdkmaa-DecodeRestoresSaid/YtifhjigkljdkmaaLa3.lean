/- Plain linear algebra over the field of 256 elements, third part: Gauss and Jordan find the inverse exactly if no other vector than 0 lies in the kernel; products of matrices. No program is named here. -/
import Derived.Test.YtifhjigkljdkmaaLa2
import Derived.Test.YtifhjigkljdkmaaM6
namespace Go.Proofs.Ytifhjigkljdkmaa
open Gf (F)
set_option linter.unusedSimpArgs false
set_option linter.unusedVariables false

/-! ### Kernels of matrices that are functions -/
def rdot (N : Nat) (st : Nat → Nat → F) (i : Nat) (z : Nat → F) : F := sumF N fun j => Gf.mul (st i j) (z j)
def Kst (n N : Nat) (st : Nat → Nat → F) (z : Nat → F) : Prop := ∀ i, i < n → rdot N st i z = 0
section
variable {n N c q : Nat} {st : Nat → Nat → F} {z : Nat → F}
theorem rdot_congr {s t : Nat → Nat → F} {i j : Nat} (h : ∀ k, k < N → s i k = t j k) : rdot N s i z = rdot N t j z := sumF_congr fun k hk => by rw [h k hk]
theorem kst_swap (hc : c < n) (hq : q < n) : Kst n N (swapS st c q) z ↔ Kst n N st z := by
  have e1 : ∀ i, rdot N (swapS st c q) i z = rdot N st (if i = c then q else if i = q then c else i) z := fun i => rdot_congr fun k _ => by
    unfold swapS
    by_cases h1 : i = c
    · rw [if_pos h1, if_pos h1]
    · rw [if_neg h1, if_neg h1]
      by_cases h2 : i = q
      · rw [if_pos h2, if_pos h2]
      · rw [if_neg h2, if_neg h2]
  constructor
  · intro h i hi
    by_cases h1 : i = c
    · have := h q hq
      rw [e1] at this
      by_cases h2 : q = c
      · rw [if_pos h2] at this; rw [h1, ← h2]; exact this
      · rw [if_neg h2, if_pos rfl] at this; rw [h1]; exact this
    · by_cases h2 : i = q
      · have := h c hc
        rw [e1, if_pos rfl] at this
        rw [h2]; exact this
      · have := h i hi
        rw [e1, if_neg h1, if_neg h2] at this
        exact this
  · intro h i hi
    rw [e1]
    refine h _ ?_
    split
    · exact hq
    · split
      · exact hc
      · exact hi
theorem rdot_scale (i : Nat) : rdot N (scaleS st c) i z = if i = c then Gf.mul (Gf.inv (st c c)) (rdot N st c z) else rdot N st i z := by
  unfold rdot scaleS
  by_cases h : i = c
  · rw [if_pos h, ← sumF_mul]
    exact sumF_congr fun j _ => by rw [if_pos h, Gf.mul_assoc]
  · rw [if_neg h]
    exact sumF_congr fun j _ => by rw [if_neg h]
theorem kst_scale (hc : c < n) (h0 : st c c ≠ 0) : Kst n N (scaleS st c) z ↔ Kst n N st z := by
  constructor
  · intro h i hi
    have := h i hi
    rw [rdot_scale] at this
    by_cases e : i = c
    · rw [if_pos e] at this
      rcases Gf.mul_eq_zero this with h1 | h1
      · exact absurd h1 (Gf.inv_ne_zero h0)
      · rw [e]; exact h1
    · rwa [if_neg e] at this
  · intro h i hi
    rw [rdot_scale]
    by_cases e : i = c
    · rw [if_pos e, h c hc, Gf.mul_zero]
    · rw [if_neg e, h i hi]
theorem rdot_elim {i : Nat} (hi : i < n) : rdot N (elimS st c n) i z = if i ≠ c then rdot N st i z ^^^ Gf.mul (st i c) (rdot N st c z) else rdot N st i z := by
  unfold rdot elimS
  by_cases h : i ≠ c
  · rw [if_pos h, ← sumF_mul, ← sumF_xor]
    exact sumF_congr fun j _ => by rw [if_pos ⟨hi, h⟩, Gf.add_mul, Gf.mul_assoc]
  · rw [if_neg h]
    exact sumF_congr fun j _ => by rw [if_neg fun h' => h h'.2]
theorem kst_elim (hc : c < n) : Kst n N (elimS st c n) z ↔ Kst n N st z := by
  constructor
  · intro h
    have hcc : rdot N st c z = 0 := by
      have := h c hc
      rwa [rdot_elim hc, if_neg (fun h => h rfl)] at this
    intro i hi
    have := h i hi
    rw [rdot_elim hi, hcc, Gf.mul_zero, x_zero] at this
    by_cases e : i ≠ c
    · rwa [if_pos e] at this
    · rwa [if_neg e] at this
  · intro h i hi
    rw [rdot_elim hi, h c hc, h i hi, Gf.mul_zero, x_zero]
    split <;> rfl
/-- The pivot. -/
theorem pivot (h : leadN (colS st c n) < n - c) : c + leadN (colS st c n) < n ∧ c ≤ c + leadN (colS st c n) ∧ (swapS st c (c + leadN (colS st c n))) c c ≠ 0 := by
  refine ⟨by omega, by omega, ?_⟩
  have h2 := (leadN_lt (x := colS st c n) (by unfold colS at *; rw [mkr_length]; exact h)).1
  unfold swapS
  rw [if_pos rfl]
  generalize leadN (colS st c n) = k at *
  unfold colS at h2
  rwa [nth_mkr _ h] at h2
theorem kst_step (hc : c < n) (h : leadN (colS st c n) < n - c) : Kst n N (stepS n c st) z ↔ Kst n N st z := by
  obtain ⟨h1, _, h3⟩ := pivot h
  unfold stepS
  rw [kst_elim hc, kst_scale hc h3, kst_swap hc h1]
/-- Columns below c are unit columns. -/
def Unit (n c : Nat) (st : Nat → Nat → F) : Prop := ∀ i j, i < n → j < c → st i j = if i = j then 1 else 0
theorem unit_step (hc : c < n) (h : leadN (colS st c n) < n - c) (hu : Unit n c st) : Unit n (c + 1) (stepS n c st) := by
  obtain ⟨h1, h2, h3⟩ := pivot h
  unfold stepS
  generalize c + leadN (colS st c n) = q at *
  have s1 : ∀ i j, i < n → j < c → swapS st c q i j = if i = j then 1 else 0 := fun i j hi hj => by
    unfold swapS
    by_cases e1 : i = c
    · rw [if_pos e1, hu q j h1 hj, if_neg (by omega), if_neg (by omega)]
    · rw [if_neg e1]
      by_cases e2 : i = q
      · rw [if_pos e2, hu c j hc hj, if_neg (by omega), if_neg (by omega)]
      · rw [if_neg e2, hu i j hi hj]
  generalize swapS st c q = s at *
  have s2 : ∀ i j, i < n → j < c → scaleS s c i j = if i = j then 1 else 0 := fun i j hi hj => by
    unfold scaleS
    by_cases e1 : i = c
    · rw [if_pos e1, s1 c j hc hj, if_neg (by omega), Gf.mul_zero, if_neg (by omega)]
    · rw [if_neg e1, s1 i j hi hj]
  have s3 : scaleS s c c c = 1 := by
    unfold scaleS
    rw [if_pos rfl, Gf.inv_mul h3]
  generalize scaleS s c = t at *
  intro i j hi hj
  unfold elimS
  rcases Nat.lt_succ_iff_lt_or_eq.1 hj with hj | rfl
  · by_cases e1 : i = c
    · rw [if_neg (fun h => h.2 e1), s2 i j hi hj]
    · rw [if_pos ⟨hi, e1⟩, s2 i j hi hj, s2 c j hc hj, if_neg (show ¬ c = j by omega), Gf.mul_zero, x_zero]
  · by_cases e1 : i = j
    · rw [if_neg (fun h => h.2 e1), if_pos e1, e1, s3]
    · rw [if_pos ⟨hi, e1⟩, if_neg e1, s3, Gf.mul_one, x_self]
end
theorem sumF_add (a b : Nat) (f : Nat → F) : sumF (a + b) f = sumF a f ^^^ sumF b fun k => f (a + k) := by
  induction b with
  | zero => rw [Nat.add_zero, sumF_zero, x_zero]
  | succ b ih => rw [← Nat.add_assoc, sumF_succ, ih, sumF_succ, x_assoc]
section
variable {M : List (List F)} {n : Nat}
theorem gj_inv : ∀ c, c ≤ n → ∀ st, gjS M n c = some st → (∀ z, Kst n (n + n) st z ↔ Kst n (n + n) (augS M n) z) ∧ Unit n c st
  | 0, _, st, h => by
    cases h
    exact ⟨fun _ => Iff.rfl, fun _ j _ hj => absurd hj (Nat.not_lt_zero _)⟩
  | c + 1, hc, st, h => by
    cases e : gjS M n c with
    | none => rw [gjS_mono e (c + 1) (by omega)] at h; cases h
    | some s =>
      obtain ⟨h1, h2⟩ := gj_inv c (by omega) s e
      rw [gjS_succ e] at h
      by_cases hl : leadN (colS s c n) < n - c
      · rw [if_pos hl] at h
        cases h
        exact ⟨fun z => (kst_step (by omega) hl).trans (h1 z), unit_step (by omega) hl h2⟩
      · rw [if_neg hl] at h; cases h
theorem aug_ker (z : Nat → F) : Kst n (n + n) (augS M n) z ↔ ∀ i, i < n → z (n + i) = dot n (mrow M i) z := by
  have e : ∀ i, i < n → rdot (n + n) (augS M n) i z = dot n (mrow M i) z ^^^ z (n + i) := fun i hi => by
    unfold rdot dot
    rw [sumF_add]
    congr 1
    · refine sumF_congr fun j hj => ?_
      unfold augS
      rw [if_pos hj]
      rfl
    · rw [sumF_one hi fun k hk hne => by unfold augS; rw [if_neg (by omega), if_neg (by omega), Gf.zero_mul]]
      unfold augS
      rw [if_neg (by omega), if_pos rfl, Gf.one_mul]
  constructor
  · intro h i hi
    have := h i hi
    rw [e i hi] at this
    exact (x_eq_zero this).symm
  · intro h i hi
    rw [e i hi, h i hi, x_self]
/-- Success: both products. -/
theorem gj_some {st : Nat → Nat → F} (h : gjS M n n = some st) :
    (∀ x : Nat → F, ∀ i, i < n → sumF n (fun j => Gf.mul (st i (n + j)) (dot n (mrow M j) x)) = x i) ∧
    (∀ y : Nat → F, ∀ i, i < n → dot n (mrow M i) (fun k => sumF n fun j => Gf.mul (st k (n + j)) (y j)) = y i) := by
  obtain ⟨h1, h2⟩ := gj_inv n (Nat.le_refl _) st h
  have e : ∀ (z : Nat → F) i, i < n → rdot (n + n) st i z = z i ^^^ sumF n fun j => Gf.mul (st i (n + j)) (z (n + j)) := fun z i hi => by
    unfold rdot
    rw [sumF_add]
    congr 1
    rw [sumF_one hi fun k hk hne => by rw [h2 i k hi hk, if_neg (Ne.symm hne), Gf.zero_mul], h2 i i hi hi, if_pos rfl, Gf.one_mul]
  constructor
  · intro x i hi
    let z : Nat → F := fun p => if p < n then x p else dot n (mrow M (p - n)) x
    have za : ∀ p, p < n → z p = x p := fun p hp => if_pos hp
    have zb : ∀ p, z (n + p) = dot n (mrow M p) x := fun p => by
      show (if n + p < n then _ else _) = _
      rw [if_neg (by omega), Nat.add_sub_cancel_left]
    have hz : Kst n (n + n) (augS M n) z := (aug_ker z).2 fun i hi => by
      rw [zb]
      exact dot_congr (fun _ _ => rfl) fun j hj => (za j hj).symm
    have := (h1 z).2 hz i hi
    rw [e z i hi, za i hi] at this
    rw [x_eq_zero this]
    exact sumF_congr fun j hj => by rw [zb]
  · intro y i hi
    let z : Nat → F := fun p => if p < n then sumF n (fun j => Gf.mul (st p (n + j)) (y j)) else y (p - n)
    have za : ∀ p, p < n → z p = sumF n (fun j => Gf.mul (st p (n + j)) (y j)) := fun p hp => if_pos hp
    have zb : ∀ p, z (n + p) = y p := fun p => by
      show (if n + p < n then _ else _) = _
      rw [if_neg (by omega), Nat.add_sub_cancel_left]
    have hz : Kst n (n + n) st z := fun i hi => by
      rw [e z i hi, za i hi, sumF_congr (f := fun j => Gf.mul (st i (n + j)) (z (n + j))) (g := fun j => Gf.mul (st i (n + j)) (y j)) fun j hj => by rw [zb], x_self]
    have := (aug_ker z).1 ((h1 z).1 hz) i hi
    rw [zb] at this
    rw [this]
    exact dot_congr (fun _ _ => rfl) fun j hj => (za j hj).symm
/-- Failure: a vector of the kernel. -/
theorem gj_none (h : gjS M n n = none) : ∃ x : Nat → F, (∀ i, i < n → dot n (mrow M i) x = 0) ∧ ∃ j, j < n ∧ x j ≠ 0 := by
  have hex : ∀ m, gjS M n m = none → ∃ c st, c < m ∧ gjS M n c = some st ∧ ¬ leadN (colS st c n) < n - c := by
    intro m
    induction m with
    | zero => intro h; cases h
    | succ m ih =>
      intro h
      cases e : gjS M n m with
      | none =>
        obtain ⟨c, st, h1, h2⟩ := ih e
        exact ⟨c, st, by omega, h2⟩
      | some st =>
        refine ⟨m, st, by omega, e, fun hl => ?_⟩
        rw [gjS_succ e, if_pos hl] at h
        cases h
  obtain ⟨c, st, hc, e, hl⟩ := hex n h
  obtain ⟨h1, h2⟩ := gj_inv c (by omega) st e
  have hcol : ∀ i, c ≤ i → i < n → st i c = 0 := fun i hi hin => by
    have := leadN_ge (x := colS st c n) (by unfold colS at *; rw [mkr_length]; exact hl) (i - c)
    unfold colS at this
    rw [nth_mkr _ (by omega)] at this
    rw [show c + (i - c) = i by omega] at this
    exact this
  let z : Nat → F := fun p => (if p = c then 1 else 0) ^^^ (if p < c then st p c else 0)
  have hz : Kst n (n + n) st z := fun i hi => by
    unfold rdot
    have e2 : ∀ p, p < n + n → Gf.mul (st i p) (z p) = Gf.mul (st i p) (if p = c then 1 else 0) ^^^ Gf.mul (st i p) (if p < c then st p c else 0) := fun p _ => Gf.mul_add _ _ _
    rw [sumF_congr e2, sumF_xor, sumF_one (show c < n + n by omega) fun k _ hne => by rw [if_neg hne, Gf.mul_zero], if_pos rfl, Gf.mul_one]
    by_cases hic : i < c
    · rw [sumF_one (show i < n + n by omega) fun k _ hne => by
        by_cases hk : k < c
        · rw [h2 i k hi hk, if_neg (Ne.symm hne), Gf.zero_mul]
        · rw [if_neg hk, Gf.mul_zero], h2 i i hi hic, if_pos rfl, if_pos hic, Gf.one_mul, x_self]
    · rw [hcol i (by omega) hi, zero_x]
      refine sumF_zero_of fun k _ => ?_
      by_cases hk : k < c
      · rw [h2 i k hi hk, if_neg (by omega), Gf.zero_mul]
      · rw [if_neg hk, Gf.mul_zero]
  have hk := (aug_ker z).1 ((h1 z).1 hz)
  refine ⟨z, fun i hi => ?_, c, hc, ?_⟩
  · rw [← hk i hi]
    show (if n + i = c then 1 else 0) ^^^ (if n + i < c then st (n + i) c else 0) = 0
    rw [if_neg (by omega), if_neg (by omega), x_zero]
  · show (if c = c then 1 else 0) ^^^ (if c < c then st c c else 0) ≠ (0 : F)
    rw [if_pos rfl, if_neg (Nat.lt_irrefl c), x_zero]
    exact Gf.one_ne_zero
end
/-! ### Products -/
def unitV (k j : Nat) : F := if j = k then 1 else 0
theorem dot_unit {c k : Nat} (r : List F) (hk : k < c) : dot c r (unitV k) = nth r k := by
  unfold dot unitV
  rw [sumF_one hk fun j _ hne => by rw [if_neg hne, Gf.mul_zero], if_pos rfl, Gf.mul_one]
theorem ent_mkm {r c i j : Nat} (f : Nat → Nat → F) (hi : i < r) (hj : j < c) : ent (mkm r c f) i j = f i j := by
  unfold ent
  rw [mrow_mkm _ hi, nth_mkr _ hj]
theorem mkm_congr {r c : Nat} {f g : Nat → Nat → F} (h : ∀ i j, i < r → j < c → f i j = g i j) : mkm r c f = mkm r c g := by
  unfold mkm
  exact List.map_congr_left fun i hi => mkr_congr fun j hj => h i j (List.mem_range.1 hi) hj
/-- A matrix with r rows and c columns. -/
structure Dim (r c : Nat) (M : List (List F)) : Prop where
  len : M.length = r
  row : ∀ i, i < r → (mrow M i).length = c
theorem Dim.mkm (r c : Nat) (f : Nat → Nat → F) : Dim r c (mkm r c f) := ⟨mkm_length _ _ _, fun i hi => by rw [mrow_mkm _ hi, mkr_length]⟩
theorem Dim.eq {r c : Nat} {M : List (List F)} (h : Dim r c M) : M = Go.Proofs.Ytifhjigkljdkmaa.mkm r c (ent M) := by
  refine mrow_ext (by rw [mkm_length, h.len]) fun i hi => ?_
  rw [h.len] at hi
  rw [mrow_mkm _ hi]
  refine nth_ext (by rw [mkr_length, h.row i hi]) fun j hj => ?_
  rw [h.row i hi] at hj
  rw [nth_mkr _ hj]
  rfl
theorem Dim.ext {r c : Nat} {M N : List (List F)} (h : Dim r c M) (k : Dim r c N) (e : ∀ i j, i < r → j < c → ent M i j = ent N i j) : M = N := by
  rw [h.eq, k.eq]
  exact mkm_congr e
theorem Dim.valid {r c : Nat} {M : List (List F)} (h : Dim r c M) (h1 : 1 ≤ r) (h2 : r ≤ 64) (h3 : 1 ≤ c) (h4 : c ≤ 64) : Valid M :=
  ⟨by rw [h.len]; exact h1, by rw [h.len]; exact h2, by rw [h.row 0 h1]; exact h3, by rw [h.row 0 h1]; exact h4, fun j hj => by rw [h.row 0 h1, h.row j (by rw [← h.len]; exact hj)]⟩
section
variable {M : List (List F)} {n : Nat}
theorem Dim.allRows {r c : Nat} (h : Dim r c M) : ∀ i, i < M.length → (mrow M i).length = c := fun i hi => h.row i (by rw [← h.len]; exact hi)
theorem inv_full (hk : ∀ x : Nat → F, (∀ i, i < n → dot n (mrow M i) x = 0) → ∀ j, j < n → x j = 0) :
    ∃ v, invM M n = some v ∧ Dim n n v ∧ (mkm n n fun i j => sumF n fun t => Gf.mul (ent v i t) (ent M t j)) = (mkm n n fun i j => if i = j then 1 else 0) ∧
      (mkm n n fun i j => sumF n fun t => Gf.mul (ent M i t) (ent v t j)) = (mkm n n fun i j => if i = j then 1 else 0) ∧
      ∀ x : Nat → F, ∀ i, i < n → sumF n (fun j => Gf.mul (ent v i j) (dot n (mrow M j) x)) = x i := by
  cases e : gjS M n n with
  | none =>
    obtain ⟨x, hx, j, hj, hne⟩ := gj_none e
    exact absurd (hk x hx j hj) hne
  | some st =>
    obtain ⟨h1, h2⟩ := gj_some e
    have h3 : ∀ x : Nat → F, ∀ i, i < n → sumF n (fun j => Gf.mul (ent (mkm n n fun i j => st i (n + j)) i j) (dot n (mrow M j) x)) = x i := fun x i hi => by
      rw [← h1 x i hi]
      exact sumF_congr fun j hj => by rw [ent_mkm _ hi hj]
    refine ⟨mkm n n fun i j => st i (n + j), by unfold invM; rw [e]; rfl, Dim.mkm _ _ _, mkm_congr fun i j hi hj => ?_, mkm_congr fun i j hi hj => ?_, h3⟩
    · have := h3 (unitV j) i hi
      unfold unitV at this
      rw [← this]
      refine sumF_congr fun t ht => ?_
      congr 1
      exact (dot_unit _ hj).symm
    · have := h2 (unitV j) i hi
      unfold unitV at this
      rw [← this]
      unfold dot
      refine sumF_congr fun t ht => ?_
      rw [ent_mkm _ ht hj]
      congr 1
      show _ = sumF n fun k => Gf.mul (st t (n + k)) (if k = j then 1 else 0)
      rw [sumF_one hj fun k _ hne => by rw [if_neg hne, Gf.mul_zero], if_pos rfl, Gf.mul_one]
theorem inv_short {x : Nat → F} (hx : ∀ i, i < n → dot n (mrow M i) x = 0) {j : Nat} (hj : j < n) (hne : x j ≠ 0) : invM M n = none := by
  cases e : gjS M n n with
  | none => unfold invM; rw [e]; rfl
  | some st =>
    have := (gj_some e).1 x j hj
    rw [sumF_zero_of fun k hk => by rw [hx k hk, Gf.mul_zero]] at this
    exact absurd this.symm hne
end
end Go.Proofs.Ytifhjigkljdkmaa
