/- Plain linear algebra over the field of 256 elements, second part: kernels, the number of independent rows, the inverse, the rank of the transposed matrix. No program is named here. -/
import Derived.Test.YtifhjigkljdkmaaLa
namespace Go.Proofs.Ytifhjigkljdkmaa
open Gf (F)
set_option linter.unusedSimpArgs false
set_option linter.unusedVariables false

/-! ### Pigeonholes -/
theorem hole : ∀ (c : Nat) (l : List Nat), l.length < c → ∃ k, k < c ∧ k ∉ l
  | 0, _, h => absurd h (Nat.not_lt_zero _)
  | c + 1, l, h => by
    by_cases hc : c ∈ l
    · obtain ⟨k, hk, hn⟩ := hole c (l.erase c) (by rw [List.length_erase_of_mem hc]; have := List.length_pos_of_mem hc; omega)
      exact ⟨k, by omega, fun hm => hn ((List.mem_erase_of_ne (by omega)).2 hm)⟩
    · exact ⟨c, Nat.lt_succ_self c, hc⟩
theorem few : ∀ (c : Nat) (l : List Nat), l.Nodup → (∀ a, a ∈ l → a < c) → l.length ≤ c
  | 0, l, _, h => by
    cases l with
    | nil => exact Nat.le_refl _
    | cons a l => exact absurd (h a List.mem_cons_self) (Nat.not_lt_zero _)
  | c + 1, l, hn, h => by
    by_cases hc : c ∈ l
    · have := few c (l.erase c) (hn.erase c) (fun a ha => by
        have h1 := h a (List.mem_of_mem_erase ha)
        have h2 : a ≠ c := fun e => by subst e; exact (List.Nodup.not_mem_erase hn) ha
        omega)
      rw [List.length_erase_of_mem hc] at this
      omega
    · have := few c l hn (fun a ha => by
        have h1 := h a ha
        have h2 : a ≠ c := fun e => hc (e ▸ ha)
        omega)
      omega

/-! ### Kernels -/
def Ker (c : Nat) (B : List (List F)) (x : Nat → F) : Prop := ∀ i, i < B.length → dot c (mrow B i) x = 0
section
variable {c : Nat} {B B' : List (List F)} {r : List F} {x : Nat → F}
theorem dot_redR (hB : Red c B) (hr : r.length = c) (hk : Ker c B x) : dot c (redR B r) x = dot c r x := by
  obtain ⟨_, _, h3⟩ := redR_all hB hr
  unfold dot
  have h : ∀ j, j < c → Gf.mul (nth (redR B r) j) (x j) = Gf.mul (nth r j) (x j) ^^^ sumF B.length fun i => Gf.mul (nth r (leadN (mrow B i))) (Gf.mul (nth (mrow B i) j) (x j)) := fun j hj => by
    rw [h3 j hj, Gf.add_mul, ← sumF_mul_r]
    congr 1
    exact sumF_congr fun i _ => Gf.mul_assoc _ _ _
  rw [sumF_congr h, sumF_xor, sumF_swap, sumF_zero_of (n := B.length), x_zero]
  intro i hi
  rw [sumF_mul]
  have := hk i hi
  unfold dot at this
  rw [this, Gf.mul_zero]
theorem addB_none (hB : Red c B) (hr : r.length = c) (h : addB B r = none) (hk : Ker c B x) : dot c r x = 0 := by
  rw [← dot_redR hB hr hk]
  refine dot_zero fun j _ => leadN_ge ?_ j
  intro hl
  unfold addB at h
  rw [if_pos hl] at h
  cases h
theorem dot_norm {z : List F} (hz : z.length = c) : dot c (norm z) x = Gf.mul (Gf.inv (nth z (leadN z))) (dot c z x) := by
  unfold norm
  rw [dot_fuse _ _ (by rw [zeroL_length, hz]) hz, dot_zero fun j _ => nth_zeroL _ j, zero_x]
theorem addB_some (hB : Red c B) (hr : r.length = c) (h : addB B r = some B') : Ker c B' x ↔ Ker c B x ∧ dot c r x = 0 := by
  obtain ⟨h1, _, _⟩ := redR_all hB hr
  unfold addB at h
  by_cases hl : leadN (redR B r) < (redR B r).length
  case neg => rw [if_neg hl] at h; cases h
  rw [if_pos hl] at h
  cases h
  have hd := fun hk : Ker c B x => dot_redR hB hr hk
  generalize redR B r = z at *
  have hn : (norm z).length = c := by rw [norm_length, h1]
  have hz := dot_norm (x := x) h1
  have hne := Gf.inv_ne_zero (leadN_lt hl).1
  have e1 : ∀ i, i < B.length → dot c (mrow (elimB B (norm z) (leadN z) ++ [norm z]) i) x = dot c (mrow B i) x ^^^ Gf.mul (nth (mrow B i) (leadN z)) (dot c (norm z) x) := fun i hi => by
    rw [mrow_append_left (by rw [elimB_length]; exact hi), mrow_elimB _ _ hi, dot_fuse _ _ (hB.len i hi) hn]
  have e2 : mrow (elimB B (norm z) (leadN z) ++ [norm z]) B.length = norm z := by
    have := mrow_append_right (elimB B (norm z) (leadN z)) (norm z)
    rwa [elimB_length] at this
  have hlen : (elimB B (norm z) (leadN z) ++ [norm z]).length = B.length + 1 := by simp [elimB_length]
  constructor
  · intro hk
    have h0 : dot c (norm z) x = 0 := by rw [← e2]; exact hk B.length (by omega)
    have hB0 : Ker c B x := fun i hi => by
      have := hk i (by omega)
      rw [e1 i hi, h0, Gf.mul_zero, x_zero] at this
      exact this
    refine ⟨hB0, ?_⟩
    rw [← hd hB0]
    rw [hz] at h0
    rcases Gf.mul_eq_zero h0 with h0 | h0
    · exact absurd h0 hne
    · exact h0
  · rintro ⟨hk, h0⟩
    have h2 : dot c (norm z) x = 0 := by rw [hz, hd hk, h0, Gf.mul_zero]
    intro i hi
    rw [hlen] at hi
    rcases Nat.lt_succ_iff_lt_or_eq.1 hi with hi | rfl
    · rw [e1 i hi, hk i hi, h2, Gf.mul_zero, x_zero]
    · rw [e2, h2]
theorem ker_nil : Ker c [] x := fun _ hi => absurd hi (Nat.not_lt_zero _)
theorem indI_ker {M : List (List F)} (hM : ∀ i, i < M.length → (mrow M i).length = c) (x : Nat → F) : ∀ n, n ≤ M.length →
    (Ker c (indI M n).1 x ↔ ∀ i, i < n → dot c (mrow M i) x = 0) ∧ (Ker c (indI M n).1 x ↔ ∀ z, z ∈ (indI M n).2 → dot c (mrow M z.toNat) x = 0)
  | 0, _ => ⟨⟨fun _ _ hi => absurd hi (Nat.not_lt_zero _), fun _ => ker_nil⟩, ⟨fun _ _ hz => (List.not_mem_nil hz).elim, fun _ => ker_nil⟩⟩
  | n + 1, hn => by
    obtain ⟨i1, i2⟩ := indI_ker hM x n (by omega)
    obtain ⟨r1, _, _⟩ := indI_red hM n (by omega)
    have hl := hM n (by omega)
    have hall : (∀ i, i < n + 1 → dot c (mrow M i) x = 0) ↔ (∀ i, i < n → dot c (mrow M i) x = 0) ∧ dot c (mrow M n) x = 0 :=
      ⟨fun h => ⟨fun i hi => h i (by omega), h n (by omega)⟩, fun h i hi => by
        rcases Nat.lt_succ_iff_lt_or_eq.1 hi with hi | rfl
        · exact h.1 i hi
        · exact h.2⟩
    unfold indI
    cases e : addB (indI M n).1 (mrow M n) with
    | none =>
      refine ⟨?_, i2⟩
      rw [hall]
      exact ⟨fun hk => ⟨i1.1 hk, addB_none r1 hl e hk⟩, fun h => i1.2 h.1⟩
    | some B =>
      have hs := addB_some (x := x) r1 hl e
      refine ⟨?_, ?_⟩
      · rw [hall, hs, i1]
      · show Ker c B x ↔ _
        rw [hs, i2]
        constructor
        · rintro ⟨h1, h2⟩ z hz
          rcases List.mem_append.1 hz with hz | hz
          · exact h1 z hz
          · rw [List.mem_singleton.1 hz]; exact h2
        · intro h
          exact ⟨fun z hz => h z (List.mem_append_left _ hz), h (n : Int) (List.mem_append_right _ (List.mem_singleton.2 rfl))⟩

/-- The vector of the kernel that has 1 in column j, which is not the first element of a row. -/
def kv (B : List (List F)) (j p : Nat) : F := (if p = j then 1 else 0) ^^^ sumF B.length fun t => if leadN (mrow B t) = p then nth (mrow B t) j else 0
theorem dot_kv (hB : Red c B) {j : Nat} (hj : j < c) (r : List F) : dot c r (kv B j) = nth r j ^^^ sumF B.length fun t => Gf.mul (nth (mrow B t) j) (nth r (leadN (mrow B t))) := by
  unfold dot kv
  have h : ∀ p, p < c → Gf.mul (nth r p) ((if p = j then 1 else 0) ^^^ sumF B.length fun t => if leadN (mrow B t) = p then nth (mrow B t) j else 0) =
      Gf.mul (nth r p) (if p = j then 1 else 0) ^^^ sumF B.length fun t => Gf.mul (nth r p) (if leadN (mrow B t) = p then nth (mrow B t) j else 0) := fun p _ => by
    rw [Gf.mul_add, sumF_mul]
  rw [sumF_congr h, sumF_xor, sumF_one hj fun p _ hne => by rw [if_neg hne, Gf.mul_zero], if_pos rfl, Gf.mul_one, sumF_swap]
  congr 1
  refine sumF_congr fun t ht => ?_
  rw [sumF_one (hB.lead t ht) fun p _ hne => by rw [if_neg (Ne.symm hne), Gf.mul_zero], if_pos rfl, Gf.mul_comm]
theorem ker_kv (hB : Red c B) {j : Nat} (hj : j < c) : Ker c B (kv B j) := by
  intro i hi
  rw [dot_kv hB hj, sumF_one hi fun t ht hne => by rw [hB.zero t i ht hi (Ne.symm hne), Gf.mul_zero], hB.one i hi, Gf.mul_one, x_self]
theorem lead_at (i : Nat) (hi : i < B.length) : (B.map leadN)[i]'(by simpa using hi) = leadN (mrow B i) := by
  rw [List.getElem_map, mrow_of_lt hi]
theorem leads_nodup (hB : Red c B) : (B.map leadN).Nodup := by
  rw [List.Nodup, List.pairwise_iff_getElem]
  intro i j hi hj hlt e
  simp only [List.length_map] at hi hj
  rw [lead_at i hi, lead_at j hj] at e
  have h := hB.zero i j hi hj (by omega)
  rw [e, hB.one j hj] at h
  exact Gf.one_ne_zero h
theorem leads_lt (hB : Red c B) : ∀ a, a ∈ B.map leadN → a < c := by
  intro a ha
  obtain ⟨i, hi, rfl⟩ := List.mem_iff_getElem.1 ha
  simp only [List.length_map] at hi
  rw [lead_at i hi]
  exact hB.lead i hi
theorem red_le (hB : Red c B) : B.length ≤ c := by
  have := few c _ (leads_nodup hB) (leads_lt hB)
  simpa using this
theorem red_short (hB : Red c B) (h : B.length < c) : ∃ x, Ker c B x ∧ ∃ j, j < c ∧ x j ≠ 0 := by
  obtain ⟨k, hk, hn⟩ := hole c (B.map leadN) (by simpa using h)
  refine ⟨kv B k, ker_kv hB hk, k, hk, ?_⟩
  unfold kv
  rw [if_pos rfl, sumF_zero_of (n := B.length), x_zero]
  · exact Gf.one_ne_zero
  · intro t ht
    rw [if_neg]
    intro e
    apply hn
    rw [← e, ← lead_at t ht]
    exact List.getElem_mem _
theorem red_full (hB : Red c B) (h : B.length = c) (hk : Ker c B x) {k : Nat} (hkc : k < c) : x k = 0 := by
  have mem : ∀ k, k < c → ∃ i, i < B.length ∧ leadN (mrow B i) = k := fun k hkc => by
    have hm : k ∈ B.map leadN := Classical.byContradiction fun hn => by
      have := few c (k :: B.map leadN) (List.nodup_cons.2 ⟨hn, leads_nodup hB⟩) (fun a ha => by
        rcases List.mem_cons.1 ha with rfl | ha
        · exact hkc
        · exact leads_lt hB a ha)
      simp only [List.length_cons, List.length_map] at this
      omega
    obtain ⟨i, hi, e⟩ := List.mem_iff_getElem.1 hm
    simp only [List.length_map] at hi
    exact ⟨i, hi, by rw [← e, lead_at i hi]⟩
  obtain ⟨i, hi, e⟩ := mem k hkc
  have h0 := hk i hi
  unfold dot at h0
  rw [sumF_one hkc fun j hj hne => by
    obtain ⟨i', hi', e'⟩ := mem j hj
    have hii : i ≠ i' := fun he => hne (by rw [← e', ← he, e])
    rw [← e', hB.zero i' i hi' hi hii, Gf.zero_mul]] at h0
  have h1 := hB.one i hi
  rw [e] at h1
  rw [h1, Gf.one_mul] at h0
  exact h0
end

/-! ### The first independent rows -/
section
variable {c : Nat} {M : List (List F)} {x : Nat → F}
theorem indep_base (hM : ∀ i, i < M.length → (mrow M i).length = c) : ∃ B, Red c B ∧ (indep M).length = B.length ∧ B.length ≤ M.length ∧
    (∀ x, Ker c B x ↔ ∀ i, i < M.length → dot c (mrow M i) x = 0) ∧ (∀ x, Ker c B x ↔ ∀ z, z ∈ indep M → dot c (mrow M z.toNat) x = 0) := by
  obtain ⟨h1, h2, h3⟩ := indI_red hM M.length (Nat.le_refl _)
  exact ⟨_, h1, h2, h3, fun x => (indI_ker hM x M.length (Nat.le_refl _)).1, fun x => (indI_ker hM x M.length (Nat.le_refl _)).2⟩
theorem indep_le (hM : ∀ i, i < M.length → (mrow M i).length = c) : (indep M).length ≤ c := by
  obtain ⟨B, h1, h2, _⟩ := indep_base hM
  rw [h2]; exact red_le h1
theorem indep_short (hM : ∀ i, i < M.length → (mrow M i).length = c) (h : (indep M).length < c) : ∃ x, (∀ i, i < M.length → dot c (mrow M i) x = 0) ∧ ∃ j, j < c ∧ x j ≠ 0 := by
  obtain ⟨B, h1, h2, _, h3, _⟩ := indep_base hM
  obtain ⟨x, hx, hj⟩ := red_short h1 (by omega)
  exact ⟨x, (h3 x).1 hx, hj⟩
theorem indep_full (hM : ∀ i, i < M.length → (mrow M i).length = c) (h : (indep M).length = c) (hx : ∀ i, i < M.length → dot c (mrow M i) x = 0) {k : Nat} (hk : k < c) : x k = 0 := by
  obtain ⟨B, h1, h2, _, h3, _⟩ := indep_base hM
  exact red_full h1 (by omega) ((h3 x).2 hx) hk
theorem indep_rows (hM : ∀ i, i < M.length → (mrow M i).length = c) (h : (indep M).length = c) (hx : ∀ z, z ∈ indep M → dot c (mrow M z.toNat) x = 0) {k : Nat} (hk : k < c) : x k = 0 := by
  obtain ⟨B, h1, h2, _, _, h4⟩ := indep_base hM
  exact red_full h1 (by omega) ((h4 x).2 hx) hk
/-- Fewer rows than columns: a vector of the kernel. -/
theorem more_cols {k m : Nat} (f : Nat → Nat → F) (h : k < m) : ∃ x : Nat → F, (∀ t, t < k → sumF m (fun i => Gf.mul (f t i) (x i)) = 0) ∧ ∃ j, j < m ∧ x j ≠ 0 := by
  have hM : ∀ i, i < (mkm k m f).length → (mrow (mkm k m f) i).length = m := fun i hi => by
    rw [mkm_length] at hi; rw [mrow_mkm _ hi, mkr_length]
  obtain ⟨B, h1, h2, h3, _⟩ := indep_base hM
  rw [mkm_length] at h3
  obtain ⟨x, hx, hj⟩ := indep_short hM (by omega)
  refine ⟨x, fun t ht => ?_, hj⟩
  have := hx t (by rw [mkm_length]; exact ht)
  rw [mrow_mkm _ ht] at this
  unfold dot at this
  rw [← this]
  exact sumF_congr fun i hi => by rw [nth_mkr _ hi]
end

/-! ### Transposed -/
theorem rank_tr_le {M : List (List F)} {r c : Nat} (hr : M.length = r) (hM : ∀ i, i < r → (mrow M i).length = c) : (indep (trM r c M)).length ≤ (indep M).length := by
  have hM1 : ∀ i, i < M.length → (mrow M i).length = c := fun i hi => hM i (by omega)
  have hT : ∀ i, i < (trM r c M).length → (mrow (trM r c M) i).length = r := fun i hi => by
    unfold trM at hi ⊢
    rw [mkm_length] at hi
    rw [mrow_mkm _ hi, mkr_length]
  obtain ⟨B, b1, b2, _, b4, _⟩ := indep_base hM1
  obtain ⟨D, d1, d2, _, d4, _⟩ := indep_base hT
  rw [b2, d2]
  refine Classical.byContradiction fun hlt => ?_
  obtain ⟨u, hu, j0, hj0, hne⟩ := more_cols (k := B.length) (m := D.length) (fun t i => ent M (leadN (mrow D i)) (leadN (mrow B t))) (by omega)
  let y : Nat → F := fun p => sumF D.length fun i => if leadN (mrow D i) = p then u i else 0
  have hy : ∀ q : List F, dot r q y = sumF D.length fun i => Gf.mul (nth q (leadN (mrow D i))) (u i) := fun q => by
    show (sumF r fun p => Gf.mul (nth q p) (sumF D.length fun i => if leadN (mrow D i) = p then u i else 0)) = _
    rw [sumF_congr fun p _ => (sumF_mul D.length (nth q p) fun i => if leadN (mrow D i) = p then u i else 0).symm, sumF_swap]
    refine sumF_congr fun i hi => ?_
    rw [sumF_one (d1.lead i hi) fun p _ hp => by rw [if_neg (Ne.symm hp), Gf.mul_zero], if_pos rfl]
  have hrow : ∀ i j, i < r → j < c → ent M i j = sumF B.length fun t => Gf.mul (nth (mrow B t) j) (ent M i (leadN (mrow B t))) := fun i j hi hj => by
    have h0 := (b4 (kv B j)).1 (ker_kv b1 hj) i (by omega)
    rw [dot_kv b1 hj] at h0
    exact x_eq_zero h0
  have hk : Ker r D y := (d4 y).2 fun j hj => by
    have hjc : j < c := by unfold trM at hj; rwa [mkm_length] at hj
    rw [hy]
    have e : ∀ i, i < D.length → Gf.mul (nth (mrow (trM r c M) j) (leadN (mrow D i))) (u i) = sumF B.length fun t => Gf.mul (nth (mrow B t) j) (Gf.mul (ent M (leadN (mrow D i)) (leadN (mrow B t))) (u i)) := fun i hi => by
      unfold trM
      rw [mrow_mkm _ hjc, nth_mkr _ (d1.lead i hi), hrow _ _ (d1.lead i hi) hjc, ← sumF_mul_r]
      exact sumF_congr fun t _ => Gf.mul_assoc _ _ _
    rw [sumF_congr e, sumF_swap]
    refine sumF_zero_of fun t ht => ?_
    rw [sumF_mul, hu t ht, Gf.mul_zero]
  have h0 := hk j0 hj0
  rw [hy, sumF_one hj0 fun i hi hp => by rw [d1.zero i j0 hi hj0 (Ne.symm hp), Gf.zero_mul], d1.one j0 hj0, Gf.one_mul] at h0
  exact hne h0
theorem trM_trM {M : List (List F)} {r c : Nat} (hr : M.length = r) (hM : ∀ i, i < r → (mrow M i).length = c) : trM c r (trM r c M) = M := by
  unfold trM
  refine mrow_ext (by rw [mkm_length, hr]) fun i hi => ?_
  rw [mkm_length] at hi
  rw [mrow_mkm _ hi]
  refine nth_ext (by rw [mkr_length, hM i hi]) fun j hj => ?_
  rw [mkr_length] at hj
  rw [nth_mkr _ hj]
  unfold ent
  rw [mrow_mkm _ hj, nth_mkr _ hi]
theorem rank_tr {M : List (List F)} {r c : Nat} (hr : M.length = r) (hM : ∀ i, i < r → (mrow M i).length = c) : (indep (trM r c M)).length = (indep M).length := by
  refine Nat.le_antisymm (rank_tr_le hr hM) ?_
  have h := rank_tr_le (M := trM r c M) (r := c) (c := r) (mkm_length _ _ _) (fun i hi => by unfold trM; rw [mrow_mkm _ hi, mkr_length])
  rwa [trM_trM hr hM] at h
end Go.Proofs.Ytifhjigkljdkmaa
