/- Slices whose elements take several cells each (arrays of bytes, structs): what they read; how a whole element is loaded, stored and appended. -/
import Derived.Test.YtifhjigkljdkmaaMem
import Derived.Stop.BytesEq
namespace Go.Proofs.Ytifhjigkljdkmaa
open Go.RowKit
open Gf (F)
set_option linter.unusedSimpArgs false
set_option linter.unusedVariables false

/-! ### Cells of a list of elements -/
def flatE (E : Nat → Array Value) (n : Nat) : List Value := (List.range n).flatMap fun j => (E j).toList
theorem flatE_zero (E : Nat → Array Value) : flatE E 0 = [] := rfl
theorem flatE_succ (E : Nat → Array Value) (n : Nat) : flatE E (n + 1) = flatE E n ++ (E n).toList := by
  unfold flatE
  rw [List.range_succ, List.flatMap_append]
  simp
theorem flatE_congr {E G : Nat → Array Value} {n : Nat} (h : ∀ j, j < n → E j = G j) : flatE E n = flatE G n := by
  induction n with
  | zero => rfl
  | succ n ih => rw [flatE_succ, flatE_succ, ih fun j hj => h j (by omega), h n (by omega)]
theorem flatE_length {E : Nat → Array Value} {n s : Nat} (h : ∀ j, j < n → (E j).size = s) : (flatE E n).length = n * s := by
  induction n with
  | zero => simp [flatE_zero]
  | succ n ih =>
    rw [flatE_succ, List.length_append, ih fun j hj => h j (by omega), Nat.succ_mul]
    have := h n (by omega)
    simp [this]
theorem idx_lt {j k n s : Nat} (hj : j < n) (hk : k < s) : j * s + k < n * s := by
  have h1 : (j + 1) * s ≤ n * s := Nat.mul_le_mul_right s hj
  rw [Nat.succ_mul] at h1
  omega
theorem flatE_get {E : Nat → Array Value} {n s : Nat} (h : ∀ j, j < n → (E j).size = s) {j k : Nat} (hj : j < n) (hk : k < s) : (flatE E n)[j * s + k]? = (E j)[k]? := by
  induction n with
  | zero => omega
  | succ n ih =>
    rw [flatE_succ]
    have hl := flatE_length (E := E) (n := n) (s := s) fun j hj => h j (by omega)
    rcases Nat.lt_succ_iff_lt_or_eq.1 hj with hj | rfl
    · rw [List.getElem?_append_left (by rw [hl]; exact idx_lt hj hk)]
      exact ih (fun j hj => h j (by omega)) hj
    · rw [List.getElem?_append_right (by omega), hl, Nat.add_sub_cancel_left]
      simp
theorem flatE_one {E : Nat → Array Value} {n : Nat} (h : ∀ j, j < n → ∀ u, u ∈ E j → u.oneCell' = true) : ∀ u, u ∈ flatE E n → u.oneCell' = true := by
  intro u hu
  unfold flatE at hu
  obtain ⟨j, hj, hm⟩ := List.mem_flatMap.1 hu
  exact h j (List.mem_range.1 hj) u (by simpa using hm)
theorem flatE_getD {E : Nat → Array Value} {n s i : Nat} (hs : 0 < s) (h : ∀ j, j < n → (E j).size = s) (hi : i < n * s) : (flatE E n)[i]? = (E (i / s))[i % s]? := by
  have h1 : i / s < n := Nat.div_lt_of_lt_mul (by rw [Nat.mul_comm]; exact hi)
  have h2 : i % s < s := Nat.mod_lt _ hs
  have := flatE_get h h1 h2
  rwa [Nat.mul_comm, Nat.div_add_mod] at this

/-! ### Slices of elements -/
/-- The slice has n elements of s cells each; element j's cells are E j. -/
structure Elm (s : Nat) (p : Nat → Prop) (w : World) (A : Option Addr) (n c : Nat) (E : Nat → Array Value) : Prop where
  le : n ≤ c
  cap : c ≤ maxLen
  size : ∀ j, j < n → (E j).size = s
  one : ∀ j, j < n → ∀ u, u ∈ E j → u.oneCell' = true
  at_ : 0 < n → ∃ b o, A = some ⟨b, o, none⟩ ∧ p b ∧ b < w.heap.size ∧ ∀ j, j < n → ∀ k, k < s → w.cell? ⟨b, o + j * s + k, none⟩ = (E j)[k]?
section
variable {s : Nat} {p q : Nat → Prop} {w w' : World} {A : Option Addr} {n c : Nat} {E G : Nat → Array Value}
theorem Elm.keep (h : Elm s p w A n c E) (k : Keeps p w w') : Elm s p w' A n c E :=
  ⟨h.le, h.cap, h.size, h.one, fun hn => by
    obtain ⟨b, o, e, hp, hlt, hc⟩ := h.at_ hn
    exact ⟨b, o, e, hp, Nat.lt_of_lt_of_le hlt k.size, fun j hj i hi => (World.cell?_of_block (w := w) (a := ⟨b, o + j * s + i, none⟩) (k.block b hlt hp)).trans (hc j hj i hi)⟩⟩
theorem Elm.below (h : Elm s p w A n c E) (k : Below w.heap.size w w') : Elm s p w' A n c E := h.keep (.below k)
theorem Elm.mono (h : Elm s p w A n c E) (hq : ∀ b, b < w.heap.size → p b → q b) : Elm s q w A n c E :=
  ⟨h.le, h.cap, h.size, h.one, fun hn => by
    obtain ⟨b, o, e, hp, hlt, hc⟩ := h.at_ hn
    exact ⟨b, o, e, hq b hlt hp, hlt, hc⟩⟩
theorem Elm.drewN (h : Elm s p w A n c E) (k : Nat) : Elm s p (w.drewN k) A n c E := h.keep ((Keeps.refl p w).drewN k)
theorem Elm.congr (h : Elm s p w A n c E) (e : ∀ j, j < n → E j = G j) : Elm s p w A n c G :=
  ⟨h.le, h.cap, fun j hj => by rw [← e j hj]; exact h.size j hj, fun j hj => by rw [← e j hj]; exact h.one j hj, fun hn => by
    obtain ⟨b, o, e', hp, hlt, hc⟩ := h.at_ hn
    exact ⟨b, o, e', hp, hlt, fun j hj i hi => by rw [hc j hj i hi, e j hj]⟩⟩
theorem Elm.nil (s : Nat) (p : Nat → Prop) (w : World) (A : Option Addr) {c : Nat} (hc : c ≤ maxLen) (E : Nat → Array Value) : Elm s p w A 0 c E :=
  ⟨Nat.zero_le _, hc, fun _ h => absurd h (Nat.not_lt_zero _), fun _ h => absurd h (Nat.not_lt_zero _), fun h => absurd h (Nat.lt_irrefl 0)⟩
theorem Elm.len (h : Elm s p w A n c E) : n ≤ 9223372036854775807 := by
  have := h.le; have := h.cap; unfold maxLen at this; omega
/-- 's[:k]'. -/
theorem Elm.pre (h : Elm s p w A n c E) {k : Nat} (hk : k ≤ n) : Elm s p w A k c E :=
  ⟨by have := h.le; omega, h.cap, fun j hj => h.size j (by omega), fun j hj => h.one j (by omega), fun h0 => by
    obtain ⟨b, o, e, hp, hlt, hc⟩ := h.at_ (by omega)
    exact ⟨b, o, e, hp, hlt, fun j hj => hc j (by omega)⟩⟩
/-- 's[k:]'. -/
theorem Elm.from_ {b o k : Nat} (h : Elm s p w (some ⟨b, o, none⟩) n c E) (hk : k ≤ n) : Elm s p w (some ⟨b, o + k * s, none⟩) (n - k) (c - k) (fun j => E (k + j)) :=
  ⟨by have := h.le; omega, by have := h.cap; omega, fun j hj => h.size (k + j) (by omega), fun j hj => h.one (k + j) (by omega), fun hn => by
    obtain ⟨b', o', e, hp, hlt, hc⟩ := h.at_ (by omega)
    simp only [Option.some.injEq, Addr.mk.injEq, and_true] at e
    obtain ⟨rfl, rfl⟩ := e
    exact ⟨b, o + k * s, rfl, hp, hlt, fun j hj i hi => by
      have := hc (k + j) (by omega) i hi
      rwa [Nat.add_mul, ← Nat.add_assoc] at this⟩⟩
/-- A slice of the call's own. -/
theorem own_elm {base : Nat} {e : TypeId} {v : Value} (h : w.ownsRow base e s v n (flatE E n)) (hs : ∀ j, j < n → (E j).size = s) (h1 : ∀ j, j < n → ∀ u, u ∈ E j → u.oneCell' = true) :
    ∃ A c, v = .slice A n c ∧ Elm s (fun b => base ≤ b ∧ some b = v.ownBlock) w A n c E := by
  rcases h.2 with ⟨rfl, rfl⟩ | ⟨g, cap, cur, rfl, hg, hh, hn, hc, hsz, ht⟩
  · exact ⟨none, 0, rfl, Elm.nil _ _ _ _ (Nat.zero_le _) _⟩
  · refine ⟨some ⟨g, 0, none⟩, cap, rfl, hn, hc, hs, h1, fun _ => ⟨g, 0, rfl, ⟨hg, rfl⟩, (h.lt g rfl).2, fun j hj k hk => ?_⟩⟩
    have e1 : w.cell? ⟨g, 0 + j * s + k, none⟩ = cur[j * s + k]? := by
      rw [Nat.zero_add]
      exact cell_of_row w g (j * s + k) cur e (0, 0) hh
    rw [e1, ← flatE_get hs hj hk, ← ht, List.getElem?_take_of_lt (idx_lt hj hk)]
    simp
/-- A block that the call itself made, known whole. -/
theorem Elm.of_rowIs {g : Nat} {t : TypeId} {f : Nat → Value} (h : w.rowIs g t (n * s) f) (hp : p g) (hn : n ≤ maxLen) (hs : ∀ j, j < n → (E j).size = s) (h1 : ∀ j, j < n → ∀ u, u ∈ E j → u.oneCell' = true)
    (he : ∀ j, j < n → ∀ k, k < s → (E j)[k]? = some (f (j * s + k))) : Elm s p w (some ⟨g, 0, none⟩) n n E :=
  ⟨Nat.le_refl _, hn, hs, h1, fun _ => ⟨g, 0, rfl, hp, h.lt, fun j hj k hk => by rw [Nat.zero_add, h.cell (idx_lt hj hk), he j hj k hk]⟩⟩
end

/-! ### A whole element out of memory -/
section
variable {P : Program} {w : World}
theorem run_loadVar_agg {ty : TypeId} {b o : Nat} {cs : Array Value} {d : TypeDesc} (hu : P.underlying ty = some d) (hd : (match d with | .struct _ | .array _ _ => true | _ => false) = true) (hi : (P.info? ty).map (·.size) = some cs.size)
    (hc : ∀ k, k < cs.size → w.cell? ⟨b, o + k, none⟩ = cs[k]?) : (loadVar ty ⟨b, o, none⟩).run P w = .ok (.agg cs) w := by
  have hl : (loadCells ⟨b, o, none⟩ cs.toList.length).run P w = .ok cs.toList.toArray w :=
    run_loadCells_list (P := P) w ⟨b, o, none⟩ cs.toList (fun j v hv => by
      have hj : j < cs.size := by
        have := (List.getElem?_eq_some_iff.1 hv).1
        simpa using this
      rw [Addr.add_lit, hc j hj]
      simpa using hv)
  cases hq : P.info? ty with
  | none => simp [hq] at hi
  | some i =>
    have hs : i.size = cs.size := by simpa [hq] using hi
    have hagg : (isAgg ty).run P w = .ok true w := by
      unfold isAgg
      rw [Sem.run_bind, run_underlying hu w]
      cases d <;> simp_all
    simp only [Array.length_toList, Array.toArray_toList] at hl
    simp [loadVar, Sem.run_bind, hagg, sizeOf, typeInfo, hq, hs, hl]
theorem wp_load_agg {o : Oper} {a : Act} {K : Act → World → Prop} {Q : Exit → Act → World → Prop} {ty : TypeId} {x : Operand} (ho : o.op = .load ty x)
    {b off : Nat} (hx : a.eval x = .pointer (some ⟨b, off, none⟩)) {cs : Array Value} {d : TypeDesc} (hu : P.underlying ty = some d) (hd : (match d with | .struct _ | .array _ _ => true | _ => false) = true) (hi : (P.info? ty).map (·.size) = some cs.size)
    (hc : ∀ k, k < cs.size → w.cell? ⟨b, off + k, none⟩ = cs[k]?) (h : K (a.put o.dst (.agg cs)) w) : o.wp P a w K Q := by
  unfold Oper.wp execOp
  simp only [ho, hx, Instr.loadAt, Instr.sureAddr, Sem.run_bind, Sem.run_pure, Result.andThen_ok, run_loadVar_agg hu hd hi hc]
  exact h
theorem wpl_load_agg {ops : Array Oper} {rest : List Oper} {o : Oper} {a : Act} {Q : Exit → Act → World → Prop} (hgd : o.guard = none) {ty : TypeId} {x : Operand} (ho : o.op = .load ty x)
    {b off : Nat} (hx : a.eval x = .pointer (some ⟨b, off, none⟩)) {cs : Array Value} {d : TypeDesc} (hu : P.underlying ty = some d) (hd : (match d with | .struct _ | .array _ _ => true | _ => false) = true) (hi : (P.info? ty).map (·.size) = some cs.size)
    (hc : ∀ k, k < cs.size → w.cell? ⟨b, off + k, none⟩ = cs[k]?) (h : wpList P ops Q rest (a.put o.dst (.agg cs)) w) : wpList P ops Q (o :: rest) a w :=
  wpList_plain hgd fun _ hK => wp_load_agg ho hx hu hd hi hc (hK _ _ h)

/-! ### A whole element into memory -/
/-- What the block holds behind the store. -/
def putAt (o : Nat) (cs : Array Value) (f : Nat → Value) (i : Nat) : Value := if o ≤ i ∧ i < o + cs.size then cs.getD (i - o) undef else f i
theorem putAt_in {o : Nat} {cs : Array Value} {f : Nat → Value} {k : Nat} (hk : k < cs.size) : putAt o cs f (o + k) = cs.getD k undef := by
  unfold putAt
  rw [if_pos ⟨by omega, by omega⟩, Nat.add_sub_cancel_left]
theorem putAt_out {o : Nat} {cs : Array Value} {f : Nat → Value} {i : Nat} (h : i < o ∨ o + cs.size ≤ i) : putAt o cs f i = f i := by
  unfold putAt
  rw [if_neg (by omega)]
theorem run_storeVar_agg {g o N : Nat} {t ty : TypeId} {f : Nat → Value} {cs : Array Value} (hr : w.rowIs g t N f) (hi : (P.info? ty).map (·.size) = some cs.size) (hfit : o + cs.size ≤ N) (h1 : ∀ u, u ∈ cs → u.oneCell' = true) :
    ∃ w', (storeVar ty ⟨g, o, none⟩ (.agg cs)).run P w = .ok () w' ∧ w'.rowIs g t N (putAt o cs f) ∧ w.grownBy w' (some g) ∧ w'.heap.size = w.heap.size := by
  obtain ⟨cur, hb, hn, hc⟩ := hr
  have hst := run_storeCells_at P g o t cs.toList 0 cur w hb (by simp; omega) (fun v hv => h1 v (by simpa using hv))
  cases hq : P.info? ty with
  | none => simp [hq] at hi
  | some i =>
    have hs : cs.size = i.size := by simp [hq] at hi; omega
    refine ⟨_, by simpa [storeVar, sizeOf, typeInfo, hq, Value.cells, hs] using hst, ⟨_, setRow_heap w g cur _ t _ hb, ?_, fun j hj => ?_⟩, ⟨rfl, rfl, rfl, by simp, fun k _ hk => setRow_other w g k _ (fun e => hk (by rw [e]))⟩, by simp⟩
    · simp; omega
    · have hm : min o cur.size = o := by omega
      simp only [Nat.add_zero, List.getElem?_toArray, List.append_assoc, List.getElem?_append, List.length_take, Array.length_toList, hm]
      by_cases h1' : j < o
      · rw [putAt_out (.inl h1'), if_pos h1', List.getElem?_take_of_lt h1']
        simpa using hc j hj
      · by_cases h2 : j < o + cs.size
        · obtain ⟨k, rfl⟩ : ∃ k, j = o + k := ⟨j - o, by omega⟩
          have hk : k < cs.size := by omega
          rw [putAt_in hk, if_neg (by omega), Nat.add_sub_cancel_left, if_pos hk]
          simp [hk]
        · rw [putAt_out (.inr (by omega)), if_neg h1', if_neg (by omega), List.getElem?_drop]
          have e : o + i.size + (j - o - cs.size) = j := by omega
          rw [e]
          simpa using hc j hj
theorem wp_store_agg {o : Oper} {a : Act} {K : Act → World → Prop} {Q : Exit → Act → World → Prop} {ty : TypeId} {x y : Operand} (ho : o.op = .store ty x y)
    {g off N : Nat} (hx : a.eval x = .pointer (some ⟨g, off, none⟩)) {cs : Array Value} (hy : a.eval y = .agg cs) {t : TypeId} {f : Nat → Value} (hr : w.rowIs g t N f) (hi : (P.info? ty).map (·.size) = some cs.size) (hfit : off + cs.size ≤ N) (h1 : ∀ u, u ∈ cs → u.oneCell' = true)
    (h : ∀ w', w'.rowIs g t N (putAt off cs f) → w.grownBy w' (some g) → w'.heap.size = w.heap.size → K (a.put o.dst undef) w') : o.wp P a w K Q := by
  obtain ⟨w', hrun, h2, h3, h4⟩ := run_storeVar_agg (P := P) (o := off) hr hi hfit h1
  unfold Oper.wp execOp
  simp only [ho, hx, hy, Instr.storeAt, Instr.sureAddr, Sem.run_bind, Sem.run_pure, Result.andThen_ok, hrun]
  exact h w' h2 h3 h4
theorem wpl_store_agg {ops : Array Oper} {rest : List Oper} {o : Oper} {a : Act} {Q : Exit → Act → World → Prop} (hgd : o.guard = none) {ty : TypeId} {x y : Operand} (ho : o.op = .store ty x y)
    {g off N : Nat} (hx : a.eval x = .pointer (some ⟨g, off, none⟩)) {cs : Array Value} (hy : a.eval y = .agg cs) {t : TypeId} {f : Nat → Value} (hr : w.rowIs g t N f) (hi : (P.info? ty).map (·.size) = some cs.size) (hfit : off + cs.size ≤ N) (h1 : ∀ u, u ∈ cs → u.oneCell' = true)
    (h : ∀ w', w'.rowIs g t N (putAt off cs f) → w.grownBy w' (some g) → w'.heap.size = w.heap.size → wpList P ops Q rest (a.put o.dst undef) w') : wpList P ops Q (o :: rest) a w :=
  wpList_plain hgd fun _ hK => wp_store_agg ho hx hy hr hi hfit h1 fun w' h2 h3 h4 => hK _ _ (h w' h2 h3 h4)

/-! ### append of elements -/
/-- append of what a slice of elements reads, onto a slice of the call's own. -/
theorem run_append_elm (base : Nat) (t ty e : TypeId) {s : Nat} {z : Value} {bytes : Nat} (ht : P.underlying t = some (.slice e)) (hinfo : (P.info? e).map (fun i => (i.zero, i.size, i.bytes)) = some (some z, s, bytes)) (hzs : z.cells.size = s) (hs0 : 0 < s)
    (v : Value) (n : Nat) (xs : List Value) (hown : w.ownsRow base e s v n xs)
    {p : Nat → Prop} (A : Option Addr) (m c : Nat) (E : Nat → Array Value) (hr : Elm s p w A m c E)
    (h63 : n + m ≤ maxLen) (hbytes : (n + m) * bytes ≤ 140737488355328) (hbase : base ≤ w.heap.size) :
    ∃ v' w', (Builtin.append_ #[t, t] ty #[v, .slice A m c]).run P w = .ok v' w' ∧ w'.ownsRow base e s v' (n + m) (xs ++ flatE E m) ∧ w.grownBy w' v.ownBlock ∧
      (v'.ownBlock = v.ownBlock ∨ v'.ownBlock = some w.heap.size) := by
  obtain ⟨i, hi, hzz⟩ := Option.map_eq_some_iff.1 hinfo
  simp only [Prod.mk.injEq] at hzz
  obtain ⟨hz, hs, hb⟩ := hzz
  have main : ∀ ad : Addr, (∀ j u, (flatE E m)[j]? = some u → w.cell? (ad.add j) = some u) → ∃ v' w', (Builtin.append_ #[t, t] ty #[v, .slice (some ad) m c]).run P w = .ok v' w' ∧ w'.ownsRow base e s v' (n + m) (xs ++ flatE E m) ∧ w.grownBy w' v.ownBlock ∧
      (v'.ownBlock = v.ownBlock ∨ v'.ownBlock = some w.heap.size) := by
    intro ad hc
    obtain ⟨v', w', hrun, h2, h3, _, h5⟩ := run_append_own_at (P := P) w base t ty e i z s bytes ht hi hz hs hb hzs hs0 v n xs hown ad m c (flatE E m) (flatE_length hr.size) hc (flatE_one hr.one) h63 hbytes hbase
    exact ⟨v', w', hrun, h2, h3, h5⟩
  by_cases hm : m = 0
  · subst hm
    cases A with
    | some ad => exact main ad (fun j u hj => by simp [flatE_zero] at hj)
    | none =>
      refine ⟨v, w, ?_, by simpa [flatE_zero] using hown, World.grownBy.refl w _, .inl rfl⟩
      rcases hown.2 with ⟨rfl, rfl⟩ | ⟨g, cap, cur, rfl, _, _, hnc, _⟩
      · simp [Builtin.append_, run_underlying ht, sizeOf, typeInfo, hi, Builtin.lenOf, Builtin.firstCells]
      · simp [Builtin.append_, run_underlying ht, sizeOf, typeInfo, hi, Builtin.lenOf, Builtin.firstCells, hnc, storeCells]
  · obtain ⟨b, o, rfl, _, _, hc⟩ := hr.at_ (by omega)
    refine main _ (fun i u hi' => ?_)
    have hlt : i < m * s := by
      have := (List.getElem?_eq_some_iff.1 hi').1
      rwa [flatE_length hr.size] at this
    rw [flatE_getD hs0 hr.size hlt] at hi'
    have h1 : i / s < m := Nat.div_lt_of_lt_mul (by rw [Nat.mul_comm]; exact hlt)
    have h2 := hc (i / s) h1 (i % s) (Nat.mod_lt _ hs0)
    have e2 : o + i / s * s + i % s = o + i := by rw [Nat.add_assoc, Nat.mul_comm, Nat.div_add_mod]
    rw [e2] at h2
    rw [Addr.add_lit, h2, hi']
theorem wpl_append_elm {ops : Array Oper} {rest : List Oper} {o : Oper} {a : Act} {Q : Exit → Act → World → Prop} (hgd : o.guard = none) {sl x : Operand} {t : TypeId}
    (ho : o.op = .call { callee := .builtin .append, args := #[sl, x], argTypes := #[t, t] })
    {base : Nat} {e : TypeId} {s : Nat} {z : Value} {bytes : Nat} (ht : P.underlying t = some (.slice e)) (hinfo : (P.info? e).map (fun i => (i.zero, i.size, i.bytes)) = some (some z, s, bytes)) (hzs : z.cells.size = s) (hs0 : 0 < s)
    {v : Value} {n : Nat} {xs : List Value} (hs : a.eval sl = v) (hown : w.ownsRow base e s v n xs)
    {p : Nat → Prop} {A : Option Addr} {m c : Nat} {E : Nat → Array Value} (hx : a.eval x = .slice A m c) (hr : Elm s p w A m c E)
    (h63 : n + m ≤ maxLen) (hbytes : (n + m) * bytes ≤ 140737488355328) (hbase : base ≤ w.heap.size)
    (h : ∀ v' w', w'.ownsRow base e s v' (n + m) (xs ++ flatE E m) → w.grownBy w' v.ownBlock → (v'.ownBlock = v.ownBlock ∨ v'.ownBlock = some w.heap.size) → wpList P ops Q rest (a.put o.dst v') w') : wpList P ops Q (o :: rest) a w := by
  refine wpList_plain hgd fun _ hK => ?_
  obtain ⟨v', w', hrun, h2, h3, h4⟩ := run_append_elm (P := P) base t o.type e ht hinfo hzs hs0 v n xs hown A m c E hr h63 hbytes hbase
  unfold Oper.wp execOp
  simp only [ho, resolve, invoke, builtin, Sem.run_bind, Sem.run_pure, Result.andThen_ok, List.map_toArray, List.map_cons, List.map_nil, hs, hx, hrun]
  exact hK _ _ (h v' w' h2 h3 h4)
/-- The one new element that 'append(s, x)' lays ahead. -/
theorem elm_one {s : Nat} (cs : Array Value) (e : TypeId) (hs : cs.size = s) (h1 : ∀ u, u ∈ cs → u.oneCell' = true) : Elm s (fun b => b = w.heap.size) (w.alloc (.cells cs e)) (some ⟨w.heap.size, 0, none⟩) 1 1 (fun _ => cs) :=
  ⟨Nat.le_refl _, by unfold maxLen; omega, fun _ _ => hs, fun _ _ => h1, fun _ => ⟨w.heap.size, 0, rfl, rfl, by simp, fun j hj k hk => by
    obtain rfl : j = 0 := by omega
    have e2 : 0 + 0 * s + k = k := by omega
    rw [e2]
    exact cell_of_row _ _ k cs e (0, 0) (heap_alloc_new w _)⟩⟩
theorem flatE_single (cs : Array Value) : flatE (fun _ => cs) 1 = cs.toList := by
  rw [flatE_succ, flatE_zero, List.nil_append]
/-- 'append(s, x)', x of s cells: s the call's own (or nil), the new element laid ahead of it (world W). -/
theorem wpl_append_elm1 {W : World} {ops : Array Oper} {rest : List Oper} {o : Oper} {a : Act} {Q : Exit → Act → World → Prop} (hgd : o.guard = none) {sl x : Operand} {t : TypeId}
    (ho : o.op = .call { callee := .builtin .append, args := #[sl, x], argTypes := #[t, t] })
    {base : Nat} {e : TypeId} {s : Nat} {z : Value} {bytes : Nat} (ht : P.underlying t = some (.slice e)) (hinfo : (P.info? e).map (fun i => (i.zero, i.size, i.bytes)) = some (some z, s, bytes)) (hzs : z.cells.size = s) (hs0 : 0 < s)
    {v : Value} {n : Nat} {xs : List Value} (hs : a.eval sl = v) (hown : W.ownsRow base e s v n xs)
    {cs : Array Value} (hx : a.eval x = .slice (some ⟨W.heap.size, 0, none⟩) 1 1) (hcs : cs.size = s) (h1 : ∀ u, u ∈ cs → u.oneCell' = true)
    (h63 : n + 1 ≤ maxLen) (hbytes : (n + 1) * bytes ≤ 140737488355328) (hbase : base ≤ W.heap.size)
    (h : ∀ v' w', w'.ownsRow base e s v' (n + 1) (xs ++ cs.toList) → W.grownBy w' v.ownBlock → (∀ b, b < W.heap.size → some b ≠ v.ownBlock → some b ≠ v'.ownBlock) → wpList P ops Q rest (a.put o.dst v') w') : wpList P ops Q (o :: rest) a (W.alloc (.cells cs e)) :=
  wpl_append_elm hgd ho ht hinfo hzs hs0 hs (hown.alloc _) hx (elm_one cs e hcs h1) h63 hbytes (by simp; omega) fun v' w' h2 h3 h4 =>
    h v' w' (by rwa [flatE_single] at h2) ⟨h3.os, h3.tape, h3.output, by have := h3.size; simp at this; omega, fun k hk hne => (h3.block k (by simp; omega) hne).trans (Below.heap_alloc _ _ _ hk)⟩ (fun b hb hne => by
      rcases h4 with e' | e' <;> rw [e']
      · exact hne
      · simp; omega)
end

/-! ### Arrays of bytes -/
/-- The cells of an array of bytes. -/
def agc (x : List F) : Array Value := (x.map Extern.Stop.cell).toArray
theorem agc_size (x : List F) : (agc x).size = x.length := by simp [agc]
theorem agc_at {x : List F} {k : Nat} (h : k < x.length) : (agc x)[k]? = some (.int .u8 ((nth x k).toNat : Int)) := by
  simp [agc, h, nth_of_lt h, Extern.Stop.cell]
theorem agc_one (x : List F) : ∀ u, u ∈ agc x → u.oneCell' = true := by
  intro u hu
  simp [agc] at hu
  obtain ⟨a, _, rfl⟩ := hu
  rfl
theorem agc_of {cs : Array Value} {x : List F} (hs : cs.size = x.length) (h : ∀ j, j < x.length → cs[j]? = some (.int .u8 ((nth x j).toNat : Int))) : cs = agc x := by
  apply Array.ext_getElem?
  intro i
  by_cases hi : i < x.length
  · rw [h i hi, agc_at hi]
  · rw [Array.getElem?_eq_none (by omega), Array.getElem?_eq_none (by rw [agc_size]; omega)]
theorem agc_inj {x y : List F} (h : agc x = agc y) : x = y := by
  have hl : x.length = y.length := by rw [← agc_size, ← agc_size, h]
  refine nth_ext hl fun j hj => ?_
  have h1 := agc_at hj
  rw [h, agc_at (by omega)] at h1
  simp at h1
  exact Gf.eq_of (by omega)
/-- A slice of blocks of 8 bytes: row j of M is element j. -/
def Blks (p : Nat → Prop) (w : World) (A : Option Addr) (n c : Nat) (M : List (List F)) : Prop := M.length = n ∧ Elm 8 p w A n c fun j => agc (mrow M j)
section
variable {p q : Nat → Prop} {w w' : World} {A : Option Addr} {n c : Nat} {M : List (List F)}
theorem Blks.keep (h : Blks p w A n c M) (k : Keeps p w w') : Blks p w' A n c M := ⟨h.1, h.2.keep k⟩
theorem Blks.below (h : Blks p w A n c M) (k : Below w.heap.size w w') : Blks p w' A n c M := ⟨h.1, h.2.below k⟩
theorem Blks.mono (h : Blks p w A n c M) (hq : ∀ b, b < w.heap.size → p b → q b) : Blks q w A n c M := ⟨h.1, h.2.mono hq⟩
theorem Blks.drewN (h : Blks p w A n c M) (k : Nat) : Blks p (w.drewN k) A n c M := ⟨h.1, h.2.drewN k⟩
theorem Blks.len (h : Blks p w A n c M) : n ≤ 9223372036854775807 := h.2.len
theorem Blks.row (h : Blks p w A n c M) {j : Nat} (hj : j < n) : (mrow M j).length = 8 := by rw [← agc_size]; exact h.2.size j hj
theorem Blks.pre (h : Blks p w A n c M) {k : Nat} (hk : k ≤ n) : Blks p w A k c (M.take k) :=
  ⟨by have := h.1; simp; omega, (h.2.pre hk).congr fun j hj => by
    congr 1
    unfold mrow
    rw [List.getD_eq_getElem?_getD, List.getD_eq_getElem?_getD, List.getElem?_take_of_lt hj]⟩
theorem Blks.from_ {b o k : Nat} (h : Blks p w (some ⟨b, o, none⟩) n c M) (hk : k ≤ n) : Blks p w (some ⟨b, o + k * 8, none⟩) (n - k) (c - k) (M.drop k) :=
  ⟨by have := h.1; simp; omega, (h.2.from_ hk).congr fun j hj => by
    congr 1
    unfold mrow
    rw [List.getD_eq_getElem?_getD, List.getD_eq_getElem?_getD, List.getElem?_drop]⟩
/-- Where there is an element: the block, and every cell. -/
theorem Blks.at_ (h : Blks p w A n c M) (hn : 0 < n) : ∃ b o, A = some ⟨b, o, none⟩ ∧ p b ∧ b < w.heap.size ∧ ∀ j, j < n → ∀ k, k < 8 → w.cell? ⟨b, o + j * 8 + k, none⟩ = some (.int .u8 ((ent M j k).toNat : Int)) := by
  obtain ⟨b, o, e, hp, hlt, hc⟩ := h.2.at_ hn
  exact ⟨b, o, e, hp, hlt, fun j hj k hk => by rw [hc j hj k hk, agc_at (by rw [h.row hj]; exact hk)]; rfl⟩
/-- The same, an element at once. -/
theorem Blks.agg (h : Blks p w A n c M) (hn : 0 < n) : ∃ b o, A = some ⟨b, o, none⟩ ∧ p b ∧ b < w.heap.size ∧ ∀ j, j < n → ∀ k, k < 8 → w.cell? ⟨b, o + j * 8 + k, none⟩ = (agc (mrow M j))[k]? := h.2.at_ hn
end
end Go.Proofs.Ytifhjigkljdkmaa
