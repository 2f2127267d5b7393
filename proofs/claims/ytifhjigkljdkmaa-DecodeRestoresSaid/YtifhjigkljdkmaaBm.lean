/- Slices of blocks that the call itself made: as rows of cells, as own slices; make, a store into one of them. -/
import Derived.Test.YtifhjigkljdkmaaBq
import Derived.Test.YtifhjigkljdkmaaPm
namespace Go.Proofs.Ytifhjigkljdkmaa
open Go.RowKit
open Gf (F)
set_option linter.unusedSimpArgs false
set_option linter.unusedVariables false
theorem info64f : (Try.prog.info? 64).map (fun i => (i.zero, i.size, i.bytes)) = some (some (.agg #[.int .u8 0, .int .u8 0, .int .u8 0, .int .u8 0, .int .u8 0, .int .u8 0, .int .u8 0, .int .u8 0]), 8, 8) := by kernel_rfl
section
variable {w w' : World} {base g cap n s : Nat} {e : TypeId} {E : Nat → Array Value} {v : Value}
theorem own_of_row {f : Nat → Value} (h : w.rowIs g e (cap * s) f) (hb : base ≤ g) (hn : n ≤ cap) (hc : cap ≤ maxLen) (hs : ∀ j, j < n → (E j).size = s) (h0 : 0 < s) (he : ∀ j, j < n → ∀ k, k < s → (E j)[k]? = some (f (j * s + k))) : w.ownsRow base e s (.slice (some ⟨g, 0, none⟩) n cap) n (flatE E n) := by
  obtain ⟨c, hg, hsz, hcell⟩ := h
  refine ⟨flatE_length hs, .inr ⟨g, cap, c, rfl, hb, hg, hn, hc, hsz, ?_⟩⟩
  have hle : n * s ≤ cap * s := Nat.mul_le_mul_right s hn
  apply List.ext_getElem?
  intro i
  by_cases hi : i < n * s
  · rw [List.getElem?_take_of_lt hi, flatE_getD h0 hs hi, he (i / s) (Nat.div_lt_of_lt_mul (by rw [Nat.mul_comm]; exact hi)) (i % s) (Nat.mod_lt _ h0), Nat.mul_comm, Nat.div_add_mod]
    have := hcell i (by omega)
    simpa using this
  · rw [List.getElem?_eq_none (by simp; omega), List.getElem?_eq_none (by rw [flatE_length hs]; omega)]
theorem row_of_own (h : w.ownsRow base e s v n (flatE E n)) (h0 : 0 < n) (hs : ∀ j, j < n → (E j).size = s) : ∃ g cap f, v = .slice (some ⟨g, 0, none⟩) n cap ∧ base ≤ g ∧ n ≤ cap ∧ cap ≤ maxLen ∧ w.rowIs g e (cap * s) f ∧ ∀ j, j < n → ∀ k, k < s → (E j)[k]? = some (f (j * s + k)) := by
  rcases h.2 with ⟨_, h1⟩ | ⟨g, cap, cur, rfl, hg, hh, hn, hc, hsz, ht⟩
  · omega
  · refine ⟨g, cap, fun i => cur.getD i undef, rfl, hg, hn, hc, ⟨cur, hh, hsz, fun i hi => by simp [Array.getD, show i < cur.size by omega]⟩, fun j hj k hk => ?_⟩
    have hl := idx_lt hj hk
    have hle : n * s ≤ cap * s := Nat.mul_le_mul_right s hn
    rw [← flatE_get hs hj hk, ← ht, List.getElem?_take_of_lt hl]
    simp [Array.getD, show j * s + k < cur.size by omega]
end
/-! ### Blocks -/
def flatB (M : List (List F)) (n : Nat) : List Value := flatE (fun j => agc (mrow M j)) n
/-- A slice of blocks of the call's own. -/
structure OwnB (w : World) (base : Nat) (v : Value) (n : Nat) (M : List (List F)) : Prop where
  len : M.length = n
  row : ∀ j, j < n → (mrow M j).length = 8
  own : w.ownsRow base 64 8 v n (flatB M n)
section
variable {w w' : World} {base g n c : Nat} {v : Value} {M N : List (List F)} {p : Nat → Prop} {A : Option Addr}
theorem OwnB.blks (h : OwnB w base v n M) : ∃ A c, v = .slice A n c ∧ Blks (fun b => base ≤ b ∧ some b = v.ownBlock) w A n c M := by
  obtain ⟨A, c, e, he⟩ := own_elm h.own (fun j hj => by rw [agc_size, h.row j hj]) (fun j _ => agc_one _)
  exact ⟨A, c, e, h.len, he⟩
theorem OwnB.below (h : OwnB w base v n M) (hb : Below w.heap.size w w') : OwnB w' base v n M := ⟨h.len, h.row, by
  obtain ⟨h1, h2⟩ := h.own
  refine ⟨h1, ?_⟩
  rcases h2 with hn | ⟨g, cap, cur, e, hg, hh, rest⟩
  · exact .inl hn
  · exact .inr ⟨g, cap, cur, e, hg, (hb.block g (Array.getElem?_eq_some_iff.1 hh).1).trans hh, rest⟩⟩
theorem OwnB.nil (w : World) (base : Nat) : OwnB w base (.slice none 0 0) 0 [] := ⟨rfl, fun j hj => absurd hj (Nat.not_lt_zero _), World.ownsRow_nil _ _ _ _⟩
theorem flatB_append {n m : Nat} (hM : M.length = n) : ∀ k, flatB (M ++ N) (n + k) = flatB M n ++ flatB N k
  | 0 => by
    show flatE _ n = flatE _ n ++ []
    rw [List.append_nil]
    exact flatE_congr fun j hj => by rw [mrow_append_left (by omega)]
  | k + 1 => by
    show flatE _ (n + k + 1) = _ ++ flatE _ (k + 1)
    rw [flatE_succ, flatE_succ]
    have ih := flatB_append (n := n) (m := m) hM k
    unfold flatB at ih ⊢
    rw [ih, ← hM, mrow_append_at, List.append_assoc]
/-- Behind an append of the blocks N. -/
theorem OwnB.app {v' : Value} {m : Nat} (h : OwnB w base v n M) (hB : Blks p w A m c N) (own' : w'.ownsRow base 64 8 v' (n + m) (flatB M n ++ flatB N m)) : OwnB w' base v' (n + m) (M ++ N) := by
  refine ⟨by rw [List.length_append, h.len, hB.1], fun j hj => ?_, ?_⟩
  · by_cases hlt : j < n
    · rw [mrow_append_left (by rw [h.len]; exact hlt)]; exact h.row j hlt
    · obtain ⟨k, rfl⟩ : ∃ k, j = n + k := ⟨j - n, by omega⟩
      rw [← h.len, mrow_append_at]
      exact hB.row (by omega)
  · rw [flatB_append (m := m) h.len]; exact own'
/-- Behind an append of one block. -/
theorem OwnB.push {v' : Value} {x : List F} (h : OwnB w base v n M) (hx : x.length = 8) (own' : w'.ownsRow base 64 8 v' (n + 1) (flatB M n ++ (agc x).toList)) : OwnB w' base v' (n + 1) (M ++ [x]) := by
  refine ⟨by rw [List.length_append, h.len]; rfl, fun j hj => ?_, ?_⟩
  · by_cases hlt : j < n
    · rw [mrow_append_left (by rw [h.len]; exact hlt)]; exact h.row j hlt
    · obtain rfl : j = n := by omega
      rw [← h.len, mrow_append_right]
      exact hx
  · rw [flatB_append (m := 1) h.len]
    have : flatB [x] 1 = (agc x).toList := by unfold flatB; rw [flatE_succ, flatE_zero]; rfl
    rw [this]; exact own'
theorem mrow_set {i j : Nat} {x : List F} (hi : i < M.length) : mrow (M.set i x) j = if j = i then x else mrow M j := by
  unfold mrow
  rw [List.getD_eq_getElem?_getD, List.getD_eq_getElem?_getD, List.getElem?_set]
  by_cases e : i = j
  · subst e; simp [hi]
  · simp [e, Ne.symm e]
end
section
variable {w : World} {base n j : Nat} {v : Value} {M : List (List F)}
/-- A store of a whole block into a slice of the call's own. -/
theorem run_store_own (h : OwnB w base v n M) (hj : j < n) {x : List F} (hx : x.length = 8) : ∃ g cap, v = .slice (some ⟨g, 0, none⟩) n cap ∧ base ≤ g ∧ g < w.heap.size ∧ (∀ off, off = j * 8 → ∃ w', (storeVar 64 ⟨g, off, none⟩ (.agg (agc x))).run Try.prog w = .ok () w' ∧ OwnB w' base v n (M.set j x) ∧ w.grownBy w' (some g) ∧ w'.heap.size = w.heap.size) := by
  obtain ⟨g, cap, f, rfl, hg, hn, hc, hr, hE⟩ := row_of_own h.own (by omega) (fun j hj => by rw [agc_size, h.row j hj])
  refine ⟨g, cap, rfl, hg, hr.lt, ?_⟩
  rintro off rfl
  have hfit : j * 8 + (agc x).size ≤ cap * 8 := by rw [agc_size, hx]; omega
  obtain ⟨w', hrun, h2, h3, h4⟩ := run_storeVar_agg (P := Try.prog) (ty := 64) (o := j * 8) hr (info64' hx) hfit (agc_one _)
  have hrow : ∀ i, i < n → (mrow (M.set j x) i).length = 8 := fun i hi => by
    rw [mrow_set (by rw [h.len]; exact hj)]
    by_cases e : i = j
    · rw [if_pos e]; exact hx
    · rw [if_neg e]; exact h.row i hi
  refine ⟨w', hrun, ⟨by rw [List.length_set, h.len], hrow, own_of_row h2 hg hn hc (fun i hi => by rw [agc_size, hrow i hi]) (by omega) (fun i hi k hk => ?_)⟩, h3, h4⟩
  rw [mrow_set (by rw [h.len]; exact hj)]
  by_cases e : i = j
  · subst e
    rw [if_pos rfl, putAt_in (by rw [agc_size, hx]; exact hk), Array.getD_eq_getD_getElem?, agc_at (by omega)]
    rfl
  · rw [if_neg e, putAt_out (by rw [agc_size, hx]; omega)]
    exact hE i hi k hk
theorem wp_store_own {o : Oper} {a : Act} {K : Act → World → Prop} {Q : Exit → Act → World → Prop} {y z : Operand} (ho : o.op = .store 64 y z) {g cap off : Nat}
    (h : OwnB w base (.slice (some ⟨g, 0, none⟩) n cap) n M) (hj : j < n) {x : List F} (hx : x.length = 8) (hy : a.eval y = .pointer (some ⟨g, off, none⟩)) (hoff : off = j * 8) (hz : a.eval z = .agg (agc x))
    (hK : ∀ w', OwnB w' base (.slice (some ⟨g, 0, none⟩) n cap) n (M.set j x) → w.grownBy w' (some g) → w'.heap.size = w.heap.size → K (a.put o.dst undef) w') : o.wp Try.prog a w K Q := by
  obtain ⟨g', cap', e, _, _, hs⟩ := run_store_own h hj hx
  cases e
  obtain ⟨w', hrun, h2, h3, h4⟩ := hs off hoff
  unfold Oper.wp execOp
  simp only [ho, hy, hz, Instr.storeAt, Instr.sureAddr, Sem.run_bind, Sem.run_pure, Result.andThen_ok, hrun]
  exact hK w' h2 h3 h4
theorem wpl_store_own {ops : Array Oper} {rest : List Oper} {o : Oper} {a : Act} {Q : Exit → Act → World → Prop} (hgd : o.guard = none) {y z : Operand} (ho : o.op = .store 64 y z) {g cap off : Nat}
    (h : OwnB w base (.slice (some ⟨g, 0, none⟩) n cap) n M) (hj : j < n) {x : List F} (hx : x.length = 8) (hy : a.eval y = .pointer (some ⟨g, off, none⟩)) (hoff : off = j * 8) (hz : a.eval z = .agg (agc x))
    (hK : ∀ w', OwnB w' base (.slice (some ⟨g, 0, none⟩) n cap) n (M.set j x) → w.grownBy w' (some g) → w'.heap.size = w.heap.size → wpList Try.prog ops Q rest (a.put o.dst undef) w') : wpList Try.prog ops Q (o :: rest) a w :=
  wpList_plain hgd fun _ hK' => wp_store_own ho h hj hx hy hoff hz fun w' h2 h3 h4 => hK' _ _ (hK w' h2 h3 h4)
end
def zerosM (n : Nat) : List (List F) := List.replicate n (zeroL 8)
theorem zerosM_row {n j : Nat} (h : j < n) : mrow (zerosM n) j = zeroL 8 := by simp [mrow, zerosM, h]
/-- 'make([]Block, n)'. -/
theorem wpl_make_blk {w : World} {ops : Array Oper} {rest : List Oper} {o : Oper} {a : Act} {Q : Exit → Act → World → Prop} (hg : o.guard = none) {l c : Operand} (hop : o.op = Op.makeSlice 53 l c) {n : Nat} (hl : a.eval l = .int .i64 (n : Int)) (hc : a.eval c = .int .i64 (n : Int)) (hn : n ≤ 65536)
    (hK : ∀ w1 g, OwnB w1 w.heap.size (.slice (some ⟨g, 0, none⟩) n n) n (zerosM n) → Below w.heap.size w w1 → w.heap.size ≤ g → wpList Try.prog ops Q rest (a.put o.dst (.slice (some ⟨g, 0, none⟩) n n)) w1) : wpList Try.prog ops Q (o :: rest) a w := by
  obtain ⟨i, hi, hzz⟩ := Option.map_eq_some_iff.1 info64f
  simp only [Prod.mk.injEq] at hzz
  obtain ⟨hz, hs, hb⟩ := hzz
  have hr := run_make (P := Try.prog) w 53 64 i _ Try.underlying53 hi hz .i64 .i64 n n (by omega) (Int.le_refl _) (by rw [hb]; omega) (by omega)
  simp only [Int.toNat_natCast, hs] at hr
  refine wpList_plain hg fun K hK' => ?_
  unfold Oper.wp
  simp only [execOp, hop, hl, hc, hr, Sem.run_bind, Sem.run_pure, Result.andThen_ok]
  refine hK' _ _ (hK _ _ ⟨by simp [zerosM], fun j hj => by rw [zerosM_row hj, zeroL_length], ?_⟩ ((Below.refl _ _).alloc (Nat.le_refl _) _) (Nat.le_refl _))
  have hrow : (w.alloc (.cells (madeCells (Value.agg #[.int .u8 0, .int .u8 0, .int .u8 0, .int .u8 0, .int .u8 0, .int .u8 0, .int .u8 0, .int .u8 0]).cells (n * 8)) 64)).rowIs w.heap.size 64 (n * 8) zeros := by
    have h := World.rowIs_alloc w (madeCells (Value.agg #[.int .u8 0, .int .u8 0, .int .u8 0, .int .u8 0, .int .u8 0, .int .u8 0, .int .u8 0, .int .u8 0]).cells (n * 8)) 64 zeros (fun i hi => by
      rw [size_madeCells] at hi
      have h8 : i % 8 < 8 := Nat.mod_lt _ (by omega)
      simp only [madeCells, Value.cells]
      rw [Array.getElem?_map, Array.getElem?_range, if_pos hi]
      simp only [Option.map_some, List.size_toArray, List.length_cons, List.length_nil]
      rcases (show i % 8 = 0 ∨ i % 8 = 1 ∨ i % 8 = 2 ∨ i % 8 = 3 ∨ i % 8 = 4 ∨ i % 8 = 5 ∨ i % 8 = 6 ∨ i % 8 = 7 by omega) with e | e | e | e | e | e | e | e <;> simp [e, zeros])
    rwa [size_madeCells] at h
  refine own_of_row hrow (Nat.le_refl _) (Nat.le_refl _) (by unfold maxLen; omega) (fun j hj => by rw [agc_size, zerosM_row hj, zeroL_length]) (by omega) (fun j hj k hk => ?_)
  rw [zerosM_row hj, agc_at (by rw [zeroL_length]; exact hk), nth_zeroL]
  rfl
end Go.Proofs.Ytifhjigkljdkmaa
