/- parity.Encode: one round of its outer loop. -/
import Derived.Test.YtifhjigkljdkmaaBw
namespace Go.Proofs.Ytifhjigkljdkmaa
open Go.RowKit Go.Shelf
open Gf (F)
set_option linter.unusedSimpArgs false
set_option linter.unusedVariables false
/-- The three parity blocks: those below j are whole, j is under way. -/
def oF (D : List (List F)) (j : Nat) (acc : List F) (i : Nat) : Value := .int .u8 ((nth (if i / 8 < j then mrow (parM D) (i / 8) else if i / 8 = j then acc else zeroL 8) (i % 8)).toNat : Int)
def accB (j : Nat) (pre : List BlkI) : List F := pre.foldl (fun a x => fuse x.2.1 a (Gf.pow 2 j)) (zeroL 8)
theorem accB_snoc (j : Nat) (pre : List BlkI) (x : BlkI) : accB j (pre ++ [x]) = fuse x.2.1 (accB j pre) (Gf.pow 2 j) := by simp [accB]
theorem accB_nil (j : Nat) : accB j [] = zeroL 8 := rfl
theorem foldl_len (j : Nat) : ∀ (pre : List BlkI) (a : List F), a.length = 8 → (pre.foldl (fun a x => fuse x.2.1 a (Gf.pow 2 j)) a).length = 8
  | [], _, h => h
  | x :: pre, a, h => foldl_len j pre _ (fuse_length _ x.2.2 h)
theorem accB_length (j : Nat) (pre : List BlkI) : (accB j pre).length = 8 := foldl_len j pre _ (zeroL_length 8)
theorem accB_come {D : List (List F)} (hD : ∀ i, i < D.length → (mrow D i).length = 8) (j : Nat) : ∀ k, k ≤ D.length → accB j (comeB D k) = horn D j k
  | 0, _ => rfl
  | k + 1, h => by
    rw [comeB_succ, accB_snoc, accB_come hD j k (by omega), horn]
    have e : D.length - 1 - k = D.length - (k + 1) := by omega
    show fuse (row8 (mrow D (D.length - 1 - k))).1 _ _ = _
    rw [e, row8_val (hD _ (by omega))]
theorem oF_next (D : List (List F)) {j : Nat} (i : Nat) : oF D j (mrow (parM D) j) i = oF D (j + 1) (zeroL 8) i := by
  unfold oF
  by_cases h1 : i / 8 < j
  · rw [if_pos h1, if_pos (by omega)]
  · rw [if_neg h1]
    by_cases h2 : i / 8 = j
    · rw [if_pos h2, if_pos (by omega), h2]
    · rw [if_neg h2, if_neg (by omega)]
      split <;> rfl
theorem oF_put (D : List (List F)) {j : Nat} {acc acc' : List F} (ha : acc'.length = 8) (i : Nat) : putAt (j * 8) (agc acc') (oF D j acc) i = oF D j acc' i := by
  by_cases h : j * 8 ≤ i ∧ i < j * 8 + 8
  · obtain ⟨k, rfl⟩ : ∃ k, i = j * 8 + k := ⟨i - j * 8, by omega⟩
    have hk : k < 8 := by omega
    rw [putAt_in (by rw [agc_size, ha]; exact hk), Array.getD_eq_getD_getElem?, agc_at (by omega)]
    have e1 : (j * 8 + k) / 8 = j := by omega
    have e2 : (j * 8 + k) % 8 = k := by omega
    unfold oF
    rw [e1, e2, if_neg (by omega), if_pos rfl]
    rfl
  · rw [putAt_out (by rw [agc_size, ha]; omega)]
    unfold oF
    by_cases h1 : i / 8 < j
    · rw [if_pos h1, if_pos h1]
    · rw [if_neg h1, if_neg h1, if_neg (by omega), if_neg (by omega)]
theorem oF_cell {W : World} {gO : Nat} {D : List (List F)} {j : Nat} {acc : List F} (h : W.rowIs gO 64 24 (oF D j acc)) (hj : j < 3) (ha : acc.length = 8) {k : Nat} (hk : k < (agc acc).size) : W.cell? ⟨gO, j * 8 + k, none⟩ = (agc acc)[k]? := by
  rw [agc_size, ha] at hk
  rw [h.cell (show j * 8 + k < 24 by omega), agc_at (by omega)]
  have e1 : (j * 8 + k) / 8 = j := by omega
  have e2 : (j * 8 + k) % 8 = k := by omega
  unfold oF
  rw [e1, e2, if_neg (by omega), if_pos rfl]
/-- What holds between two rounds. -/
structure EncI (w : World) (gO gB : Nat) (D : List (List F)) (j : Nat) (acc : List F) (ds : List Nat) (W : World) : Prop where
  box : Boxed W gB 53 (.slice (some ⟨gO, 0, none⟩) 3 3)
  row : W.rowIs gO 64 24 (oF D j acc)
  below : Below w.heap.size w W
  marks : ∀ d, d ∈ ds → W.heap[d]? = some (.deferred (some []))
theorem rowIs_kept {W W' : World} {g N : Nat} {t : TypeId} {f : Nat → Value} {row : Option Nat} (h : W.rowIs g t N f) (hg : W.grownBy W' row) (hr : ∀ r, row = some r → ∃ o : Obj, W.heap[r]? = some o ∧ o.isCells = false) : W'.rowIs g t N f :=
  h.of_block (hg.block g h.lt (fun e => by
    obtain ⟨o, ho, hc⟩ := hr g e.symm
    obtain ⟨c, hb, _⟩ := h
    rw [hb] at ho
    cases ho
    cases hc))
theorem EncI.own {w : World} {gO gB : Nat} {D : List (List F)} {j : Nat} {acc : List F} {ds : List Nat} {X Y : World} {row : Option Nat} {B : Nat} (h : EncI w gO gB D j acc ds X) (hg : X.grownBy Y row) (hr : ∀ r, row = some r → B ≤ r ∧ ∃ o : Obj, X.heap[r]? = some o ∧ o.isCells = false) (hB : w.heap.size ≤ B) (hd : ∀ d, d ∈ ds → d < B) : EncI w gO gB D j acc ds Y :=
  ⟨boxed_own gB 53 (fun (_ : Unit) => Value.slice (some ⟨gO, 0, none⟩) 3 3) () X Y row h.box hg (fun r e => (hr r e).2), rowIs_kept h.row hg (fun r e => (hr r e).2), h.below.grown hg h.below.size (fun k e => Nat.le_trans hB (hr k e).1), fun d hm => (hg.block d (Array.getElem?_eq_some_iff.1 (h.marks d hm)).1 (fun e => by
    have := (hr d e.symm).1
    have := hd d hm
    omega)).trans (h.marks d hm)⟩
theorem EncI.keep {w : World} {gO gB : Nat} {D : List (List F)} {j : Nat} {acc : List F} {ds : List Nat} {X Y : World} (h : EncI w gO gB D j acc ds X) (hb : Below X.heap.size X Y) (hw : w.heap.size ≤ X.heap.size) : EncI w gO gB D j acc ds Y :=
  ⟨(hb.block gB h.box.lt).trans h.box, h.row.of_block (hb.block gO h.row.lt), below_then h.below hw hb, fun d hm => (hb.block d (Array.getElem?_eq_some_iff.1 (h.marks d hm)).1).trans (h.marks d hm)⟩
theorem run_exec_load_agg {P : Program} {w : World} {o : Oper} {a : Act} {ty : TypeId} {x : Operand} (ho : o.op = .load ty x) {b off : Nat} (hx : a.eval x = .pointer (some ⟨b, off, none⟩)) {cs : Array Value} {d : TypeDesc} (hu : P.underlying ty = some d) (hd : (match d with | .struct _ | .array _ _ => true | _ => false) = true) (hi : (P.info? ty).map (·.size) = some cs.size)
    (hc : ∀ k, k < cs.size → w.cell? ⟨b, off + k, none⟩ = cs[k]?) : (execOp a.eval o).run P w = .ok (.value (.agg cs)) w := by
  unfold execOp
  simp only [ho, hx, Instr.loadAt, Instr.sureAddr, Sem.run_bind, Sem.run_pure, Result.andThen_ok, run_loadVar_agg hu hd hi hc]
theorem keeps_putObj {p : Nat → Prop} {B : Nat} (hp : ∀ b, p b → b < B) (W : World) (l : Nat) (o o' : Obj) (hl : B ≤ l) (h : W.heap[l]? = some o) (_ : o.isCells = false) (_ : o.isWalk = false) : Keeps p W (W.putObj l o') :=
  ⟨by simp, fun b hb hpb => World.putObj_heap_other (fun e => by have := hp b hpb; omega)⟩
theorem EncI.step {w : World} {gO gB : Nat} {D : List (List F)} {j : Nat} {acc acc' : List F} {ds : List Nat} {W w5 w6 : World} (h : EncI w gO gB D j acc ds W) (hgB : gB ≠ gO) (hgO : w.heap.size ≤ gO) (ha : acc'.length = 8) (hb5 : Below W.heap.size W w5)
    (hr6 : w6.rowIs gO 64 24 (putAt (j * 8) (agc acc') (oF D j acc))) (hg6 : w5.grownBy w6 (some gO)) : EncI w gO gB D j acc' ds w6 ∧ W.heap.size ≤ w6.heap.size ∧ ∀ b, b < W.heap.size → b ≠ gO → w6.heap[b]? = W.heap[b]? := by
  have hsz := hb5.size
  have all : ∀ b, b < W.heap.size → b ≠ gO → w6.heap[b]? = W.heap[b]? := fun b hb hne => (hg6.block b (by omega) (fun e => hne (by cases e; rfl))).trans (hb5.block b hb)
  have hbw := h.below.size
  refine ⟨⟨(all gB h.box.lt hgB).trans h.box, hr6.congr fun i hi => oF_put D ha i, (below_then h.below hbw hb5).grown hg6 (by omega) (fun k e => by cases e; exact hgO), fun d hm => ?_⟩, by have := hg6.size; omega, all⟩
  have hd := h.marks d hm
  refine (all d (Array.getElem?_eq_some_iff.1 hd).1 (fun e => ?_)).trans hd
  obtain ⟨c, hc, _⟩ := h.row
  rw [e, hc] at hd
  cases hd
theorem keepsFrom_of {B : Nat} {W w6 : World} {gO : Nat} (hs : W.heap.size ≤ w6.heap.size) (hc : ∃ c t, W.heap[gO]? = some (.cells c t (0, 0))) (all : ∀ b, b < W.heap.size → b ≠ gO → w6.heap[b]? = W.heap[b]?) : KeepsFrom B W w6 :=
  ⟨hs, fun k o _ hk ho => (all k (Array.getElem?_eq_some_iff.1 hk).1 (fun e => by
    obtain ⟨c, t, hc⟩ := hc
    rw [e, hc] at hk
    cases hk
    cases ho)).trans hk⟩
section
variable {P : Program} {w : World} {F' : Fence} {nF : Nat}
theorem wplIn_store_agg {ops : Array Oper} {rest : List Oper} {o : Oper} {a : Act} {Q : Exit → Act → World → Prop} (hgd : o.guard = none) {ty : TypeId} {x y : Operand} (ho : o.op = .store ty x y)
    {g off N : Nat} (hx : a.eval x = .pointer (some ⟨g, off, none⟩)) {cs : Array Value} (hy : a.eval y = .agg cs) {t : TypeId} {f : Nat → Value} (hr : w.rowIs g t N f) (hi : (P.info? ty).map (·.size) = some cs.size) (hfit : off + cs.size ≤ N) (h1 : ∀ u, u ∈ cs → u.oneCell' = true)
    (h : ∀ w', w'.rowIs g t N (putAt off cs f) → w.grownBy w' (some g) → w'.heap.size = w.heap.size → wpListIn F' nF P ops Q rest (a.put o.dst undef) w') : wpListIn F' nF P ops Q (o :: rest) a w := by
  refine wpListIn_plain hgd fun K hK => ?_
  obtain ⟨w', hrun, h2, h3, h4⟩ := run_storeVar_agg (P := P) (o := off) hr hi hfit h1
  unfold Oper.wpIn
  refine ⟨by simp [Oper.about, ho], ?_⟩
  rw [Oper.semAt_plain F' _ _ (by rw [ho]; intro c hc'; cases hc')]
  unfold execOp
  simp only [ho, hx, hy, Instr.storeAt, Instr.sureAddr, Sem.run_bind, Sem.run_pure, Result.andThen_ok, hrun]
  exact hK _ _ (h w' h2 h3 h4)
end
theorem if_wanted {c : Bool} {p q : Prop} (h : c = true) (hp : p) : if c = true then p else q := by rw [if_pos h]; exact hp
theorem zero_row (W : World) : (W.alloc (.cells #[.int .u8 0, .int .u8 0, .int .u8 0, .int .u8 0, .int .u8 0, .int .u8 0, .int .u8 0, .int .u8 0] 64)).rowIs W.heap.size 64 8 zeros := World.rowIs_alloc W _ 64 zeros (fun i hi => by
  match i, hi with
  | 0, _ => rfl
  | 1, _ => rfl
  | 2, _ => rfl
  | 3, _ => rfl
  | 4, _ => rfl
  | 5, _ => rfl
  | 6, _ => rfl
  | 7, _ => rfl)
theorem EncI.take {w : World} {gO gB : Nat} {D : List (List F)} {j : Nat} {acc : List F} {ds : List Nat} {W : World} {d : Nat} (h : EncI w gO gB D j acc (d :: ds) W) (hw : w.heap.size ≤ d) (hd : ∀ e, e ∈ ds → e ≠ d) : EncI w gO gB D j acc ds (W.putObj d (.deferred none)) := by
  have hm := h.marks d (by simp)
  have hr : ∀ r, some d = some r → ∃ o : Obj, W.heap[r]? = some o ∧ o.isCells = false := fun r e => by cases e; exact ⟨_, hm, rfl⟩
  exact ⟨boxed_own gB 53 (fun (_ : Unit) => Value.slice (some ⟨gO, 0, none⟩) 3 3) () W _ (some d) h.box (grownBy_putObj' W d _) hr, rowIs_kept h.row (grownBy_putObj' W d _) hr, h.below.grown (grownBy_putObj' W d _) h.below.size (fun k e => by cases e; exact hw), fun e he => (World.putObj_heap_other (hd e he)).trans (h.marks e (by simp [he]))⟩
attribute [local go_sem] Oper.semAt_some
set_option maxRecDepth 100000 in
set_option maxHeartbeats 2000000 in
theorem enc_round {Q : Exit → Act → World → Prop} {p : Nat → Prop} {w W0 : World} {gO gB : Nat} {A : Option Addr} {len c j : Nat} {D : List (List F)} {ds : List Nat} {defs : List Deferred} (hpos : 0 < len) (hlen : len ≤ 13) (hj : j < 3) (hD : Blks p w A len c D) (hgO : w.heap.size ≤ gO) (hgB : gB ≠ gO) (hI : EncI w gO gB D j (zeroL 8) ds W0)
    {u1 u2 u3 u5 u6 u7 u8 u9 u10 u11 u12 u13 u14 u15 u16 u17 u18 u20 u21 u22 u23 u24 u25 u26 u27 u28 u29 u30 u31 u32 u33 u34 u35 u36 u37 u38 : Value}
    (hK : ∀ (x5 x7 x21 x22 x23 x26 x27 x28 x29 x30 x31 x32 x33 x34 x35 x36 : Value) (D' : Nat) (W' : World), W0.heap.size ≤ D' → EncI w gO gB D (j + 1) (zeroL 8) (D' :: ds) W' → Q .normal ⟨List.toArray ((.slice A len c) :: (u1) :: (u2) :: (u3) :: (.pointer (some ⟨gB, 0, none⟩)) :: (x5) :: (u6) :: (x7) :: (u8) :: (u9) :: (u10) :: (u11) :: (u12) :: (u13) :: (u14) :: (u15) :: (u16) :: (u17) :: (u18) :: (.int .i64 (j : Int)) :: (u20) :: (x21) :: (x22) :: (x23) :: (u24) :: (u25) :: (x26) :: (x27) :: (x28) :: (x29) :: (x30) :: (x31) :: (x32) :: (x33) :: (x34) :: (x35) :: (x36) :: (u37) :: (u38) :: []), { target := .collected D', args := #[] } :: defs⟩ W') :
    (piece Try.f117 [1, 1, 1, 0, 1, 0, 0, 1, 1, 0]).wp Try.prog Q ⟨List.toArray ((.slice A len c) :: u1 :: u2 :: u3 :: (.pointer (some ⟨gB, 0, none⟩)) :: u5 :: u6 :: u7 :: u8 :: u9 :: u10 :: u11 :: u12 :: u13 :: u14 :: u15 :: u16 :: u17 :: u18 :: (.int .i64 (j : Int)) :: u20 :: u21 :: u22 :: u23 :: u24 :: u25 :: u26 :: u27 :: u28 :: u29 :: u30 :: u31 :: u32 :: u33 :: u34 :: u35 :: u36 :: u37 :: u38 :: []), defs⟩ W0 := by
  conv => arg 2; whnf
  have hIb := hI.box.cell
  have hbel := hI.below.size
  have hgOl := hI.row.lt
  have hgBl := hI.box.lt
  go_wp2_with (go_at_call 139; (with_reducible refine (back_any _ _ _ _).mono ?_); rintro e w2 ⟨rfl, rfl⟩)
  have hb2 : Below W0.heap.size W0 ((W0.alloc (.cells #[.int .i64 (j : Int)] 3)).alloc (.cells #[.slice A len c] 53)) := ((Below.refl _ _).alloc (Nat.le_refl _) _).alloc (by simp) _
  have hbj := (Boxed.new W0 3 (.int .i64 (j : Int))).alloc (.cells #[.slice A len c] 53)
  have hbs := (Boxed.new (W0.alloc (.cells #[.int .i64 (j : Int)] 3)) 53 (.slice A len c)).cell
  have hsz : ((W0.alloc (.cells #[.int .i64 (j : Int)] 3)).alloc (.cells #[.slice A len c] 53)).heap.size = W0.heap.size + 2 := by simp
  rw [size_alloc1] at hbs
  have hI2 := hI.keep hb2 hbel
  have hD2 := (hD.mono (q := fun b => b < w.heap.size) fun b hb _ => hb).below hI2.below
  obtain ⟨W2, hW2⟩ : ∃ W2, (W0.alloc (.cells #[.int .i64 (j : Int)] 3)).alloc (.cells #[.slice A len c] 53) = W2 := ⟨_, rfl⟩
  rw [hW2] at hb2 hbj hbs hsz hI2 hD2 ⊢
  clear hW2
  have hD3 : Blks (fun b => b < W2.heap.size ∧ b ≠ gO) W2 A len c D := hD2.mono fun b hb h => ⟨hb, by omega⟩
  have hrows : ∀ i, i < D.length → (mrow D i).length = 8 := fun i hi => hD.row (by rw [← hD.1]; exact hi)
  refine (wpIn_wide (n := 10)).1 ?_
  refine wpIn_rangeFunc_ownH (α := BlkI) (F := Fence.wide) rfl (by decide) (gf := 150) (lb := #[.pointer (some ⟨W0.heap.size + 1, 0, none⟩)]) rfl trivial (enters_of Try.func150 (by kernel_rfl) rfl)
    (back_stops 9 (W0.heap.size + 1) hpos ⟨by omega, by omega⟩ hbs hD3) (fun h k => h.trans k) (keeps_putObj (fun b h => h.1)) (Below.refl _ _) (fun _ => rfl)
    (fun pre W => EncI w gO gB D j (accB j pre) ds W ∧ Boxed W W0.heap.size 3 (.int .i64 (j : Int))) (fun _ _ _ => False)
    (OwnFrom.and (fun s X Y row hs hg hr => hs.own hg hr (by omega) (fun d hm => (Array.getElem?_eq_some_iff.1 (hI2.marks d hm)).1)) (Own.from (boxed_own _ _ _) _))
    (fun _ _ _ _ _ hs _ _ => hs) ⟨hI2, hbj⟩
    (fun x a' W => ∃ Bx, W.rowIs Bx 64 8 (bytes x.2.1) ∧ a' = { tmps := List.toArray ((.slice A len c) :: u1 :: u2 :: u3 :: (.pointer (some ⟨gB, 0, none⟩)) :: (.pointer (some ⟨W0.heap.size, 0, none⟩)) :: u6 :: (.pointer (some ⟨Bx, 0, none⟩)) :: u8 :: u9 :: u10 :: u11 :: u12 :: u13 :: u14 :: u15 :: u16 :: u17 :: u18 :: (.int .i64 (j : Int)) :: u20 :: (.int .i64 (j : Int)) :: (.slice A len c) :: (.func (.func 150) #[] #[.pointer (some ⟨W0.heap.size + 1, 0, none⟩)]) :: (.int .i64 (x.1 : Int)) :: (.agg (agc x.2.1)) :: u26 :: u27 :: u28 :: u29 :: u30 :: u31 :: u32 :: u33 :: u34 :: u35 :: u36 :: u37 :: u38 :: []), defers := [] })
    (fun x a' _ X Y row hs hg hr => by obtain ⟨Bx, h2, h3⟩ := hs; exact ⟨Bx, rowIs_kept h2 hg (fun r e => (hr r e).2), h3⟩)
    ?assign ?body ?done ?stop
  case assign =>
    rintro l pre x W K ⟨hIw, hbw⟩ hK
    have hz := zero_row W
    unfold encB
    gi_wp2_with (with_reducible refine wplIn_store_agg rfl rfl rfl rfl hz (info64' x.2.2) (by rw [agc_size, x.2.2]; decide) (agc_one _) ?_; intro w4 hr4 hg4 hz4)
    have hb4 : Below W.heap.size W w4 := ((Below.refl _ W).alloc (Nat.le_refl _) _).grown hg4 (by simp) (fun k e => by cases e; exact Nat.le_refl _)
    exact hK _ w4 ⟨hb4.size, fun k o _ hk _ => (hb4.block k (Array.getElem?_eq_some_iff.1 hk).1).trans hk⟩ ⟨hb4.size, fun b hb _ => hb4.block b hb⟩ ⟨hIw.keep hb4 hIw.below.size, (hb4.block _ hbw.lt).trans hbw⟩ ⟨W.heap.size, row_put x.2.2 hr4, rfl⟩
  case body =>
    rintro l pre x a' W hl ⟨r, hr⟩ ⟨hIw, hbw⟩ ⟨Bx, hrx, rfl⟩ hlt
    have d1 : (0 : Int) ≤ (j : Int) := Int.natCast_nonneg _
    have d2 : (j : Int) < 3 := by omega
    gi_wp2
    refine AnyE.regionIn (fun w' => w'.cell? ⟨gB, 0, none⟩ = some (.slice (some ⟨gO, 0, none⟩) 3 3) ∧ w'.cell? ⟨W0.heap.size, 0, none⟩ = some (.int .i64 (j : Int)) ∧ (∀ k, k < (agc x.2.1).size → w'.cell? ⟨Bx, 0 + k, none⟩ = (agc x.2.1)[k]?) ∧ ∀ k, k < (agc (accB j pre)).size → w'.cell? ⟨gO, j * 8 + k, none⟩ = (agc (accB j pre))[k]?) 11 (by kernel_rfl) (by kernel_rfl) (by rintro ⟨a, w, h⟩; exact h) ?_
    have hH := (show (fun w' => w'.cell? ⟨gB, 0, none⟩ = some (.slice (some ⟨gO, 0, none⟩) 3 3) ∧ w'.cell? ⟨W0.heap.size, 0, none⟩ = some (.int .i64 (j : Int)) ∧ (∀ k, k < (agc x.2.1).size → w'.cell? ⟨Bx, 0 + k, none⟩ = (agc x.2.1)[k]?) ∧ ∀ k, k < (agc (accB j pre)).size → w'.cell? ⟨gO, j * 8 + k, none⟩ = (agc (accB j pre))[k]?) W.drew from (And.intro hIw.box.cell (And.intro hbw.cell (And.intro (fun k hk => row_agc hrx x.2.2 hk) (fun k hk => oF_cell hIw.row hj (accB_length j pre) hk)))))
    refine AnyE.take 0 [0] (v := ?_) rfl (by decide) (by kernel_rfl) (by kernel_rfl) (by kernel_rfl) (by kernel_rfl) (by kernel_rfl) (by kernel_rfl) (fun _ _ _ h => h) (by rfl) hH ?_ ?_
    rotate_left; · (intro w hSw; (try dsimp only at hSw); go_simp; try with_reducible rfl)
    (try simp only [Act.put, List.setIfInBounds_toArray, List.set_cons_zero, List.set_cons_succ])
    refine AnyE.take 1 [1] (v := ?_) rfl (by decide) (by kernel_rfl) (by kernel_rfl) (by kernel_rfl) (by kernel_rfl) (by kernel_rfl) (by kernel_rfl) (fun _ _ _ h => h) (by rfl) hH ?_ ?_
    rotate_left; · (intro w hSw; (try dsimp only at hSw); go_simp; try with_reducible rfl)
    (try simp only [Act.put, List.setIfInBounds_toArray, List.set_cons_zero, List.set_cons_succ])
    refine AnyE.take 2 [2] (v := ?_) rfl (by decide) (by kernel_rfl) (by kernel_rfl) (by kernel_rfl) (by kernel_rfl) (by kernel_rfl) (by kernel_rfl) (fun _ _ _ h => h) (by rfl) hH ?_ ?_
    rotate_left; · (intro w hSw; refine run_exec_load_agg (ty := 64) (x := .tmp 7) ?_ ?_ Try.underlying64 rfl (info64' (x.2.2)) hSw.2.2.1; rfl; rfl)
    (try simp only [Act.put, List.setIfInBounds_toArray, List.set_cons_zero, List.set_cons_succ])
    refine AnyE.take 3 [3] (v := ?_) rfl (by decide) (by kernel_rfl) (by kernel_rfl) (by kernel_rfl) (by kernel_rfl) (by kernel_rfl) (by kernel_rfl) (fun _ _ _ h => h) (by rfl) hH ?_ ?_
    rotate_left; · (intro w hSw; (try dsimp only at hSw); go_simp; try with_reducible rfl)
    (try simp only [Act.put, List.setIfInBounds_toArray, List.set_cons_zero, List.set_cons_succ])
    refine AnyE.take 4 [4] (v := ?_) rfl (by decide) (by kernel_rfl) (by kernel_rfl) (by kernel_rfl) (by kernel_rfl) (by kernel_rfl) (by kernel_rfl) (fun _ _ _ h => h) (by rfl) hH ?_ ?_
    rotate_left; · (intro w hSw; (try dsimp only at hSw); go_simp; try with_reducible rfl)
    (try simp only [Act.put, List.setIfInBounds_toArray, List.set_cons_zero, List.set_cons_succ])
    refine AnyE.take0 5 (v := ?_) rfl (by decide) (by kernel_rfl) (by kernel_rfl) (by kernel_rfl) (by kernel_rfl) (fun _ _ _ h => h) (by rfl) (fun _ => hH) ?_ ?_
    rotate_left; · (intro w; go_simp; try with_reducible rfl)
    (try simp only [Act.put, List.setIfInBounds_toArray, List.set_cons_zero, List.set_cons_succ])
    refine AnyE.take 6 [6] (v := ?_) rfl (by decide) (by kernel_rfl) (by kernel_rfl) (by kernel_rfl) (by kernel_rfl) (by kernel_rfl) (by kernel_rfl) (fun _ _ _ h => h) (by rfl) hH ?_ ?_
    rotate_left; · (intro w hSw; refine run_exec_load_agg (ty := 64) (x := .tmp 31) ?_ ?_ Try.underlying64 rfl (info64' (accB_length j pre)) hSw.2.2.2; rfl; rfl)
    (try simp only [Act.put, List.setIfInBounds_toArray, List.set_cons_zero, List.set_cons_succ])
    refine AnyE.take 7 [7] (v := ?_) rfl (by decide) (by kernel_rfl) (by kernel_rfl) (by kernel_rfl) (by kernel_rfl) (by kernel_rfl) (by kernel_rfl) (fun _ _ _ h => h) (by rfl) hH ?_ ?_
    rotate_left; · (intro w hSw; (try dsimp only at hSw); go_simp; try with_reducible rfl)
    (try simp only [Act.put, List.setIfInBounds_toArray, List.set_cons_zero, List.set_cons_succ])
    refine AnyE.one 8 rfl (by kernel_rfl) (fun K hK => ?_)
    (go_simp; go_at_call 120; (with_reducible refine (exp_any j (by omega) _).mono ?_); rintro e w2 ⟨rfl, rfl⟩; go_wp2_with fail)
    refine hK.out _ _ (fun _ => hH) ?_
    clear hK K
    (try simp only [Act.put, List.setIfInBounds_toArray, List.set_cons_zero, List.set_cons_succ])
    replace hH := hH
    refine AnyE.one 9 rfl (by kernel_rfl) (fun K hK => ?_)
    (go_simp; go_at_call 140; refine (pfused_any _ x.2.2 (accB_length j pre) _).mono ?_; rintro e w5 ⟨rfl, hb5⟩; go_wp2_with fail; have hm5 : Below W.heap.size W w5 := ⟨hb5.os, hb5.tape, hb5.output, hb5.size, hb5.block⟩)
    refine hK.out _ _ (fun _ => (show (fun w' => w'.cell? ⟨gB, 0, none⟩ = some (.slice (some ⟨gO, 0, none⟩) 3 3) ∧ w'.cell? ⟨W0.heap.size, 0, none⟩ = some (.int .i64 (j : Int)) ∧ (∀ k, k < (agc x.2.1).size → w'.cell? ⟨Bx, 0 + k, none⟩ = (agc x.2.1)[k]?) ∧ ∀ k, k < (agc (accB j pre)).size → w'.cell? ⟨gO, j * 8 + k, none⟩ = (agc (accB j pre))[k]?) w5 from (And.intro ((hm5.cell (p := ⟨gB, 0, none⟩) hIw.box.lt).trans hIw.box.cell) (And.intro ((hm5.cell (p := ⟨W0.heap.size, 0, none⟩) hbw.lt).trans hbw.cell) (And.intro (fun k hk => (hm5.cell (p := ⟨Bx, 0 + k, none⟩) hrx.lt).trans (row_agc hrx x.2.2 hk)) (fun k hk => (hm5.cell (p := ⟨gO, j * 8 + k, none⟩) hIw.row.lt).trans (oF_cell hIw.row hj (accB_length j pre) hk))))))) ?_
    clear hK K
    (try simp only [Act.put, List.setIfInBounds_toArray, List.set_cons_zero, List.set_cons_succ])
    replace hH := (show (fun w' => w'.cell? ⟨gB, 0, none⟩ = some (.slice (some ⟨gO, 0, none⟩) 3 3) ∧ w'.cell? ⟨W0.heap.size, 0, none⟩ = some (.int .i64 (j : Int)) ∧ (∀ k, k < (agc x.2.1).size → w'.cell? ⟨Bx, 0 + k, none⟩ = (agc x.2.1)[k]?) ∧ ∀ k, k < (agc (accB j pre)).size → w'.cell? ⟨gO, j * 8 + k, none⟩ = (agc (accB j pre))[k]?) w5 from (And.intro ((hm5.cell (p := ⟨gB, 0, none⟩) hIw.box.lt).trans hIw.box.cell) (And.intro ((hm5.cell (p := ⟨W0.heap.size, 0, none⟩) hbw.lt).trans hbw.cell) (And.intro (fun k hk => (hm5.cell (p := ⟨Bx, 0 + k, none⟩) hrx.lt).trans (row_agc hrx x.2.2 hk)) (fun k hk => (hm5.cell (p := ⟨gO, j * 8 + k, none⟩) hIw.row.lt).trans (oF_cell hIw.row hj (accB_length j pre) hk))))))
    refine AnyE.take0 10 (v := ?_) rfl (by decide) (by kernel_rfl) (by kernel_rfl) (by kernel_rfl) (by kernel_rfl) (fun _ _ _ h => h) (by rfl) (fun _ => hH) ?_ ?_
    rotate_left; · (intro w; go_simp; try with_reducible rfl)
    (try simp only [Act.put, List.setIfInBounds_toArray, List.set_cons_zero, List.set_cons_succ])
    have hr5 := hIw.row.of_block (hm5.block gO hIw.row.lt)
    have hfl : (fuse x.2.1 (accB j pre) (Gf.pow 2 j)).length = 8 := fuse_length _ x.2.2 (accB_length j pre)
    refine AnyE.one 11 rfl (by kernel_rfl) (fun K hK => ?_)
    refine if_wanted (by kernel_rfl) ?_
    refine wp_store_agg rfl rfl rfl hr5 (info64' hfl) (by rw [agc_size, hfl]; omega) (agc_one _) (fun w6 hr6 hg6 hz6 => ?_)
    refine hK.out _ _ (fun e => Bool.noConfusion (show true = false from e)) ?_
    clear hK K
    (try simp only [Act.put, List.setIfInBounds_toArray, List.set_cons_zero, List.set_cons_succ])
    refine AnyE.done (by kernel_rfl) ?_ _

    obtain ⟨s1, s2, s3⟩ := hIw.step hgB hgO hfl hm5 hr6 hg6
    obtain ⟨cc, hcc, _⟩ := hIw.row
    exact ⟨keepsFrom_of s2 ⟨_, _, hcc⟩ s3, ⟨s2, fun b hb hp => s3 b hb hp.2⟩, ⟨by rw [accB_snoc]; exact s1, (s3 _ hbw.lt (by omega)).trans hbw⟩⟩
  case done =>
    rintro D' xs W hD' rfl ⟨hIw, hbw⟩ hmark
    have ha : accB j (comeB D len) = mrow (parM D) j := by rw [← hD.1, accB_come hrows j _ (Nat.le_refl _), horn_all hrows hj]
    have hr := hIw.row
    rw [ha] at hr
    exact hK _ _ _ _ _ _ _ _ _ _ _ _ _ _ _ _ D' W (by omega) ⟨hIw.box, hr.congr fun i _ => oF_next D i, hIw.below, fun d hm => by
      rcases List.mem_cons.1 hm with rfl | hm
      · exact hmark
      · exact hIw.marks d hm⟩
  case stop =>
    rintro D' c pre W _ _ h _
    exact h.elim
end Go.Proofs.Ytifhjigkljdkmaa
