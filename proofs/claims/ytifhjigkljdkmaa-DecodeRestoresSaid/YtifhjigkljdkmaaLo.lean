/- decode.Locate. -/
import Derived.Test.YtifhjigkljdkmaaSy
import Derived.Test.YtifhjigkljdkmaaTi
import Derived.Test.YtifhjigkljdkmaaBq
namespace Go.Proofs.Ytifhjigkljdkmaa
open Go.RowKit
open Gf (F)
set_option linter.unusedSimpArgs false
set_option linter.unusedVariables false
section
variable {P : Program} {ops : Array Oper} {Q : Exit → Act → World → Prop} {md : Region.Mode} {S : World → Prop} {z : Nat}
theorem AnyE.skip (i : Nat) {oi : Oper} {n : Nat} {l : Array Bool} {a : Act} {w : World} (hi : ops[i]? = some oi) (hiz : i ≠ z) (hsel : Region.noSelect ops = true)
    (hc : closedB md ops l = true) (hf : Region.free md ops l i = true) (hr : (Region.ready md ops l).contains i = true)
    (hQ : ∀ c a w, Q (.panic c) (a.put oi.dst undef) w → Q (.panic c) a w) (hw : Region.wanted oi (yielded ops a.tmps) = false) (hS : l.getD z false = false → S w)
    (h : AnyE P md ops Q S z n (l.setIfInBounds i true) (a.put oi.dst undef) w) : AnyE P md ops Q S z (n + 1) l a w :=
  AnyE.first (T := fun _ => True) hi hiz hsel (fun _ _ _ _ _ => trivial) hQ n l a w (closed_of hc) (Region.free_spec hi hf) (by simpa using hr) (Or.inr ⟨hw, rfl⟩) hS h
theorem exec_bin {o : Oper} {ev : Operand → Value} {w : World} {op : BinOp} {t t2 : TypeId} {x y : Operand} {u v r : Value} (hr : ∀ w : World, (binOp op t u v).run P w = .ok r w) (hg : ∀ w : World, (eqGuard op t x y u v).run P w = .ok () w) (ho : o.op = .binOp op t x y t2) (hx : ev x = u) (hy : ev y = v) : (execOp ev o).run P w = .ok (.value r) w := by
  unfold execOp
  simp only [ho, hx, hy, Sem.run_bind, Sem.run_pure, Result.andThen_ok, hg, hr]
end
/-- Would a change of piece i alone give these syndromes? -/
def locB (M : List (List F)) (i : Nat) : Bool := decide (mrow (synM M) 1 = sclB (Gf.pow 2 i) (mrow (synM M) 0)) && decide (mrow (synM M) 2 = sclB (Gf.pow 2 (2 * i)) (mrow (synM M) 0))
/-- What Locate returns. -/
inductive LocRes (n : Nat) (M : List (List F)) : Int → Int → Prop
  | none (h0 : mrow (synM M) 0 = zeroL 8) (h1 : mrow (synM M) 1 = zeroL 8) (h2 : mrow (synM M) 2 = zeroL 8) : LocRes n M 0 9
  | p0 (h0 : mrow (synM M) 0 ≠ zeroL 8) (h1 : mrow (synM M) 1 = zeroL 8) (h2 : mrow (synM M) 2 = zeroL 8) : LocRes n M n 0
  | p1 (h0 : mrow (synM M) 0 = zeroL 8) (h1 : mrow (synM M) 1 ≠ zeroL 8) (h2 : mrow (synM M) 2 = zeroL 8) : LocRes n M (n + 1) 0
  | p2 (h0 : mrow (synM M) 0 = zeroL 8) (h1 : mrow (synM M) 1 = zeroL 8) (h2 : mrow (synM M) 2 ≠ zeroL 8) : LocRes n M (n + 2) 0
  | two (h0 : mrow (synM M) 0 = zeroL 8) (h1 : mrow (synM M) 1 ≠ zeroL 8) (h2 : mrow (synM M) 2 ≠ zeroL 8) : LocRes n M 0 12
  | found {i : Nat} (h0 : mrow (synM M) 0 ≠ zeroL 8) (h12 : ¬ (mrow (synM M) 1 = zeroL 8 ∧ mrow (synM M) 2 = zeroL 8)) (hi : i < n) (hl : locB M i = true) (ha : ∀ j, j < i → locB M j = false) : LocRes n M i 0
  | many (h0 : mrow (synM M) 0 ≠ zeroL 8) (h12 : ¬ (mrow (synM M) 1 = zeroL 8 ∧ mrow (synM M) 2 = zeroL 8)) (ha : ∀ j, j < n → locB M j = false) : LocRes n M 0 12
/-- The syndromes and the block of zeroes, as they stand in the world. -/
structure SynAt (w : World) (g gz : Nat) (M : List (List F)) : Prop where
  syn : Blks (fun _ => True) w (some ⟨g, 0, none⟩) 3 3 (synM M)
  zero : w.rowIs gz 64 8 (bytes (zeroL 8))
section
variable {w w' : World} {g gz : Nat} {M : List (List F)}
theorem SynAt.below (h : SynAt w g gz M) (k : Below w.heap.size w w') : SynAt w' g gz M := ⟨h.syn.below k, h.zero.of_block (k.block _ h.zero.lt)⟩
theorem SynAt.drewN (h : SynAt w g gz M) (k : Nat) : SynAt (w.drewN k) g gz M := h.below (below_drewN (Below.refl _ _) k)
theorem SynAt.rows (h : SynAt w g gz M) (j k : Nat) (hj : j < 3) (hk : k < 8) : w.cell? ⟨g, j * 8 + k, none⟩ = (agc (mrow (synM M) j))[k]? := by
  obtain ⟨b, o, e, _, _, hc⟩ := h.syn.agg (by decide)
  cases e
  have := hc j hj k hk
  rwa [Nat.zero_add] at this
theorem SynAt.row0 (h : SynAt w g gz M) {k : Nat} (hk : k < 8) : w.cell? ⟨g, 0 + k, none⟩ = (agc (mrow (synM M) 0))[k]? := by have := h.rows 0 k (by decide) hk; rwa [Nat.zero_mul] at this
theorem SynAt.row1 (h : SynAt w g gz M) {k : Nat} (hk : k < 8) : w.cell? ⟨g, 8 + k, none⟩ = (agc (mrow (synM M) 1))[k]? := by have := h.rows 1 k (by decide) hk; rwa [Nat.one_mul] at this
theorem SynAt.row2 (h : SynAt w g gz M) {k : Nat} (hk : k < 8) : w.cell? ⟨g, 16 + k, none⟩ = (agc (mrow (synM M) 2))[k]? := h.rows 2 k (by decide) hk
theorem SynAt.cells (h : SynAt w g gz M) : (∀ k, k < 8 → w.cell? ⟨g, 0 + k, none⟩ = (agc (mrow (synM M) 0))[k]?) ∧ (∀ k, k < 8 → w.cell? ⟨g, 8 + k, none⟩ = (agc (mrow (synM M) 1))[k]?) ∧ (∀ k, k < 8 → w.cell? ⟨g, 16 + k, none⟩ = (agc (mrow (synM M) 2))[k]?) ∧ ∀ k, k < 8 → w.cell? ⟨gz, 0 + k, none⟩ = (agc (zeroL 8))[k]? :=
  ⟨fun k hk => h.row0 hk, fun k hk => h.row1 hk, fun k hk => h.row2 hk, fun k hk => row_agc h.zero z8 (by rw [agc_size]; exact hk)⟩
end
section
variable {p q : Nat → Prop} {w : World} {A : Option Addr} {n c wd : Nat} {M : List (List F)}
set_option maxRecDepth 100000 in
theorem locate_arg (h : Blks p w A n c M) (hw : wideB (n : Int) = false) : Calls Try.prog 80 #[.slice A n c] w fun e w' => e = .returned (.tuple #[.int .i64 0, .int .i64 1]) ∧ w = w' := by
  go_enter Try.func80, Try.ntmps80
  go_wp2_with (go_at_call 76; (with_reducible refine (syn_arg h hw).mono ?_); rintro e w' ⟨rfl, rfl⟩)
  go_ret2
  exact ⟨rfl, rfl⟩
set_option maxRecDepth 100000 in
set_option maxHeartbeats 4000000 in
theorem loc_111 (h4 : 4 ≤ wd) (h16 : wd ≤ 16) (hn : n = wd - 3) (h : Blks p w A wd c M) (h0 : mrow (synM M) 0 = zeroL 8) (h1 : mrow (synM M) 1 = zeroL 8) (h2 : mrow (synM M) 2 = zeroL 8) : Calls Try.prog 80 #[.slice A wd c] w fun e w' => ∃ r er, e = .returned (.tuple #[.int .i64 r, .int .i64 er]) ∧ LocRes n M r er ∧ Below w.heap.size w w' := by
  have e3 : (wd : Int) - 3 = (n : Int) := by omega
  have hn13 : n ≤ 13 := by omega
  have hl0 := synM_row M (j := 0) (by decide)
  have hr0 := fun w => eql64 hl0 z8 w
  rw [decide_eq_true h0] at hr0
  have hl1 := synM_row M (j := 1) (by decide)
  have hr1 := fun w => eql64 hl1 z8 w
  rw [decide_eq_true h1] at hr1
  have hl2 := synM_row M (j := 2) (by decide)
  have hr2 := fun w => eql64 hl2 z8 w
  rw [decide_eq_true h2] at hr2
  have hs0 := Lib.hid h0
  have hs1 := Lib.hid h1
  have hs2 := Lib.hid h2
  clear h0 h1 h2
  replace hn := Lib.hid hn
  go_enter Try.func80, Try.ntmps80
  go_wp2_with (go_at_call 76; (with_reducible refine (syn_any h4 h16 h).mono ?_); rintro e w1 ⟨g, rfl, hg, hsy, hb1⟩)
  have hz1 := zero_row8 w1 64
  have hba : Below w1.heap.size w1 (w1.alloc (.cells #[.int .u8 0, .int .u8 0, .int .u8 0, .int .u8 0, .int .u8 0, .int .u8 0, .int .u8 0, .int .u8 0] 64)) := (Below.refl _ _).alloc (Nat.le_refl _) _
  have hS : SynAt (w1.alloc (.cells #[.int .u8 0, .int .u8 0, .int .u8 0, .int .u8 0, .int .u8 0, .int .u8 0, .int .u8 0, .int .u8 0] 64)) g w1.heap.size M := ⟨hsy.below hba, hz1⟩
  have hB := below_then2 hb1 hba
  obtain ⟨gz, hgz⟩ : ∃ gz, gz = w1.heap.size := ⟨_, rfl⟩
  obtain ⟨wa, hwa⟩ : ∃ wa, wa = w1.alloc (.cells #[.int .u8 0, .int .u8 0, .int .u8 0, .int .u8 0, .int .u8 0, .int .u8 0, .int .u8 0, .int .u8 0] 64) := ⟨_, rfl⟩
  rw [← hwa, ← hgz] at hS ⊢
  rw [← hwa] at hB
  clear hwa hgz hba hz1 hsy
  obtain ⟨e0, e1, e2, ez⟩ := hS.cells
  refine wp_region_quiet_lit (by kernel_rfl) (by kernel_rfl) ?_
  quiet_step (fail)
  quiet_step (fail)
  refine BigFrame.wpQuiet_want rfl (fun K hK => ?_)
  refine quiet_load_agg rfl rfl Try.underlying64 rfl (info64' hl0) (fun k hk => e0 k (by rwa [agc_size, hl0] at hk)) ?_
  refine hK _ ?_
  clear hK K
  simp only [Act.put, List.setIfInBounds_toArray, List.set_cons_zero, List.set_cons_succ]
  refine BigFrame.wpQuiet_want rfl (fun K hK => ?_)
  refine quiet_load_agg rfl rfl Try.underlying64 rfl (info64' z8) (fun k hk => ez k (by rwa [agc_size, z8] at hk)) ?_
  refine hK _ ?_
  clear hK K
  simp only [Act.put, List.setIfInBounds_toArray, List.set_cons_zero, List.set_cons_succ]
  refine BigFrame.wpQuiet_want rfl (fun K hK => ?_)
  refine quiet_bin rfl rfl rfl (guard64 _ _ _ _ _) hr0 ?_
  refine hK _ ?_
  clear hK K
  simp only [Act.put, List.setIfInBounds_toArray, List.set_cons_zero, List.set_cons_succ]
  quiet_step (fail)
  quiet_step (fail)
  quiet_step (fail)
  refine BigFrame.wpQuiet_want rfl (fun K hK => ?_)
  refine quiet_load_agg rfl rfl Try.underlying64 rfl (info64' hl1) (fun k hk => e1 k (by rwa [agc_size, hl1] at hk)) ?_
  refine hK _ ?_
  clear hK K
  simp only [Act.put, List.setIfInBounds_toArray, List.set_cons_zero, List.set_cons_succ]
  refine BigFrame.wpQuiet_want rfl (fun K hK => ?_)
  refine quiet_load_agg rfl rfl Try.underlying64 rfl (info64' z8) (fun k hk => ez k (by rwa [agc_size, z8] at hk)) ?_
  refine hK _ ?_
  clear hK K
  simp only [Act.put, List.setIfInBounds_toArray, List.set_cons_zero, List.set_cons_succ]
  refine BigFrame.wpQuiet_want rfl (fun K hK => ?_)
  refine quiet_bin rfl rfl rfl (guard64 _ _ _ _ _) hr1 ?_
  refine hK _ ?_
  clear hK K
  simp only [Act.put, List.setIfInBounds_toArray, List.set_cons_zero, List.set_cons_succ]
  quiet_step (fail)
  quiet_step (fail)
  quiet_step (fail)
  quiet_step (fail)
  refine BigFrame.wpQuiet_want rfl (fun K hK => ?_)
  refine quiet_load_agg rfl rfl Try.underlying64 rfl (info64' hl2) (fun k hk => e2 k (by rwa [agc_size, hl2] at hk)) ?_
  refine hK _ ?_
  clear hK K
  simp only [Act.put, List.setIfInBounds_toArray, List.set_cons_zero, List.set_cons_succ]
  refine BigFrame.wpQuiet_want rfl (fun K hK => ?_)
  refine quiet_load_agg rfl rfl Try.underlying64 rfl (info64' z8) (fun k hk => ez k (by rwa [agc_size, z8] at hk)) ?_
  refine hK _ ?_
  clear hK K
  simp only [Act.put, List.setIfInBounds_toArray, List.set_cons_zero, List.set_cons_succ]
  refine BigFrame.wpQuiet_want rfl (fun K hK => ?_)
  refine quiet_bin rfl rfl rfl (guard64 _ _ _ _ _) hr2 ?_
  refine hK _ ?_
  clear hK K
  simp only [Act.put, List.setIfInBounds_toArray, List.set_cons_zero, List.set_cons_succ]
  quiet_step (fail)
  quiet_step (fail)
  refine wpQuiet_nil ?_
  intro _ hw'
  obtain ⟨nq, hw''⟩ := hw'
  subst hw''
  skip
  obtain ⟨wq, hq⟩ : ∃ wq, wq = wa.drewN nq := ⟨_, rfl⟩
  replace hS := (show SynAt wq g gz M from hq ▸ hS.drewN nq)
  replace hB := (show Below w.heap.size w wq from hq ▸ below_drewN hB nq)
  rw [← hq]
  clear hq e0 e1 e2 ez
  obtain ⟨e0, e1, e2, ez⟩ := hS.cells
  obtain ⟨wq0, rfl⟩ : ∃ x : World, x = wq := ⟨_, rfl⟩
  go_wp2
  go_ret2
  exact ⟨_, _, rfl, LocRes.none hs0.out hs1.out hs2.out, hB⟩
set_option maxRecDepth 100000 in
set_option maxHeartbeats 4000000 in
theorem loc_110 (h4 : 4 ≤ wd) (h16 : wd ≤ 16) (hn : n = wd - 3) (h : Blks p w A wd c M) (h0 : mrow (synM M) 0 = zeroL 8) (h1 : mrow (synM M) 1 = zeroL 8) (h2 : mrow (synM M) 2 ≠ zeroL 8) : Calls Try.prog 80 #[.slice A wd c] w fun e w' => ∃ r er, e = .returned (.tuple #[.int .i64 r, .int .i64 er]) ∧ LocRes n M r er ∧ Below w.heap.size w w' := by
  have e3 : (wd : Int) - 3 = (n : Int) := by omega
  have hn13 : n ≤ 13 := by omega
  have hl0 := synM_row M (j := 0) (by decide)
  have hr0 := fun w => eql64 hl0 z8 w
  rw [decide_eq_true h0] at hr0
  have hl1 := synM_row M (j := 1) (by decide)
  have hr1 := fun w => eql64 hl1 z8 w
  rw [decide_eq_true h1] at hr1
  have hl2 := synM_row M (j := 2) (by decide)
  have hr2 := fun w => eql64 hl2 z8 w
  rw [decide_eq_false h2] at hr2
  have hs0 := Lib.hid h0
  have hs1 := Lib.hid h1
  have hs2 := Lib.hid h2
  clear h0 h1 h2
  replace hn := Lib.hid hn
  go_enter Try.func80, Try.ntmps80
  go_wp2_with (go_at_call 76; (with_reducible refine (syn_any h4 h16 h).mono ?_); rintro e w1 ⟨g, rfl, hg, hsy, hb1⟩)
  have hz1 := zero_row8 w1 64
  have hba : Below w1.heap.size w1 (w1.alloc (.cells #[.int .u8 0, .int .u8 0, .int .u8 0, .int .u8 0, .int .u8 0, .int .u8 0, .int .u8 0, .int .u8 0] 64)) := (Below.refl _ _).alloc (Nat.le_refl _) _
  have hS : SynAt (w1.alloc (.cells #[.int .u8 0, .int .u8 0, .int .u8 0, .int .u8 0, .int .u8 0, .int .u8 0, .int .u8 0, .int .u8 0] 64)) g w1.heap.size M := ⟨hsy.below hba, hz1⟩
  have hB := below_then2 hb1 hba
  obtain ⟨gz, hgz⟩ : ∃ gz, gz = w1.heap.size := ⟨_, rfl⟩
  obtain ⟨wa, hwa⟩ : ∃ wa, wa = w1.alloc (.cells #[.int .u8 0, .int .u8 0, .int .u8 0, .int .u8 0, .int .u8 0, .int .u8 0, .int .u8 0, .int .u8 0] 64) := ⟨_, rfl⟩
  rw [← hwa, ← hgz] at hS ⊢
  rw [← hwa] at hB
  clear hwa hgz hba hz1 hsy
  obtain ⟨e0, e1, e2, ez⟩ := hS.cells
  refine wp_region_quiet_lit (by kernel_rfl) (by kernel_rfl) ?_
  quiet_step (fail)
  quiet_step (fail)
  refine BigFrame.wpQuiet_want rfl (fun K hK => ?_)
  refine quiet_load_agg rfl rfl Try.underlying64 rfl (info64' hl0) (fun k hk => e0 k (by rwa [agc_size, hl0] at hk)) ?_
  refine hK _ ?_
  clear hK K
  simp only [Act.put, List.setIfInBounds_toArray, List.set_cons_zero, List.set_cons_succ]
  refine BigFrame.wpQuiet_want rfl (fun K hK => ?_)
  refine quiet_load_agg rfl rfl Try.underlying64 rfl (info64' z8) (fun k hk => ez k (by rwa [agc_size, z8] at hk)) ?_
  refine hK _ ?_
  clear hK K
  simp only [Act.put, List.setIfInBounds_toArray, List.set_cons_zero, List.set_cons_succ]
  refine BigFrame.wpQuiet_want rfl (fun K hK => ?_)
  refine quiet_bin rfl rfl rfl (guard64 _ _ _ _ _) hr0 ?_
  refine hK _ ?_
  clear hK K
  simp only [Act.put, List.setIfInBounds_toArray, List.set_cons_zero, List.set_cons_succ]
  quiet_step (fail)
  quiet_step (fail)
  quiet_step (fail)
  refine BigFrame.wpQuiet_want rfl (fun K hK => ?_)
  refine quiet_load_agg rfl rfl Try.underlying64 rfl (info64' hl1) (fun k hk => e1 k (by rwa [agc_size, hl1] at hk)) ?_
  refine hK _ ?_
  clear hK K
  simp only [Act.put, List.setIfInBounds_toArray, List.set_cons_zero, List.set_cons_succ]
  refine BigFrame.wpQuiet_want rfl (fun K hK => ?_)
  refine quiet_load_agg rfl rfl Try.underlying64 rfl (info64' z8) (fun k hk => ez k (by rwa [agc_size, z8] at hk)) ?_
  refine hK _ ?_
  clear hK K
  simp only [Act.put, List.setIfInBounds_toArray, List.set_cons_zero, List.set_cons_succ]
  refine BigFrame.wpQuiet_want rfl (fun K hK => ?_)
  refine quiet_bin rfl rfl rfl (guard64 _ _ _ _ _) hr1 ?_
  refine hK _ ?_
  clear hK K
  simp only [Act.put, List.setIfInBounds_toArray, List.set_cons_zero, List.set_cons_succ]
  quiet_step (fail)
  quiet_step (fail)
  quiet_step (fail)
  quiet_step (fail)
  refine BigFrame.wpQuiet_want rfl (fun K hK => ?_)
  refine quiet_load_agg rfl rfl Try.underlying64 rfl (info64' hl2) (fun k hk => e2 k (by rwa [agc_size, hl2] at hk)) ?_
  refine hK _ ?_
  clear hK K
  simp only [Act.put, List.setIfInBounds_toArray, List.set_cons_zero, List.set_cons_succ]
  refine BigFrame.wpQuiet_want rfl (fun K hK => ?_)
  refine quiet_load_agg rfl rfl Try.underlying64 rfl (info64' z8) (fun k hk => ez k (by rwa [agc_size, z8] at hk)) ?_
  refine hK _ ?_
  clear hK K
  simp only [Act.put, List.setIfInBounds_toArray, List.set_cons_zero, List.set_cons_succ]
  refine BigFrame.wpQuiet_want rfl (fun K hK => ?_)
  refine quiet_bin rfl rfl rfl (guard64 _ _ _ _ _) hr2 ?_
  refine hK _ ?_
  clear hK K
  simp only [Act.put, List.setIfInBounds_toArray, List.set_cons_zero, List.set_cons_succ]
  quiet_step (fail)
  quiet_step (fail)
  refine wpQuiet_nil ?_
  intro _ hw'
  obtain ⟨nq, hw''⟩ := hw'
  subst hw''
  skip
  obtain ⟨wq, hq⟩ : ∃ wq, wq = wa.drewN nq := ⟨_, rfl⟩
  replace hS := (show SynAt wq g gz M from hq ▸ hS.drewN nq)
  replace hB := (show Below w.heap.size w wq from hq ▸ below_drewN hB nq)
  rw [← hq]
  clear hq e0 e1 e2 ez
  obtain ⟨e0, e1, e2, ez⟩ := hS.cells
  obtain ⟨wq0, rfl⟩ : ∃ x : World, x = wq := ⟨_, rfl⟩
  go_wp2
  refine wp_region_quiet_lit (by kernel_rfl) (by kernel_rfl) ?_
  quiet_step (fail)
  quiet_step (fail)
  refine BigFrame.wpQuiet_want rfl (fun K hK => ?_)
  refine quiet_load_agg rfl rfl Try.underlying64 rfl (info64' hl1) (fun k hk => e1 k (by rwa [agc_size, hl1] at hk)) ?_
  refine hK _ ?_
  clear hK K
  simp only [Act.put, List.setIfInBounds_toArray, List.set_cons_zero, List.set_cons_succ]
  refine BigFrame.wpQuiet_want rfl (fun K hK => ?_)
  refine quiet_load_agg rfl rfl Try.underlying64 rfl (info64' z8) (fun k hk => ez k (by rwa [agc_size, z8] at hk)) ?_
  refine hK _ ?_
  clear hK K
  simp only [Act.put, List.setIfInBounds_toArray, List.set_cons_zero, List.set_cons_succ]
  refine BigFrame.wpQuiet_want rfl (fun K hK => ?_)
  refine quiet_bin rfl rfl rfl (guard64 _ _ _ _ _) hr1 ?_
  refine hK _ ?_
  clear hK K
  simp only [Act.put, List.setIfInBounds_toArray, List.set_cons_zero, List.set_cons_succ]
  quiet_step (fail)
  quiet_step (fail)
  quiet_step (fail)
  refine BigFrame.wpQuiet_want rfl (fun K hK => ?_)
  refine quiet_load_agg rfl rfl Try.underlying64 rfl (info64' hl2) (fun k hk => e2 k (by rwa [agc_size, hl2] at hk)) ?_
  refine hK _ ?_
  clear hK K
  simp only [Act.put, List.setIfInBounds_toArray, List.set_cons_zero, List.set_cons_succ]
  refine BigFrame.wpQuiet_want rfl (fun K hK => ?_)
  refine quiet_load_agg rfl rfl Try.underlying64 rfl (info64' z8) (fun k hk => ez k (by rwa [agc_size, z8] at hk)) ?_
  refine hK _ ?_
  clear hK K
  simp only [Act.put, List.setIfInBounds_toArray, List.set_cons_zero, List.set_cons_succ]
  refine BigFrame.wpQuiet_want rfl (fun K hK => ?_)
  refine quiet_bin rfl rfl rfl (guard64 _ _ _ _ _) hr2 ?_
  refine hK _ ?_
  clear hK K
  simp only [Act.put, List.setIfInBounds_toArray, List.set_cons_zero, List.set_cons_succ]
  quiet_step (fail)
  quiet_step (fail)
  refine wpQuiet_nil ?_
  intro _ hw'
  obtain ⟨nq, hw''⟩ := hw'
  subst hw''
  skip
  obtain ⟨wq, hq⟩ : ∃ wq, wq = wq0.drewN nq := ⟨_, rfl⟩
  replace hS := (show SynAt wq g gz M from hq ▸ hS.drewN nq)
  replace hB := (show Below w.heap.size w wq from hq ▸ below_drewN hB nq)
  rw [← hq]
  clear hq e0 e1 e2 ez
  obtain ⟨e0, e1, e2, ez⟩ := hS.cells
  obtain ⟨wq1, rfl⟩ : ∃ x : World, x = wq := ⟨_, rfl⟩
  go_wp2
  refine wp_region_quiet_lit (by kernel_rfl) (by kernel_rfl) ?_
  quiet_step (fail)
  quiet_step (fail)
  refine BigFrame.wpQuiet_want rfl (fun K hK => ?_)
  refine quiet_load_agg rfl rfl Try.underlying64 rfl (info64' hl0) (fun k hk => e0 k (by rwa [agc_size, hl0] at hk)) ?_
  refine hK _ ?_
  clear hK K
  simp only [Act.put, List.setIfInBounds_toArray, List.set_cons_zero, List.set_cons_succ]
  refine BigFrame.wpQuiet_want rfl (fun K hK => ?_)
  refine quiet_load_agg rfl rfl Try.underlying64 rfl (info64' z8) (fun k hk => ez k (by rwa [agc_size, z8] at hk)) ?_
  refine hK _ ?_
  clear hK K
  simp only [Act.put, List.setIfInBounds_toArray, List.set_cons_zero, List.set_cons_succ]
  refine BigFrame.wpQuiet_want rfl (fun K hK => ?_)
  refine quiet_bin rfl rfl rfl (guard64 _ _ _ _ _) hr0 ?_
  refine hK _ ?_
  clear hK K
  simp only [Act.put, List.setIfInBounds_toArray, List.set_cons_zero, List.set_cons_succ]
  quiet_step (fail)
  quiet_step (fail)
  quiet_step (fail)
  refine BigFrame.wpQuiet_want rfl (fun K hK => ?_)
  refine quiet_load_agg rfl rfl Try.underlying64 rfl (info64' hl2) (fun k hk => e2 k (by rwa [agc_size, hl2] at hk)) ?_
  refine hK _ ?_
  clear hK K
  simp only [Act.put, List.setIfInBounds_toArray, List.set_cons_zero, List.set_cons_succ]
  refine BigFrame.wpQuiet_want rfl (fun K hK => ?_)
  refine quiet_load_agg rfl rfl Try.underlying64 rfl (info64' z8) (fun k hk => ez k (by rwa [agc_size, z8] at hk)) ?_
  refine hK _ ?_
  clear hK K
  simp only [Act.put, List.setIfInBounds_toArray, List.set_cons_zero, List.set_cons_succ]
  refine BigFrame.wpQuiet_want rfl (fun K hK => ?_)
  refine quiet_bin rfl rfl rfl (guard64 _ _ _ _ _) hr2 ?_
  refine hK _ ?_
  clear hK K
  simp only [Act.put, List.setIfInBounds_toArray, List.set_cons_zero, List.set_cons_succ]
  quiet_step (fail)
  quiet_step (fail)
  refine wpQuiet_nil ?_
  intro _ hw'
  obtain ⟨nq, hw''⟩ := hw'
  subst hw''
  skip
  obtain ⟨wq, hq⟩ : ∃ wq, wq = wq1.drewN nq := ⟨_, rfl⟩
  replace hS := (show SynAt wq g gz M from hq ▸ hS.drewN nq)
  replace hB := (show Below w.heap.size w wq from hq ▸ below_drewN hB nq)
  rw [← hq]
  clear hq e0 e1 e2 ez
  obtain ⟨e0, e1, e2, ez⟩ := hS.cells
  obtain ⟨wq2, rfl⟩ : ∃ x : World, x = wq := ⟨_, rfl⟩
  go_wp2
  refine wp_region_quiet_lit (by kernel_rfl) (by kernel_rfl) ?_
  quiet_step (fail)
  quiet_step (fail)
  refine BigFrame.wpQuiet_want rfl (fun K hK => ?_)
  refine quiet_load_agg rfl rfl Try.underlying64 rfl (info64' hl0) (fun k hk => e0 k (by rwa [agc_size, hl0] at hk)) ?_
  refine hK _ ?_
  clear hK K
  simp only [Act.put, List.setIfInBounds_toArray, List.set_cons_zero, List.set_cons_succ]
  refine BigFrame.wpQuiet_want rfl (fun K hK => ?_)
  refine quiet_load_agg rfl rfl Try.underlying64 rfl (info64' z8) (fun k hk => ez k (by rwa [agc_size, z8] at hk)) ?_
  refine hK _ ?_
  clear hK K
  simp only [Act.put, List.setIfInBounds_toArray, List.set_cons_zero, List.set_cons_succ]
  refine BigFrame.wpQuiet_want rfl (fun K hK => ?_)
  refine quiet_bin rfl rfl rfl (guard64 _ _ _ _ _) hr0 ?_
  refine hK _ ?_
  clear hK K
  simp only [Act.put, List.setIfInBounds_toArray, List.set_cons_zero, List.set_cons_succ]
  quiet_step (fail)
  quiet_step (fail)
  quiet_step (fail)
  refine BigFrame.wpQuiet_want rfl (fun K hK => ?_)
  refine quiet_load_agg rfl rfl Try.underlying64 rfl (info64' hl1) (fun k hk => e1 k (by rwa [agc_size, hl1] at hk)) ?_
  refine hK _ ?_
  clear hK K
  simp only [Act.put, List.setIfInBounds_toArray, List.set_cons_zero, List.set_cons_succ]
  refine BigFrame.wpQuiet_want rfl (fun K hK => ?_)
  refine quiet_load_agg rfl rfl Try.underlying64 rfl (info64' z8) (fun k hk => ez k (by rwa [agc_size, z8] at hk)) ?_
  refine hK _ ?_
  clear hK K
  simp only [Act.put, List.setIfInBounds_toArray, List.set_cons_zero, List.set_cons_succ]
  refine BigFrame.wpQuiet_want rfl (fun K hK => ?_)
  refine quiet_bin rfl rfl rfl (guard64 _ _ _ _ _) hr1 ?_
  refine hK _ ?_
  clear hK K
  simp only [Act.put, List.setIfInBounds_toArray, List.set_cons_zero, List.set_cons_succ]
  quiet_step (fail)
  quiet_step (fail)
  refine wpQuiet_nil ?_
  intro _ hw'
  obtain ⟨nq, hw''⟩ := hw'
  subst hw''
  skip
  obtain ⟨wq, hq⟩ : ∃ wq, wq = wq2.drewN nq := ⟨_, rfl⟩
  replace hS := (show SynAt wq g gz M from hq ▸ hS.drewN nq)
  replace hB := (show Below w.heap.size w wq from hq ▸ below_drewN hB nq)
  rw [← hq]
  clear hq e0 e1 e2 ez
  obtain ⟨e0, e1, e2, ez⟩ := hS.cells
  obtain ⟨wq3, rfl⟩ : ∃ x : World, x = wq := ⟨_, rfl⟩
  go_wp2
  go_ret2
  exact ⟨_, _, rfl, LocRes.p2 hs0.out hs1.out hs2.out, hB⟩
set_option maxRecDepth 100000 in
set_option maxHeartbeats 4000000 in
theorem loc_101 (h4 : 4 ≤ wd) (h16 : wd ≤ 16) (hn : n = wd - 3) (h : Blks p w A wd c M) (h0 : mrow (synM M) 0 = zeroL 8) (h1 : mrow (synM M) 1 ≠ zeroL 8) (h2 : mrow (synM M) 2 = zeroL 8) : Calls Try.prog 80 #[.slice A wd c] w fun e w' => ∃ r er, e = .returned (.tuple #[.int .i64 r, .int .i64 er]) ∧ LocRes n M r er ∧ Below w.heap.size w w' := by
  have e3 : (wd : Int) - 3 = (n : Int) := by omega
  have hn13 : n ≤ 13 := by omega
  have hl0 := synM_row M (j := 0) (by decide)
  have hr0 := fun w => eql64 hl0 z8 w
  rw [decide_eq_true h0] at hr0
  have hl1 := synM_row M (j := 1) (by decide)
  have hr1 := fun w => eql64 hl1 z8 w
  rw [decide_eq_false h1] at hr1
  have hl2 := synM_row M (j := 2) (by decide)
  have hr2 := fun w => eql64 hl2 z8 w
  rw [decide_eq_true h2] at hr2
  have hs0 := Lib.hid h0
  have hs1 := Lib.hid h1
  have hs2 := Lib.hid h2
  clear h0 h1 h2
  replace hn := Lib.hid hn
  go_enter Try.func80, Try.ntmps80
  go_wp2_with (go_at_call 76; (with_reducible refine (syn_any h4 h16 h).mono ?_); rintro e w1 ⟨g, rfl, hg, hsy, hb1⟩)
  have hz1 := zero_row8 w1 64
  have hba : Below w1.heap.size w1 (w1.alloc (.cells #[.int .u8 0, .int .u8 0, .int .u8 0, .int .u8 0, .int .u8 0, .int .u8 0, .int .u8 0, .int .u8 0] 64)) := (Below.refl _ _).alloc (Nat.le_refl _) _
  have hS : SynAt (w1.alloc (.cells #[.int .u8 0, .int .u8 0, .int .u8 0, .int .u8 0, .int .u8 0, .int .u8 0, .int .u8 0, .int .u8 0] 64)) g w1.heap.size M := ⟨hsy.below hba, hz1⟩
  have hB := below_then2 hb1 hba
  obtain ⟨gz, hgz⟩ : ∃ gz, gz = w1.heap.size := ⟨_, rfl⟩
  obtain ⟨wa, hwa⟩ : ∃ wa, wa = w1.alloc (.cells #[.int .u8 0, .int .u8 0, .int .u8 0, .int .u8 0, .int .u8 0, .int .u8 0, .int .u8 0, .int .u8 0] 64) := ⟨_, rfl⟩
  rw [← hwa, ← hgz] at hS ⊢
  rw [← hwa] at hB
  clear hwa hgz hba hz1 hsy
  obtain ⟨e0, e1, e2, ez⟩ := hS.cells
  refine wp_region_quiet_lit (by kernel_rfl) (by kernel_rfl) ?_
  quiet_step (fail)
  quiet_step (fail)
  refine BigFrame.wpQuiet_want rfl (fun K hK => ?_)
  refine quiet_load_agg rfl rfl Try.underlying64 rfl (info64' hl0) (fun k hk => e0 k (by rwa [agc_size, hl0] at hk)) ?_
  refine hK _ ?_
  clear hK K
  simp only [Act.put, List.setIfInBounds_toArray, List.set_cons_zero, List.set_cons_succ]
  refine BigFrame.wpQuiet_want rfl (fun K hK => ?_)
  refine quiet_load_agg rfl rfl Try.underlying64 rfl (info64' z8) (fun k hk => ez k (by rwa [agc_size, z8] at hk)) ?_
  refine hK _ ?_
  clear hK K
  simp only [Act.put, List.setIfInBounds_toArray, List.set_cons_zero, List.set_cons_succ]
  refine BigFrame.wpQuiet_want rfl (fun K hK => ?_)
  refine quiet_bin rfl rfl rfl (guard64 _ _ _ _ _) hr0 ?_
  refine hK _ ?_
  clear hK K
  simp only [Act.put, List.setIfInBounds_toArray, List.set_cons_zero, List.set_cons_succ]
  quiet_step (fail)
  quiet_step (fail)
  quiet_step (fail)
  refine BigFrame.wpQuiet_want rfl (fun K hK => ?_)
  refine quiet_load_agg rfl rfl Try.underlying64 rfl (info64' hl1) (fun k hk => e1 k (by rwa [agc_size, hl1] at hk)) ?_
  refine hK _ ?_
  clear hK K
  simp only [Act.put, List.setIfInBounds_toArray, List.set_cons_zero, List.set_cons_succ]
  refine BigFrame.wpQuiet_want rfl (fun K hK => ?_)
  refine quiet_load_agg rfl rfl Try.underlying64 rfl (info64' z8) (fun k hk => ez k (by rwa [agc_size, z8] at hk)) ?_
  refine hK _ ?_
  clear hK K
  simp only [Act.put, List.setIfInBounds_toArray, List.set_cons_zero, List.set_cons_succ]
  refine BigFrame.wpQuiet_want rfl (fun K hK => ?_)
  refine quiet_bin rfl rfl rfl (guard64 _ _ _ _ _) hr1 ?_
  refine hK _ ?_
  clear hK K
  simp only [Act.put, List.setIfInBounds_toArray, List.set_cons_zero, List.set_cons_succ]
  quiet_step (fail)
  quiet_step (fail)
  quiet_step (fail)
  quiet_step (fail)
  quiet_step (fail)
  quiet_step (fail)
  quiet_step (fail)
  quiet_step (fail)
  quiet_step (fail)
  refine wpQuiet_nil ?_
  intro _ hw'
  obtain ⟨nq, hw''⟩ := hw'
  subst hw''
  skip
  obtain ⟨wq, hq⟩ : ∃ wq, wq = wa.drewN nq := ⟨_, rfl⟩
  replace hS := (show SynAt wq g gz M from hq ▸ hS.drewN nq)
  replace hB := (show Below w.heap.size w wq from hq ▸ below_drewN hB nq)
  rw [← hq]
  clear hq e0 e1 e2 ez
  obtain ⟨e0, e1, e2, ez⟩ := hS.cells
  obtain ⟨wq0, rfl⟩ : ∃ x : World, x = wq := ⟨_, rfl⟩
  go_wp2
  refine wp_region_quiet_lit (by kernel_rfl) (by kernel_rfl) ?_
  quiet_step (fail)
  quiet_step (fail)
  refine BigFrame.wpQuiet_want rfl (fun K hK => ?_)
  refine quiet_load_agg rfl rfl Try.underlying64 rfl (info64' hl1) (fun k hk => e1 k (by rwa [agc_size, hl1] at hk)) ?_
  refine hK _ ?_
  clear hK K
  simp only [Act.put, List.setIfInBounds_toArray, List.set_cons_zero, List.set_cons_succ]
  refine BigFrame.wpQuiet_want rfl (fun K hK => ?_)
  refine quiet_load_agg rfl rfl Try.underlying64 rfl (info64' z8) (fun k hk => ez k (by rwa [agc_size, z8] at hk)) ?_
  refine hK _ ?_
  clear hK K
  simp only [Act.put, List.setIfInBounds_toArray, List.set_cons_zero, List.set_cons_succ]
  refine BigFrame.wpQuiet_want rfl (fun K hK => ?_)
  refine quiet_bin rfl rfl rfl (guard64 _ _ _ _ _) hr1 ?_
  refine hK _ ?_
  clear hK K
  simp only [Act.put, List.setIfInBounds_toArray, List.set_cons_zero, List.set_cons_succ]
  quiet_step (fail)
  quiet_step (fail)
  quiet_step (fail)
  quiet_step (fail)
  quiet_step (fail)
  quiet_step (fail)
  quiet_step (fail)
  quiet_step (fail)
  refine wpQuiet_nil ?_
  intro _ hw'
  obtain ⟨nq, hw''⟩ := hw'
  subst hw''
  skip
  obtain ⟨wq, hq⟩ : ∃ wq, wq = wq0.drewN nq := ⟨_, rfl⟩
  replace hS := (show SynAt wq g gz M from hq ▸ hS.drewN nq)
  replace hB := (show Below w.heap.size w wq from hq ▸ below_drewN hB nq)
  rw [← hq]
  clear hq e0 e1 e2 ez
  obtain ⟨e0, e1, e2, ez⟩ := hS.cells
  obtain ⟨wq1, rfl⟩ : ∃ x : World, x = wq := ⟨_, rfl⟩
  go_wp2
  refine wp_region_quiet_lit (by kernel_rfl) (by kernel_rfl) ?_
  quiet_step (fail)
  quiet_step (fail)
  refine BigFrame.wpQuiet_want rfl (fun K hK => ?_)
  refine quiet_load_agg rfl rfl Try.underlying64 rfl (info64' hl0) (fun k hk => e0 k (by rwa [agc_size, hl0] at hk)) ?_
  refine hK _ ?_
  clear hK K
  simp only [Act.put, List.setIfInBounds_toArray, List.set_cons_zero, List.set_cons_succ]
  refine BigFrame.wpQuiet_want rfl (fun K hK => ?_)
  refine quiet_load_agg rfl rfl Try.underlying64 rfl (info64' z8) (fun k hk => ez k (by rwa [agc_size, z8] at hk)) ?_
  refine hK _ ?_
  clear hK K
  simp only [Act.put, List.setIfInBounds_toArray, List.set_cons_zero, List.set_cons_succ]
  refine BigFrame.wpQuiet_want rfl (fun K hK => ?_)
  refine quiet_bin rfl rfl rfl (guard64 _ _ _ _ _) hr0 ?_
  refine hK _ ?_
  clear hK K
  simp only [Act.put, List.setIfInBounds_toArray, List.set_cons_zero, List.set_cons_succ]
  quiet_step (fail)
  quiet_step (fail)
  quiet_step (fail)
  refine BigFrame.wpQuiet_want rfl (fun K hK => ?_)
  refine quiet_load_agg rfl rfl Try.underlying64 rfl (info64' hl2) (fun k hk => e2 k (by rwa [agc_size, hl2] at hk)) ?_
  refine hK _ ?_
  clear hK K
  simp only [Act.put, List.setIfInBounds_toArray, List.set_cons_zero, List.set_cons_succ]
  refine BigFrame.wpQuiet_want rfl (fun K hK => ?_)
  refine quiet_load_agg rfl rfl Try.underlying64 rfl (info64' z8) (fun k hk => ez k (by rwa [agc_size, z8] at hk)) ?_
  refine hK _ ?_
  clear hK K
  simp only [Act.put, List.setIfInBounds_toArray, List.set_cons_zero, List.set_cons_succ]
  refine BigFrame.wpQuiet_want rfl (fun K hK => ?_)
  refine quiet_bin rfl rfl rfl (guard64 _ _ _ _ _) hr2 ?_
  refine hK _ ?_
  clear hK K
  simp only [Act.put, List.setIfInBounds_toArray, List.set_cons_zero, List.set_cons_succ]
  quiet_step (fail)
  quiet_step (fail)
  refine wpQuiet_nil ?_
  intro _ hw'
  obtain ⟨nq, hw''⟩ := hw'
  subst hw''
  skip
  obtain ⟨wq, hq⟩ : ∃ wq, wq = wq1.drewN nq := ⟨_, rfl⟩
  replace hS := (show SynAt wq g gz M from hq ▸ hS.drewN nq)
  replace hB := (show Below w.heap.size w wq from hq ▸ below_drewN hB nq)
  rw [← hq]
  clear hq e0 e1 e2 ez
  obtain ⟨e0, e1, e2, ez⟩ := hS.cells
  obtain ⟨wq2, rfl⟩ : ∃ x : World, x = wq := ⟨_, rfl⟩
  go_wp2
  go_ret2
  exact ⟨_, _, rfl, LocRes.p1 hs0.out hs1.out hs2.out, hB⟩
set_option maxRecDepth 100000 in
set_option maxHeartbeats 4000000 in
theorem loc_100 (h4 : 4 ≤ wd) (h16 : wd ≤ 16) (hn : n = wd - 3) (h : Blks p w A wd c M) (h0 : mrow (synM M) 0 = zeroL 8) (h1 : mrow (synM M) 1 ≠ zeroL 8) (h2 : mrow (synM M) 2 ≠ zeroL 8) : Calls Try.prog 80 #[.slice A wd c] w fun e w' => ∃ r er, e = .returned (.tuple #[.int .i64 r, .int .i64 er]) ∧ LocRes n M r er ∧ Below w.heap.size w w' := by
  have e3 : (wd : Int) - 3 = (n : Int) := by omega
  have hn13 : n ≤ 13 := by omega
  have hl0 := synM_row M (j := 0) (by decide)
  have hr0 := fun w => eql64 hl0 z8 w
  rw [decide_eq_true h0] at hr0
  have hl1 := synM_row M (j := 1) (by decide)
  have hr1 := fun w => eql64 hl1 z8 w
  rw [decide_eq_false h1] at hr1
  have hl2 := synM_row M (j := 2) (by decide)
  have hr2 := fun w => eql64 hl2 z8 w
  rw [decide_eq_false h2] at hr2
  have hs0 := Lib.hid h0
  have hs1 := Lib.hid h1
  have hs2 := Lib.hid h2
  clear h0 h1 h2
  replace hn := Lib.hid hn
  go_enter Try.func80, Try.ntmps80
  go_wp2_with (go_at_call 76; (with_reducible refine (syn_any h4 h16 h).mono ?_); rintro e w1 ⟨g, rfl, hg, hsy, hb1⟩)
  have hz1 := zero_row8 w1 64
  have hba : Below w1.heap.size w1 (w1.alloc (.cells #[.int .u8 0, .int .u8 0, .int .u8 0, .int .u8 0, .int .u8 0, .int .u8 0, .int .u8 0, .int .u8 0] 64)) := (Below.refl _ _).alloc (Nat.le_refl _) _
  have hS : SynAt (w1.alloc (.cells #[.int .u8 0, .int .u8 0, .int .u8 0, .int .u8 0, .int .u8 0, .int .u8 0, .int .u8 0, .int .u8 0] 64)) g w1.heap.size M := ⟨hsy.below hba, hz1⟩
  have hB := below_then2 hb1 hba
  obtain ⟨gz, hgz⟩ : ∃ gz, gz = w1.heap.size := ⟨_, rfl⟩
  obtain ⟨wa, hwa⟩ : ∃ wa, wa = w1.alloc (.cells #[.int .u8 0, .int .u8 0, .int .u8 0, .int .u8 0, .int .u8 0, .int .u8 0, .int .u8 0, .int .u8 0] 64) := ⟨_, rfl⟩
  rw [← hwa, ← hgz] at hS ⊢
  rw [← hwa] at hB
  clear hwa hgz hba hz1 hsy
  obtain ⟨e0, e1, e2, ez⟩ := hS.cells
  refine wp_region_quiet_lit (by kernel_rfl) (by kernel_rfl) ?_
  quiet_step (fail)
  quiet_step (fail)
  refine BigFrame.wpQuiet_want rfl (fun K hK => ?_)
  refine quiet_load_agg rfl rfl Try.underlying64 rfl (info64' hl0) (fun k hk => e0 k (by rwa [agc_size, hl0] at hk)) ?_
  refine hK _ ?_
  clear hK K
  simp only [Act.put, List.setIfInBounds_toArray, List.set_cons_zero, List.set_cons_succ]
  refine BigFrame.wpQuiet_want rfl (fun K hK => ?_)
  refine quiet_load_agg rfl rfl Try.underlying64 rfl (info64' z8) (fun k hk => ez k (by rwa [agc_size, z8] at hk)) ?_
  refine hK _ ?_
  clear hK K
  simp only [Act.put, List.setIfInBounds_toArray, List.set_cons_zero, List.set_cons_succ]
  refine BigFrame.wpQuiet_want rfl (fun K hK => ?_)
  refine quiet_bin rfl rfl rfl (guard64 _ _ _ _ _) hr0 ?_
  refine hK _ ?_
  clear hK K
  simp only [Act.put, List.setIfInBounds_toArray, List.set_cons_zero, List.set_cons_succ]
  quiet_step (fail)
  quiet_step (fail)
  quiet_step (fail)
  refine BigFrame.wpQuiet_want rfl (fun K hK => ?_)
  refine quiet_load_agg rfl rfl Try.underlying64 rfl (info64' hl1) (fun k hk => e1 k (by rwa [agc_size, hl1] at hk)) ?_
  refine hK _ ?_
  clear hK K
  simp only [Act.put, List.setIfInBounds_toArray, List.set_cons_zero, List.set_cons_succ]
  refine BigFrame.wpQuiet_want rfl (fun K hK => ?_)
  refine quiet_load_agg rfl rfl Try.underlying64 rfl (info64' z8) (fun k hk => ez k (by rwa [agc_size, z8] at hk)) ?_
  refine hK _ ?_
  clear hK K
  simp only [Act.put, List.setIfInBounds_toArray, List.set_cons_zero, List.set_cons_succ]
  refine BigFrame.wpQuiet_want rfl (fun K hK => ?_)
  refine quiet_bin rfl rfl rfl (guard64 _ _ _ _ _) hr1 ?_
  refine hK _ ?_
  clear hK K
  simp only [Act.put, List.setIfInBounds_toArray, List.set_cons_zero, List.set_cons_succ]
  quiet_step (fail)
  quiet_step (fail)
  quiet_step (fail)
  quiet_step (fail)
  quiet_step (fail)
  quiet_step (fail)
  quiet_step (fail)
  quiet_step (fail)
  quiet_step (fail)
  refine wpQuiet_nil ?_
  intro _ hw'
  obtain ⟨nq, hw''⟩ := hw'
  subst hw''
  skip
  obtain ⟨wq, hq⟩ : ∃ wq, wq = wa.drewN nq := ⟨_, rfl⟩
  replace hS := (show SynAt wq g gz M from hq ▸ hS.drewN nq)
  replace hB := (show Below w.heap.size w wq from hq ▸ below_drewN hB nq)
  rw [← hq]
  clear hq e0 e1 e2 ez
  obtain ⟨e0, e1, e2, ez⟩ := hS.cells
  obtain ⟨wq0, rfl⟩ : ∃ x : World, x = wq := ⟨_, rfl⟩
  go_wp2
  refine wp_region_quiet_lit (by kernel_rfl) (by kernel_rfl) ?_
  quiet_step (fail)
  quiet_step (fail)
  refine BigFrame.wpQuiet_want rfl (fun K hK => ?_)
  refine quiet_load_agg rfl rfl Try.underlying64 rfl (info64' hl1) (fun k hk => e1 k (by rwa [agc_size, hl1] at hk)) ?_
  refine hK _ ?_
  clear hK K
  simp only [Act.put, List.setIfInBounds_toArray, List.set_cons_zero, List.set_cons_succ]
  refine BigFrame.wpQuiet_want rfl (fun K hK => ?_)
  refine quiet_load_agg rfl rfl Try.underlying64 rfl (info64' z8) (fun k hk => ez k (by rwa [agc_size, z8] at hk)) ?_
  refine hK _ ?_
  clear hK K
  simp only [Act.put, List.setIfInBounds_toArray, List.set_cons_zero, List.set_cons_succ]
  refine BigFrame.wpQuiet_want rfl (fun K hK => ?_)
  refine quiet_bin rfl rfl rfl (guard64 _ _ _ _ _) hr1 ?_
  refine hK _ ?_
  clear hK K
  simp only [Act.put, List.setIfInBounds_toArray, List.set_cons_zero, List.set_cons_succ]
  quiet_step (fail)
  quiet_step (fail)
  quiet_step (fail)
  quiet_step (fail)
  quiet_step (fail)
  quiet_step (fail)
  quiet_step (fail)
  quiet_step (fail)
  refine wpQuiet_nil ?_
  intro _ hw'
  obtain ⟨nq, hw''⟩ := hw'
  subst hw''
  skip
  obtain ⟨wq, hq⟩ : ∃ wq, wq = wq0.drewN nq := ⟨_, rfl⟩
  replace hS := (show SynAt wq g gz M from hq ▸ hS.drewN nq)
  replace hB := (show Below w.heap.size w wq from hq ▸ below_drewN hB nq)
  rw [← hq]
  clear hq e0 e1 e2 ez
  obtain ⟨e0, e1, e2, ez⟩ := hS.cells
  obtain ⟨wq1, rfl⟩ : ∃ x : World, x = wq := ⟨_, rfl⟩
  go_wp2
  refine wp_region_quiet_lit (by kernel_rfl) (by kernel_rfl) ?_
  quiet_step (fail)
  quiet_step (fail)
  refine BigFrame.wpQuiet_want rfl (fun K hK => ?_)
  refine quiet_load_agg rfl rfl Try.underlying64 rfl (info64' hl0) (fun k hk => e0 k (by rwa [agc_size, hl0] at hk)) ?_
  refine hK _ ?_
  clear hK K
  simp only [Act.put, List.setIfInBounds_toArray, List.set_cons_zero, List.set_cons_succ]
  refine BigFrame.wpQuiet_want rfl (fun K hK => ?_)
  refine quiet_load_agg rfl rfl Try.underlying64 rfl (info64' z8) (fun k hk => ez k (by rwa [agc_size, z8] at hk)) ?_
  refine hK _ ?_
  clear hK K
  simp only [Act.put, List.setIfInBounds_toArray, List.set_cons_zero, List.set_cons_succ]
  refine BigFrame.wpQuiet_want rfl (fun K hK => ?_)
  refine quiet_bin rfl rfl rfl (guard64 _ _ _ _ _) hr0 ?_
  refine hK _ ?_
  clear hK K
  simp only [Act.put, List.setIfInBounds_toArray, List.set_cons_zero, List.set_cons_succ]
  quiet_step (fail)
  quiet_step (fail)
  quiet_step (fail)
  refine BigFrame.wpQuiet_want rfl (fun K hK => ?_)
  refine quiet_load_agg rfl rfl Try.underlying64 rfl (info64' hl2) (fun k hk => e2 k (by rwa [agc_size, hl2] at hk)) ?_
  refine hK _ ?_
  clear hK K
  simp only [Act.put, List.setIfInBounds_toArray, List.set_cons_zero, List.set_cons_succ]
  refine BigFrame.wpQuiet_want rfl (fun K hK => ?_)
  refine quiet_load_agg rfl rfl Try.underlying64 rfl (info64' z8) (fun k hk => ez k (by rwa [agc_size, z8] at hk)) ?_
  refine hK _ ?_
  clear hK K
  simp only [Act.put, List.setIfInBounds_toArray, List.set_cons_zero, List.set_cons_succ]
  refine BigFrame.wpQuiet_want rfl (fun K hK => ?_)
  refine quiet_bin rfl rfl rfl (guard64 _ _ _ _ _) hr2 ?_
  refine hK _ ?_
  clear hK K
  simp only [Act.put, List.setIfInBounds_toArray, List.set_cons_zero, List.set_cons_succ]
  quiet_step (fail)
  quiet_step (fail)
  refine wpQuiet_nil ?_
  intro _ hw'
  obtain ⟨nq, hw''⟩ := hw'
  subst hw''
  skip
  obtain ⟨wq, hq⟩ : ∃ wq, wq = wq1.drewN nq := ⟨_, rfl⟩
  replace hS := (show SynAt wq g gz M from hq ▸ hS.drewN nq)
  replace hB := (show Below w.heap.size w wq from hq ▸ below_drewN hB nq)
  rw [← hq]
  clear hq e0 e1 e2 ez
  obtain ⟨e0, e1, e2, ez⟩ := hS.cells
  obtain ⟨wq2, rfl⟩ : ∃ x : World, x = wq := ⟨_, rfl⟩
  go_wp2
  refine wp_region_quiet_lit (by kernel_rfl) (by kernel_rfl) ?_
  quiet_step (fail)
  quiet_step (fail)
  refine BigFrame.wpQuiet_want rfl (fun K hK => ?_)
  refine quiet_load_agg rfl rfl Try.underlying64 rfl (info64' hl0) (fun k hk => e0 k (by rwa [agc_size, hl0] at hk)) ?_
  refine hK _ ?_
  clear hK K
  simp only [Act.put, List.setIfInBounds_toArray, List.set_cons_zero, List.set_cons_succ]
  refine BigFrame.wpQuiet_want rfl (fun K hK => ?_)
  refine quiet_load_agg rfl rfl Try.underlying64 rfl (info64' z8) (fun k hk => ez k (by rwa [agc_size, z8] at hk)) ?_
  refine hK _ ?_
  clear hK K
  simp only [Act.put, List.setIfInBounds_toArray, List.set_cons_zero, List.set_cons_succ]
  refine BigFrame.wpQuiet_want rfl (fun K hK => ?_)
  refine quiet_bin rfl rfl rfl (guard64 _ _ _ _ _) hr0 ?_
  refine hK _ ?_
  clear hK K
  simp only [Act.put, List.setIfInBounds_toArray, List.set_cons_zero, List.set_cons_succ]
  quiet_step (fail)
  quiet_step (fail)
  quiet_step (fail)
  refine BigFrame.wpQuiet_want rfl (fun K hK => ?_)
  refine quiet_load_agg rfl rfl Try.underlying64 rfl (info64' hl1) (fun k hk => e1 k (by rwa [agc_size, hl1] at hk)) ?_
  refine hK _ ?_
  clear hK K
  simp only [Act.put, List.setIfInBounds_toArray, List.set_cons_zero, List.set_cons_succ]
  refine BigFrame.wpQuiet_want rfl (fun K hK => ?_)
  refine quiet_load_agg rfl rfl Try.underlying64 rfl (info64' z8) (fun k hk => ez k (by rwa [agc_size, z8] at hk)) ?_
  refine hK _ ?_
  clear hK K
  simp only [Act.put, List.setIfInBounds_toArray, List.set_cons_zero, List.set_cons_succ]
  refine BigFrame.wpQuiet_want rfl (fun K hK => ?_)
  refine quiet_bin rfl rfl rfl (guard64 _ _ _ _ _) hr1 ?_
  refine hK _ ?_
  clear hK K
  simp only [Act.put, List.setIfInBounds_toArray, List.set_cons_zero, List.set_cons_succ]
  quiet_step (fail)
  quiet_step (fail)
  refine wpQuiet_nil ?_
  intro _ hw'
  obtain ⟨nq, hw''⟩ := hw'
  subst hw''
  skip
  obtain ⟨wq, hq⟩ : ∃ wq, wq = wq2.drewN nq := ⟨_, rfl⟩
  replace hS := (show SynAt wq g gz M from hq ▸ hS.drewN nq)
  replace hB := (show Below w.heap.size w wq from hq ▸ below_drewN hB nq)
  rw [← hq]
  clear hq e0 e1 e2 ez
  obtain ⟨e0, e1, e2, ez⟩ := hS.cells
  obtain ⟨wq3, rfl⟩ : ∃ x : World, x = wq := ⟨_, rfl⟩
  go_wp2
  refine wp_region_quiet_lit (by kernel_rfl) (by kernel_rfl) ?_
  quiet_step (fail)
  quiet_step (fail)
  refine BigFrame.wpQuiet_want rfl (fun K hK => ?_)
  refine quiet_load_agg rfl rfl Try.underlying64 rfl (info64' hl0) (fun k hk => e0 k (by rwa [agc_size, hl0] at hk)) ?_
  refine hK _ ?_
  clear hK K
  simp only [Act.put, List.setIfInBounds_toArray, List.set_cons_zero, List.set_cons_succ]
  refine BigFrame.wpQuiet_want rfl (fun K hK => ?_)
  refine quiet_load_agg rfl rfl Try.underlying64 rfl (info64' z8) (fun k hk => ez k (by rwa [agc_size, z8] at hk)) ?_
  refine hK _ ?_
  clear hK K
  simp only [Act.put, List.setIfInBounds_toArray, List.set_cons_zero, List.set_cons_succ]
  refine BigFrame.wpQuiet_want rfl (fun K hK => ?_)
  refine quiet_bin rfl rfl rfl (guard64 _ _ _ _ _) hr0 ?_
  refine hK _ ?_
  clear hK K
  simp only [Act.put, List.setIfInBounds_toArray, List.set_cons_zero, List.set_cons_succ]
  quiet_step (fail)
  refine wpQuiet_nil ?_
  intro _ hw'
  obtain ⟨nq, hw''⟩ := hw'
  subst hw''
  skip
  obtain ⟨wq, hq⟩ : ∃ wq, wq = wq3.drewN nq := ⟨_, rfl⟩
  replace hS := (show SynAt wq g gz M from hq ▸ hS.drewN nq)
  replace hB := (show Below w.heap.size w wq from hq ▸ below_drewN hB nq)
  rw [← hq]
  clear hq e0 e1 e2 ez
  obtain ⟨e0, e1, e2, ez⟩ := hS.cells
  obtain ⟨wq4, rfl⟩ : ∃ x : World, x = wq := ⟨_, rfl⟩
  go_wp2
  go_ret2
  exact ⟨_, _, rfl, LocRes.two hs0.out hs1.out hs2.out, hB⟩
set_option maxRecDepth 100000 in
set_option maxHeartbeats 4000000 in
theorem loc_011 (h4 : 4 ≤ wd) (h16 : wd ≤ 16) (hn : n = wd - 3) (h : Blks p w A wd c M) (h0 : mrow (synM M) 0 ≠ zeroL 8) (h1 : mrow (synM M) 1 = zeroL 8) (h2 : mrow (synM M) 2 = zeroL 8) : Calls Try.prog 80 #[.slice A wd c] w fun e w' => ∃ r er, e = .returned (.tuple #[.int .i64 r, .int .i64 er]) ∧ LocRes n M r er ∧ Below w.heap.size w w' := by
  have e3 : (wd : Int) - 3 = (n : Int) := by omega
  have hn13 : n ≤ 13 := by omega
  have hl0 := synM_row M (j := 0) (by decide)
  have hr0 := fun w => eql64 hl0 z8 w
  rw [decide_eq_false h0] at hr0
  have hl1 := synM_row M (j := 1) (by decide)
  have hr1 := fun w => eql64 hl1 z8 w
  rw [decide_eq_true h1] at hr1
  have hl2 := synM_row M (j := 2) (by decide)
  have hr2 := fun w => eql64 hl2 z8 w
  rw [decide_eq_true h2] at hr2
  have hs0 := Lib.hid h0
  have hs1 := Lib.hid h1
  have hs2 := Lib.hid h2
  clear h0 h1 h2
  replace hn := Lib.hid hn
  go_enter Try.func80, Try.ntmps80
  go_wp2_with (go_at_call 76; (with_reducible refine (syn_any h4 h16 h).mono ?_); rintro e w1 ⟨g, rfl, hg, hsy, hb1⟩)
  have hz1 := zero_row8 w1 64
  have hba : Below w1.heap.size w1 (w1.alloc (.cells #[.int .u8 0, .int .u8 0, .int .u8 0, .int .u8 0, .int .u8 0, .int .u8 0, .int .u8 0, .int .u8 0] 64)) := (Below.refl _ _).alloc (Nat.le_refl _) _
  have hS : SynAt (w1.alloc (.cells #[.int .u8 0, .int .u8 0, .int .u8 0, .int .u8 0, .int .u8 0, .int .u8 0, .int .u8 0, .int .u8 0] 64)) g w1.heap.size M := ⟨hsy.below hba, hz1⟩
  have hB := below_then2 hb1 hba
  obtain ⟨gz, hgz⟩ : ∃ gz, gz = w1.heap.size := ⟨_, rfl⟩
  obtain ⟨wa, hwa⟩ : ∃ wa, wa = w1.alloc (.cells #[.int .u8 0, .int .u8 0, .int .u8 0, .int .u8 0, .int .u8 0, .int .u8 0, .int .u8 0, .int .u8 0] 64) := ⟨_, rfl⟩
  rw [← hwa, ← hgz] at hS ⊢
  rw [← hwa] at hB
  clear hwa hgz hba hz1 hsy
  obtain ⟨e0, e1, e2, ez⟩ := hS.cells
  refine wp_region_quiet_lit (by kernel_rfl) (by kernel_rfl) ?_
  quiet_step (fail)
  quiet_step (fail)
  refine BigFrame.wpQuiet_want rfl (fun K hK => ?_)
  refine quiet_load_agg rfl rfl Try.underlying64 rfl (info64' hl0) (fun k hk => e0 k (by rwa [agc_size, hl0] at hk)) ?_
  refine hK _ ?_
  clear hK K
  simp only [Act.put, List.setIfInBounds_toArray, List.set_cons_zero, List.set_cons_succ]
  refine BigFrame.wpQuiet_want rfl (fun K hK => ?_)
  refine quiet_load_agg rfl rfl Try.underlying64 rfl (info64' z8) (fun k hk => ez k (by rwa [agc_size, z8] at hk)) ?_
  refine hK _ ?_
  clear hK K
  simp only [Act.put, List.setIfInBounds_toArray, List.set_cons_zero, List.set_cons_succ]
  refine BigFrame.wpQuiet_want rfl (fun K hK => ?_)
  refine quiet_bin rfl rfl rfl (guard64 _ _ _ _ _) hr0 ?_
  refine hK _ ?_
  clear hK K
  simp only [Act.put, List.setIfInBounds_toArray, List.set_cons_zero, List.set_cons_succ]
  quiet_step (fail)
  quiet_step (fail)
  quiet_step (fail)
  quiet_step (fail)
  quiet_step (fail)
  quiet_step (fail)
  quiet_step (fail)
  quiet_step (fail)
  quiet_step (fail)
  quiet_step (fail)
  quiet_step (fail)
  quiet_step (fail)
  quiet_step (fail)
  quiet_step (fail)
  quiet_step (fail)
  refine wpQuiet_nil ?_
  intro _ hw'
  obtain ⟨nq, hw''⟩ := hw'
  subst hw''
  skip
  obtain ⟨wq, hq⟩ : ∃ wq, wq = wa.drewN nq := ⟨_, rfl⟩
  replace hS := (show SynAt wq g gz M from hq ▸ hS.drewN nq)
  replace hB := (show Below w.heap.size w wq from hq ▸ below_drewN hB nq)
  rw [← hq]
  clear hq e0 e1 e2 ez
  obtain ⟨e0, e1, e2, ez⟩ := hS.cells
  obtain ⟨wq0, rfl⟩ : ∃ x : World, x = wq := ⟨_, rfl⟩
  go_wp2
  refine wp_region_quiet_lit (by kernel_rfl) (by kernel_rfl) ?_
  quiet_step (fail)
  quiet_step (fail)
  refine BigFrame.wpQuiet_want rfl (fun K hK => ?_)
  refine quiet_load_agg rfl rfl Try.underlying64 rfl (info64' hl1) (fun k hk => e1 k (by rwa [agc_size, hl1] at hk)) ?_
  refine hK _ ?_
  clear hK K
  simp only [Act.put, List.setIfInBounds_toArray, List.set_cons_zero, List.set_cons_succ]
  refine BigFrame.wpQuiet_want rfl (fun K hK => ?_)
  refine quiet_load_agg rfl rfl Try.underlying64 rfl (info64' z8) (fun k hk => ez k (by rwa [agc_size, z8] at hk)) ?_
  refine hK _ ?_
  clear hK K
  simp only [Act.put, List.setIfInBounds_toArray, List.set_cons_zero, List.set_cons_succ]
  refine BigFrame.wpQuiet_want rfl (fun K hK => ?_)
  refine quiet_bin rfl rfl rfl (guard64 _ _ _ _ _) hr1 ?_
  refine hK _ ?_
  clear hK K
  simp only [Act.put, List.setIfInBounds_toArray, List.set_cons_zero, List.set_cons_succ]
  quiet_step (fail)
  quiet_step (fail)
  quiet_step (fail)
  refine BigFrame.wpQuiet_want rfl (fun K hK => ?_)
  refine quiet_load_agg rfl rfl Try.underlying64 rfl (info64' hl2) (fun k hk => e2 k (by rwa [agc_size, hl2] at hk)) ?_
  refine hK _ ?_
  clear hK K
  simp only [Act.put, List.setIfInBounds_toArray, List.set_cons_zero, List.set_cons_succ]
  refine BigFrame.wpQuiet_want rfl (fun K hK => ?_)
  refine quiet_load_agg rfl rfl Try.underlying64 rfl (info64' z8) (fun k hk => ez k (by rwa [agc_size, z8] at hk)) ?_
  refine hK _ ?_
  clear hK K
  simp only [Act.put, List.setIfInBounds_toArray, List.set_cons_zero, List.set_cons_succ]
  refine BigFrame.wpQuiet_want rfl (fun K hK => ?_)
  refine quiet_bin rfl rfl rfl (guard64 _ _ _ _ _) hr2 ?_
  refine hK _ ?_
  clear hK K
  simp only [Act.put, List.setIfInBounds_toArray, List.set_cons_zero, List.set_cons_succ]
  quiet_step (fail)
  quiet_step (fail)
  refine wpQuiet_nil ?_
  intro _ hw'
  obtain ⟨nq, hw''⟩ := hw'
  subst hw''
  skip
  obtain ⟨wq, hq⟩ : ∃ wq, wq = wq0.drewN nq := ⟨_, rfl⟩
  replace hS := (show SynAt wq g gz M from hq ▸ hS.drewN nq)
  replace hB := (show Below w.heap.size w wq from hq ▸ below_drewN hB nq)
  rw [← hq]
  clear hq e0 e1 e2 ez
  obtain ⟨e0, e1, e2, ez⟩ := hS.cells
  obtain ⟨wq1, rfl⟩ : ∃ x : World, x = wq := ⟨_, rfl⟩
  go_wp2
  go_ret2
  exact ⟨_, _, rfl, LocRes.p0 hs0.out hs1.out hs2.out, hB⟩
end
end Go.Proofs.Ytifhjigkljdkmaa
