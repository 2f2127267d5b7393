/- The law functions DecodeCombines and DecodeRestores return true. -/
import Derived.Test.YtifhjigkljdkmaaAy
import Derived.Test.YtifhjigkljdkmaaCb
import Derived.Test.YtifhjigkljdkmaaBl
import Derived.Test.YtifhjigkljdkmaaRa
import Derived.Test.YtifhjigkljdkmaaOt
import Derived.OpenShut
namespace Go.Proofs.Ytifhjigkljdkmaa
open Go.RowKit
open Gf (F)
set_option linter.unusedSimpArgs false
set_option linter.unusedVariables false
theorem combI_xor (ws : List F) (M : List (List F)) (i : Nat) : xorB (combI ws M i) (sclB (nth ws i) (mrow M i)) = combI ws M (i + 1) := by
  apply nth_ext (by rw [xorB_length, combI_length])
  intro k hk
  rw [xorB_length] at hk
  rw [combI_step hk]
  unfold xorB sclB
  rw [nth_mkr _ hk, nth_mkr _ hk]
  rfl
section
variable {p q : Nat → Prop} {w : World} {A B : Option Addr} {n c m d : Nat} {M : List (List F)} {ws : List F}
set_option maxRecDepth 100000 in
set_option maxHeartbeats 2000000 in
theorem rcombine_any (h : Byt p w A n c ws) (g : Blks q w B n d M) : Calls Try.prog 69 #[.slice A n c, .slice B n d] w fun e w' => e = .returned (.agg (agc (comb ws M))) ∧ Below w.heap.size w w' := by
  have hn := h.row.len
  have hwl := Lib.hid h.len
  have hf : Hid (∀ i, (combI ws M i).length = 8) := fun i => combI_length ws M i
  obtain ⟨r4, r6, hb⟩ := two_zero w
  go_enter Try.func69, Try.ntmps69
  go_wp2
  go_loopw [6] (fun x wr => ∃ i : Nat, i ≤ n ∧ x = .int .i64 i ∧ wr.rowIs (w.heap.size + 1) 64 8 (bytes (combI ws M i)) ∧ (∃ f, wr.rowIs w.heap.size 64 8 f) ∧ Below w.heap.size w wr) (fun x _ => n - (intOf x).toNat)
  case atStart => exact ⟨0, by omega, rfl, by rw [combI_zero]; exact r6, ⟨_, r4⟩, hb⟩
  case round =>
    obtain ⟨i, hi, rfl, hr6, ⟨f4, hr4⟩, hbw⟩ := hrel
    by_cases hlti : i < n
    · obtain ⟨b1, o1, rfl, _, hlt1, hc1⟩ := h.at_ (by omega)
      obtain ⟨b2, o2, rfl, _, hlt2, hc2⟩ := g.agg (by omega)
      have hx := g.row hlti
      have e2 : ∀ k, k < (agc (mrow M i)).size → wr.cell? ⟨b2, o2 + i * 8 + k, none⟩ = (agc (mrow M i))[k]? := fun k hk => (hbw.cell (p := ⟨b2, o2 + i * 8 + k, none⟩) hlt2).trans (hc2 i hlti k (by rwa [agc_size, hx] at hk))
      have e5 : wr.cell? ⟨b1, o1 + i, none⟩ = some (.int .u8 ((nth ws i).toNat : Int)) := (hbw.cell (p := ⟨b1, o1 + i, none⟩) hlt1).trans (hc1 i hlti)
      clear hc1 hc2
      have d1 : (0 : Int) ≤ (i : Int) := Int.natCast_nonneg _
      have d2 : (i : Int) < (n : Int) := by omega
      have hfi := hf.out i
      have hxor := Lib.hid (combI_xor ws M i)
      replace e2 := Lib.hid e2
      go_wp2
      replace e2 := e2.out
      refine AnyE.region (fun w' => w'.rowIs (w.heap.size + 1) 64 8 (bytes (combI ws M i)) ∧ w'.cell? ⟨b1, o1 + i, none⟩ = some (.int .u8 ((nth ws i).toNat : Int)) ∧ (∀ k, k < (agc (mrow M i)).size → w'.cell? ⟨b2, o2 + i * 8 + k, none⟩ = (agc (mrow M i))[k]?) ∧ (∃ f, w'.rowIs w.heap.size 64 8 f) ∧ Below w.heap.size w w') 11 (by kernel_rfl) ?_
      have hS : ∀ w0 w', (fun w' => w'.rowIs (w.heap.size + 1) 64 8 (bytes (combI ws M i)) ∧ w'.cell? ⟨b1, o1 + i, none⟩ = some (.int .u8 ((nth ws i).toNat : Int)) ∧ (∀ k, k < (agc (mrow M i)).size → w'.cell? ⟨b2, o2 + i * 8 + k, none⟩ = (agc (mrow M i))[k]?) ∧ (∃ f, w'.rowIs w.heap.size 64 8 f) ∧ Below w.heap.size w w') w0 → Below w0.heap.size w0 w' → (fun w' => w'.rowIs (w.heap.size + 1) 64 8 (bytes (combI ws M i)) ∧ w'.cell? ⟨b1, o1 + i, none⟩ = some (.int .u8 ((nth ws i).toNat : Int)) ∧ (∀ k, k < (agc (mrow M i)).size → w'.cell? ⟨b2, o2 + i * 8 + k, none⟩ = (agc (mrow M i))[k]?) ∧ (∃ f, w'.rowIs w.heap.size 64 8 f) ∧ Below w.heap.size w w') w' := fun w0 w' h k => ⟨h.1.of_block (k.block _ h.1.lt), (k.cell (World.block_lt_of_cell? _ _ h.2.1)).trans h.2.1, fun j hj => (k.cell (by have := h.2.2.2.2.size; exact Nat.lt_of_lt_of_le hlt2 this)).trans (h.2.2.1 j hj), (by obtain ⟨f, hf⟩ := h.2.2.2.1; exact ⟨f, hf.of_block (k.block _ hf.lt)⟩), below_then2 h.2.2.2.2 k⟩
      have hH := hS wr wr.drew ⟨hr6, e5, e2, ⟨_, hr4⟩, hbw⟩ (show Below wr.heap.size wr wr.drew from below_drewN (Below.refl _ _) 1)
      refine AnyE.take 0 [0] (v := ?_) rfl (by decide) (by kernel_rfl) (by kernel_rfl) (by kernel_rfl) (by kernel_rfl) (by kernel_rfl) (by kernel_rfl) (fun _ _ _ h => h) (by rfl) hH ?_ ?_
      rotate_left; · (intro wz hSw; simp only [List.getElem_toArray, List.getElem_cons_succ, List.getElem_cons_zero, Act.put, List.setIfInBounds_toArray, List.set_cons_zero, List.set_cons_succ]; refine exec_load_agg (x := .tmp 5) (b := w.heap.size + 1) (off := 0) ?_ ?_ Try.underlying64 rfl (info64' hfi) (fun k hk => row_agc hSw.1 hfi hk); rfl; rfl)
      (try simp only [List.getElem_toArray, List.getElem_cons_succ, List.getElem_cons_zero, Act.put, List.setIfInBounds_toArray, List.set_cons_zero, List.set_cons_succ])
      refine AnyE.take0 1 (v := ?_) rfl (by decide) (by kernel_rfl) (by kernel_rfl) (by kernel_rfl) (by kernel_rfl) (fun _ _ _ h => h) (by rfl) (fun _ => hH) ?_ ?_
      rotate_left; · (intro w; go_simp; try with_reducible rfl)
      (try simp only [List.getElem_toArray, List.getElem_cons_succ, List.getElem_cons_zero, Act.put, List.setIfInBounds_toArray, List.set_cons_zero, List.set_cons_succ])
      refine AnyE.take0 2 (v := ?_) rfl (by decide) (by kernel_rfl) (by kernel_rfl) (by kernel_rfl) (by kernel_rfl) (fun _ _ _ h => h) (by rfl) (fun _ => hH) ?_ ?_
      rotate_left; · (intro w; go_simp; try with_reducible rfl)
      (try simp only [List.getElem_toArray, List.getElem_cons_succ, List.getElem_cons_zero, Act.put, List.setIfInBounds_toArray, List.set_cons_zero, List.set_cons_succ])
      refine AnyE.take0 3 (v := ?_) rfl (by decide) (by kernel_rfl) (by kernel_rfl) (by kernel_rfl) (by kernel_rfl) (fun _ _ _ h => h) (by rfl) (fun _ => hH) ?_ ?_
      rotate_left; · (intro w; go_simp; try with_reducible rfl)
      (try simp only [List.getElem_toArray, List.getElem_cons_succ, List.getElem_cons_zero, Act.put, List.setIfInBounds_toArray, List.set_cons_zero, List.set_cons_succ])
      refine AnyE.take 4 [4] (v := ?_) rfl (by decide) (by kernel_rfl) (by kernel_rfl) (by kernel_rfl) (by kernel_rfl) (by kernel_rfl) (by kernel_rfl) (fun _ _ _ h => h) (by rfl) hH ?_ ?_
      rotate_left; · (intro w hSw; replace hSw := hSw.2.1; go_simp; try with_reducible rfl)
      (try simp only [List.getElem_toArray, List.getElem_cons_succ, List.getElem_cons_zero, Act.put, List.setIfInBounds_toArray, List.set_cons_zero, List.set_cons_succ])
      refine AnyE.take0 5 (v := ?_) rfl (by decide) (by kernel_rfl) (by kernel_rfl) (by kernel_rfl) (by kernel_rfl) (fun _ _ _ h => h) (by rfl) (fun _ => hH) ?_ ?_
      rotate_left; · (intro w; go_simp; try with_reducible rfl)
      (try simp only [List.getElem_toArray, List.getElem_cons_succ, List.getElem_cons_zero, Act.put, List.setIfInBounds_toArray, List.set_cons_zero, List.set_cons_succ])
      refine AnyE.take0 6 (v := ?_) rfl (by decide) (by kernel_rfl) (by kernel_rfl) (by kernel_rfl) (by kernel_rfl) (fun _ _ _ h => h) (by rfl) (fun _ => hH) ?_ ?_
      rotate_left; · (intro w; go_simp; try with_reducible rfl)
      (try simp only [List.getElem_toArray, List.getElem_cons_succ, List.getElem_cons_zero, Act.put, List.setIfInBounds_toArray, List.set_cons_zero, List.set_cons_succ])
      refine AnyE.take0 7 (v := ?_) rfl (by decide) (by kernel_rfl) (by kernel_rfl) (by kernel_rfl) (by kernel_rfl) (fun _ _ _ h => h) (by rfl) (fun _ => hH) ?_ ?_
      rotate_left; · (intro w; go_simp; try with_reducible rfl)
      (try simp only [List.getElem_toArray, List.getElem_cons_succ, List.getElem_cons_zero, Act.put, List.setIfInBounds_toArray, List.set_cons_zero, List.set_cons_succ])
      refine AnyE.take 8 [8] (v := ?_) rfl (by decide) (by kernel_rfl) (by kernel_rfl) (by kernel_rfl) (by kernel_rfl) (by kernel_rfl) (by kernel_rfl) (fun _ _ _ h => h) (by rfl) hH ?_ ?_
      rotate_left; · (intro wz hSw; simp only [List.getElem_toArray, List.getElem_cons_succ, List.getElem_cons_zero, Act.put, List.setIfInBounds_toArray, List.set_cons_zero, List.set_cons_succ]; refine exec_load_agg (x := .tmp 20) (b := b2) (off := o2 + i * 8) ?_ ?_ Try.underlying64 rfl (info64' hx) hSw.2.2.1; rfl; rfl)
      (try simp only [List.getElem_toArray, List.getElem_cons_succ, List.getElem_cons_zero, Act.put, List.setIfInBounds_toArray, List.set_cons_zero, List.set_cons_succ])
      refine AnyE.one 9 rfl (by kernel_rfl) (fun K hK => ?_)
      rw [if_pos (show _ = true by rfl)]
      go_simp
      go_at_call 115; (with_reducible refine (scale_any (nth ws i) hx _).mono ?_); rintro e w9 ⟨rfl, hb9⟩
      replace hH := hS _ _ hH hb9
      refine hK.out _ _ (fun _ => hH) ?_
      clear hK K
      (try simp only [List.getElem_toArray, List.getElem_cons_succ, List.getElem_cons_zero, Act.put, List.setIfInBounds_toArray, List.set_cons_zero, List.set_cons_succ])
      refine AnyE.one 10 rfl (by kernel_rfl) (fun K hK => ?_)
      rw [if_pos (show _ = true by rfl)]
      go_simp
      go_at_call 79; (with_reducible refine (xor_any hfi (sclB_length _ _) _).mono ?_); rintro e w10 ⟨rfl, hb10⟩
      replace hH := hS _ _ hH hb10
      refine hK.out _ _ (fun _ => hH) ?_
      clear hK K
      (try simp only [List.getElem_toArray, List.getElem_cons_succ, List.getElem_cons_zero, Act.put, List.setIfInBounds_toArray, List.set_cons_zero, List.set_cons_succ])
      refine AnyE.one 11 rfl (by kernel_rfl) (fun K hK => ?_)
      rw [if_pos (show _ = true by rfl)]
      (try simp only [List.getElem_toArray, List.getElem_cons_succ, List.getElem_cons_zero, Act.put, List.setIfInBounds_toArray, List.set_cons_zero, List.set_cons_succ])
      refine wp_store_agg rfl rfl rfl hH.1 (info64' (xorB_length _ _)) (by rw [agc_size, xorB_length]; decide) (agc_one _) ?_
      intro w11 hr11 hg11 hz11
      refine hK.out _ _ (fun e => Bool.noConfusion (show true = false from e)) ?_
      clear hK K
      (try simp only [List.getElem_toArray, List.getElem_cons_succ, List.getElem_cons_zero, Act.put, List.setIfInBounds_toArray, List.set_cons_zero, List.set_cons_succ])
      refine AnyE.done (by kernel_rfl) ?_ _
      have hr12 := row_put (xorB_length _ _) hr11
      rw [hxor.out] at hr12
      obtain ⟨f4', hr4'⟩ := hH.2.2.2.1
      have hr44 := hr4'.of_block (hg11.block _ hr4'.lt (by simp))
      have hB11 := hH.2.2.2.2.grown hg11 hH.2.2.2.2.size (fun k e => by cases e; exact Nat.le_succ _)
      go_wp2
      go_roundw
      case rel => exact ⟨i + 1, by omega, by go_num, hr12, ⟨_, hr44⟩, hB11⟩
      case measure => simp [intOf]; omega
    · obtain rfl : i = n := by omega
      have hwi : Hid (combI ws M i = comb ws M) := by
        show _ = _
        rw [← hwl.out]
        rfl
      have hfi := hf.out i
      go_wp2_with (first | (with_reducible refine wpl_load_agg rfl rfl rfl Try.underlying64 rfl (info64' hfi) (fun k hk => row_agc hr6 hfi hk) ?_) | (with_reducible refine wpl_store_agg rfl rfl rfl rfl hr4 (info64' hfi) (by rw [agc_size, hfi]; decide) (agc_one _) ?_; intro w2 hr5 hg5 hz5))
      have hb5 := hbw.grown hg5 hbw.size (fun k e => by cases e; omega)
      have hr7 := row_put hfi hr5
      rw [hwi.out] at hr7 hfi
      exact bodyPost_ret (v := .agg (agc (comb ws M))) (results_cell_agg Try.results69 _ rfl Try.underlying64 rfl (info64' hfi) (fun k hk => row_agc hr7 hfi hk)) rfl ⟨rfl, hb5⟩
end
end Go.Proofs.Ytifhjigkljdkmaa
namespace Go.Proofs.Ytifhjigkljdkmaa
open Go.RowKit
open Gf (F)
set_option linter.unusedSimpArgs false
set_option linter.unusedVariables false
theorem exec_binL {P : Program} {o : Oper} {ev : Operand → Value} {w : World} {op : BinOp} {t t2 : TypeId} {x y : Operand} {u v r : Value} (hr : ∀ w : World, (binOp op t u v).run P w = .ok r w) (hg : ∀ w : World, (eqGuard op t x y u v).run P w = .ok () w) (ho : o.op = .binOp op t x y t2) (hx : ev x = u) (hy : ev y = v) : (execOp ev o).run P w = .ok (.value r) w := by
  unfold execOp
  simp only [ho, hx, hy, Sem.run_bind, Sem.run_pure, Result.andThen_ok, hg, hr]
theorem eqz8 (w : World) : (Op.equalIn 10000 64 (.agg #[.int .u8 0, .int .u8 0, .int .u8 0, .int .u8 0, .int .u8 0, .int .u8 0, .int .u8 0, .int .u8 0]) (.agg #[.int .u8 0, .int .u8 0, .int .u8 0, .int .u8 0, .int .u8 0, .int .u8 0, .int .u8 0, .int .u8 0])).run Try.prog w = .ok true w := run_equalIn_bytes w 9998 64 5 8 Try.underlying64 Try.underlying5 sizeOf5 (zeroL 8) (zeroL 8) rfl rfl
theorem zcell8 {w : World} {g : Nat} (h : w.rowIs g 64 8 (bytes (zeroL 8))) (k : Nat) (hk : k < 8) : w.cell? ⟨g, k, none⟩ = some (.int .u8 0) := by
  rw [h.cell hk]
  have : ∀ k : Fin 8, bytes (zeroL 8) k.1 = .int .u8 0 := fun k => by
    have e : ∀ k : Fin 8, nth (zeroL 8) k.1 = 0 := by decide +kernel
    unfold bytes
    rw [e k]
    rfl
  rw [this ⟨k, hk⟩]
section
variable {p q : Nat → Prop} {w : World} {A B : Option Addr} {n c m d : Nat} {M : List (List F)} {ws : List F}
set_option maxRecDepth 100000 in
set_option maxHeartbeats 1000000 in
theorem law18_ne (h : Byt p w A n c ws) (g : Blks q w B m d M) (h1 : ¬ 40 < n) (h2 : ¬ 40 < m) (hne : ¬ n = m) : Calls Try.prog 18 #[.slice A n c, .slice B m d] w fun e w' => e = .returned (.bool true) ∧ Below w.heap.size w w' := by
  have hn := h.row.len
  have hm := g.len
  have ht : ((n : Int) != (m : Int)) = true := by simp; omega
  have heq := eqz8
  replace hne := Lib.hid hne
  go_enter Try.func18, Try.ntmps18
  go_wp2_with (first | (go_at_call 65; refine (awake04_any _).mono ?_; rintro e w1 ⟨rfl, hb1⟩; have hh1 := h.below hb1; have gg1 := g.below hb1) | (go_at_call 68; (with_reducible refine (combine_arg hh1 gg1 hne.out).mono ?_); rintro e w2 ⟨rfl, hb2⟩; have hB2 := below_then2 hb1 hb2; have hz2 := zero_row8 w2 64) | (with_reducible refine wpl_store_agg rfl rfl rfl rfl hz2 (info64' z8) (by rw [agc_size, z8]; decide) (agc_one _) ?_; intro w3 hr3 hg3 hz3; have hb3 : Below w2.heap.size w2 w3 := (((Below.refl _ w2).alloc (Nat.le_refl _) _).grown hg3 (by simp) (fun k e => by cases e; exact Nat.le_refl _)); have hr3' := row_put z8 hr3; have q0 := zcell8 hr3' 0 (by decide); have q1 := zcell8 hr3' 1 (by decide); have q2 := zcell8 hr3' 2 (by decide); have q3 := zcell8 hr3' 3 (by decide); have q4 := zcell8 hr3' 4 (by decide); have q5 := zcell8 hr3' 5 (by decide); have q6 := zcell8 hr3' 6 (by decide); have q7 := zcell8 hr3' 7 (by decide); have hB3 := below_then2 hB2 hb3))
  go_ret
  exact ⟨rfl, hB3⟩
set_option maxRecDepth 100000 in
set_option maxHeartbeats 2000000 in
theorem law18_eq (h : Byt p w A n c ws) (g : Blks q w B n d M) (h1 : ¬ 40 < n) : Calls Try.prog 18 #[.slice A n c, .slice B n d] w fun e w' => e = .returned (.bool true) ∧ Below w.heap.size w w' := by
  have hn := h.row.len
  have ht : ((n : Int) != (n : Int)) = false := by simp
  have hcl := comb_length ws M
  have hce := fun w => eql64 hcl hcl w
  rw [decide_eq_true rfl] at hce
  go_enter Try.func18, Try.ntmps18
  go_wp2_with (first | (go_at_call 65; refine (awake04_any _).mono ?_; rintro e w1 ⟨rfl, hb1⟩; have hh1 := h.below hb1; have gg1 := g.below hb1) | (go_at_call 68; (with_reducible refine (combine_any hh1 gg1 (by omega)).mono ?_); rintro e w2 ⟨rfl, hb2⟩; have hB2 := below_then2 hb1 hb2; have hz2 := zero_row8 w2 64) | (with_reducible refine wpl_store_agg rfl rfl rfl rfl hz2 (info64' hcl) (by rw [agc_size, hcl]; decide) (agc_one _) ?_; intro w3 hr3 hg3 hz3; have hb3 : Below w2.heap.size w2 w3 := (((Below.refl _ w2).alloc (Nat.le_refl _) _).grown hg3 (by simp) (fun k e => by cases e; exact Nat.le_refl _)); have hr5 := row_put hcl hr3; have hB5 := below_then2 hB2 hb3))
  obtain ⟨g5, hg5⟩ : ∃ g5, g5 = w2.heap.size := ⟨_, rfl⟩
  obtain ⟨wq, rfl⟩ : ∃ x : World, x = w3 := ⟨_, rfl⟩
  rw [← hg5] at hr5 ⊢
  clear hg5
  refine AnyE.region (fun w' => w'.rowIs g5 64 8 (bytes (comb ws M)) ∧ Below w.heap.size w w') 9 (by kernel_rfl) ?_
  have hH : (fun w' => w'.rowIs g5 64 8 (bytes (comb ws M)) ∧ Below w.heap.size w w') wq.drew := ⟨hr5.of_block rfl, below_drewN hB5 1⟩
  refine AnyE.take0 0 (v := ?_) rfl (by decide) (by kernel_rfl) (by kernel_rfl) (by kernel_rfl) (by kernel_rfl) (fun _ _ _ h => h) (by rfl) (fun _ => hH) ?_ ?_
  rotate_left; · (intro w; go_simp; try with_reducible rfl)
  (try simp only [List.getElem_toArray, List.getElem_cons_succ, List.getElem_cons_zero, Act.put, List.setIfInBounds_toArray, List.set_cons_zero, List.set_cons_succ])
  refine AnyE.take0 1 (v := ?_) rfl (by decide) (by kernel_rfl) (by kernel_rfl) (by kernel_rfl) (by kernel_rfl) (fun _ _ _ h => h) (by rfl) (fun _ => hH) ?_ ?_
  rotate_left; · (intro w; go_simp; try with_reducible rfl)
  (try simp only [List.getElem_toArray, List.getElem_cons_succ, List.getElem_cons_zero, Act.put, List.setIfInBounds_toArray, List.set_cons_zero, List.set_cons_succ])
  refine AnyE.take0 2 (v := ?_) rfl (by decide) (by kernel_rfl) (by kernel_rfl) (by kernel_rfl) (by kernel_rfl) (fun _ _ _ h => h) (by rfl) (fun _ => hH) ?_ ?_
  rotate_left; · (intro w; go_simp; try with_reducible rfl)
  (try simp only [List.getElem_toArray, List.getElem_cons_succ, List.getElem_cons_zero, Act.put, List.setIfInBounds_toArray, List.set_cons_zero, List.set_cons_succ])
  refine AnyE.take 3 [3] (v := ?_) rfl (by decide) (by kernel_rfl) (by kernel_rfl) (by kernel_rfl) (by kernel_rfl) (by kernel_rfl) (by kernel_rfl) (fun _ _ _ h => h) (by rfl) hH ?_ ?_
  rotate_left; · (intro wz hSw; simp only [List.getElem_toArray, List.getElem_cons_succ, List.getElem_cons_zero, Act.put, List.setIfInBounds_toArray, List.set_cons_zero, List.set_cons_succ]; refine exec_load_agg (x := .tmp 5) (b := g5) (off := 0) ?_ ?_ Try.underlying64 rfl (info64' hcl) (fun k hk => row_agc hSw.1 hcl hk); rfl; rfl)
  (try simp only [List.getElem_toArray, List.getElem_cons_succ, List.getElem_cons_zero, Act.put, List.setIfInBounds_toArray, List.set_cons_zero, List.set_cons_succ])
  refine AnyE.take0 4 (v := ?_) rfl (by decide) (by kernel_rfl) (by kernel_rfl) (by kernel_rfl) (by kernel_rfl) (fun _ _ _ h => h) (by rfl) (fun _ => hH) ?_ ?_
  rotate_left; · (intro w; go_simp; try with_reducible rfl)
  (try simp only [List.getElem_toArray, List.getElem_cons_succ, List.getElem_cons_zero, Act.put, List.setIfInBounds_toArray, List.set_cons_zero, List.set_cons_succ])
  refine AnyE.take0 5 (v := ?_) rfl (by decide) (by kernel_rfl) (by kernel_rfl) (by kernel_rfl) (by kernel_rfl) (fun _ _ _ h => h) (by rfl) (fun _ => hH) ?_ ?_
  rotate_left; · (intro w; go_simp; try with_reducible rfl)
  (try simp only [List.getElem_toArray, List.getElem_cons_succ, List.getElem_cons_zero, Act.put, List.setIfInBounds_toArray, List.set_cons_zero, List.set_cons_succ])
  refine AnyE.one 6 rfl (by kernel_rfl) (fun K hK => ?_)
  rw [if_pos (show _ = true by rfl)]
  go_simp
  go_at_call 69; (with_reducible refine (rcombine_any (h.below hH.2) (g.below hH.2)).mono ?_); rintro e w6 ⟨rfl, hb6⟩
  replace hH := And.intro (hH.1.of_block (hb6.block _ hH.1.lt)) (below_then2 hH.2 hb6)
  refine hK.out _ _ (fun _ => hH) ?_
  clear hK K
  (try simp only [List.getElem_toArray, List.getElem_cons_succ, List.getElem_cons_zero, Act.put, List.setIfInBounds_toArray, List.set_cons_zero, List.set_cons_succ])
  refine AnyE.take0 7 (v := ?_) rfl (by decide) (by kernel_rfl) (by kernel_rfl) (by kernel_rfl) (by kernel_rfl) (fun _ _ _ h => h) (by rfl) (fun _ => hH) ?_ ?_
  rotate_left; · (intro wz; simp only [List.getElem_toArray, List.getElem_cons_succ, List.getElem_cons_zero, Act.put, List.setIfInBounds_toArray, List.set_cons_zero, List.set_cons_succ]; refine exec_binL (t2 := 64) (x := .tmp 38) (y := .tmp 41) (r := .bool true) hce (guard64 _ _ _ _ _) ?_ ?_ ?_; rfl; rfl; rfl)
  (try simp only [List.getElem_toArray, List.getElem_cons_succ, List.getElem_cons_zero, Act.put, List.setIfInBounds_toArray, List.set_cons_zero, List.set_cons_succ])
  refine AnyE.take0 8 (v := ?_) rfl (by decide) (by kernel_rfl) (by kernel_rfl) (by kernel_rfl) (by kernel_rfl) (fun _ _ _ h => h) (by rfl) (fun _ => hH) ?_ ?_
  rotate_left; · (intro w; go_simp; try with_reducible rfl)
  (try simp only [List.getElem_toArray, List.getElem_cons_succ, List.getElem_cons_zero, Act.put, List.setIfInBounds_toArray, List.set_cons_zero, List.set_cons_succ])
  refine AnyE.one 9 rfl (by kernel_rfl) (fun K hK => ?_)
  go_simp
  refine hK.out _ _ (fun e => Bool.noConfusion (show true = false from e)) ?_
  clear hK K
  (try simp only [List.getElem_toArray, List.getElem_cons_succ, List.getElem_cons_zero, Act.put, List.setIfInBounds_toArray, List.set_cons_zero, List.set_cons_succ])
  refine AnyE.done (by kernel_rfl) ?_ _
  go_wp2
  go_ret
  exact ⟨rfl, hH.2⟩
theorem law18 (h : Byt p w A n c ws) (g : Blks q w B m d M) : Calls Try.prog 18 #[.slice A n c, .slice B m d] w fun e w' => e = .returned (.bool true) ∧ Below w.heap.size w w' := by
  have hn := h.row.len
  have hm := g.len
  by_cases h1 : 40 < n
  · go_enter Try.func18, Try.ntmps18
    go_wp2_with (go_at_call 65; refine (awake04_any _).mono ?_; rintro e w1 ⟨rfl, hb1⟩)
    all_goals (go_ret; exact ⟨rfl, hb1⟩)
  by_cases h2 : 40 < m
  · go_enter Try.func18, Try.ntmps18
    go_wp2_with (go_at_call 65; refine (awake04_any _).mono ?_; rintro e w1 ⟨rfl, hb1⟩)
    all_goals (go_ret; exact ⟨rfl, hb1⟩)
  by_cases hne : n = m
  · subst hne
    exact law18_eq h g h1
  · exact law18_ne h g h1 h2 hne
end
end Go.Proofs.Ytifhjigkljdkmaa
namespace Go.Proofs.Ytifhjigkljdkmaa
open Go.RowKit
open Gf (F)
set_option linter.unusedSimpArgs false
set_option linter.unusedVariables false
/-- How many of the first k are marked. -/
def cntB (b : List Bool) : Nat → Nat
  | 0 => 0
  | k + 1 => cntB b k + (if ntb b k = true then 1 else 0)
theorem cntB_le (b : List Bool) : ∀ k, cntB b k ≤ k
  | 0 => Nat.le_refl _
  | k + 1 => by
    have := cntB_le b k
    unfold cntB
    split <;> omega
section
variable {p q : Nat → Prop} {w : World} {A : Option Addr} {n c : Nat} {b : List Bool}
set_option maxRecDepth 100000 in
theorem count_any (h : Bools p w A n c b) : Calls Try.prog 72 #[.slice A n c] w fun e w' => e = .returned (.int .i64 (cntB b n : Int)) ∧ w = w' := by
  have hn := h.row.len
  go_enter Try.func72, Try.ntmps72
  go_wp2
  go_loop [3, 4] (fun v x => ∃ k : Nat, k ≤ n ∧ v = .int .i64 (cntB b k : Int) ∧ x = .int .i64 k) (fun _ x => n - (intOf x).toNat)
  case atStart => exact ⟨0, by omega, rfl, rfl⟩
  case round =>
    obtain ⟨k, hk, rfl, rfl⟩ := hrel
    by_cases hlt : k < n
    · obtain ⟨b1, o, rfl, _, _, hc⟩ := h.row.at_ (by omega)
      have e1 := hc k hlt
      clear hc
      have hle := cntB_le b k
      have d1 : (0 : Int) ≤ (k : Int) := Int.natCast_nonneg _
      have d2 : (k : Int) < (n : Int) := by omega
      obtain ⟨y, hy⟩ : ∃ y, y = cntB b k := ⟨_, rfl⟩
      rw [← hy] at hle ⊢
      cases hb : ntb b k with
      | true =>
        rw [hb] at e1
        have hs : Hid (cntB b (k + 1) = y + 1) := by show _ = _; rw [cntB, if_pos hb, hy]
        replace hy := Lib.hid hy
        go_wp2
        go_round
        case rel => exact ⟨k + 1, by omega, by rw [hs.out]; go_num, by go_num⟩
        case measure => simp [intOf]; omega
      | false =>
        rw [hb] at e1
        have hs : Hid (cntB b (k + 1) = y) := by show _ = _; rw [cntB, if_neg (by rw [hb]; decide), hy]; rfl
        replace hy := Lib.hid hy
        go_wp2
        go_round
        case rel => exact ⟨k + 1, by omega, by rw [hs.out], by go_num⟩
        case measure => simp [intOf]; omega
    · obtain rfl : k = n := by omega
      go_wp2
      go_ret
      exact ⟨rfl, rfl⟩
end
/-- The cells of an array of 13 blocks. -/
structure Arr13 (cs : Array Value) (M : List (List F)) : Prop where
  size : cs.size = 104
  len : M.length = 13
  row : ∀ j, j < 13 → (mrow M j).length = 8
  cell : ∀ idx, idx < 104 → cs[idx]? = some (.int .u8 ((ent M (idx / 8) (idx % 8)).toNat : Int))
theorem Arr13.blks {cs : Array Value} {M : List (List F)} (h : Arr13 cs M) (w : World) (t : TypeId) : Blks (fun _ => True) (w.alloc (.cells cs t)) (some ⟨w.heap.size, 0, none⟩) 13 13 M := by
  have hr : (w.alloc (.cells cs t)).rowIs w.heap.size t (13 * 8) fun idx => .int .u8 ((ent M (idx / 8) (idx % 8)).toNat : Int) := by
    have := World.rowIs_alloc w cs t _ fun i hi => h.cell i (by rw [← h.size]; exact hi)
    rwa [h.size] at this
  exact ⟨h.len, Elm.of_rowIs hr trivial (by unfold maxLen; omega) (fun j hj => by rw [agc_size, h.row j hj]) (fun j _ => agc_one _) (fun j hj k hk => by
    rw [agc_at (by rw [h.row j hj]; exact hk)]
    have e1 : (j * 8 + k) / 8 = j := by omega
    have e2 : (j * 8 + k) % 8 = k := by omega
    rw [e1, e2]
    rfl)⟩
set_option maxRecDepth 100000 in
set_option maxHeartbeats 1000000 in
theorem group04_any {cs : Array Value} {M : List (List F)} (h : Arr13 cs M) (nu : Nat) (hnu : nu < 256) (w : World) : Calls Try.prog 70 #[.agg cs, .int .u8 (nu : Int)] w fun e w' => ∃ A' c', e = .returned (.slice A' (1 + nu % 13 + 3) c') ∧ OwnB w' w.heap.size (.slice A' (1 + nu % 13 + 3) c') (1 + nu % 13 + 3) (grpM (M.take (1 + nu % 13))) ∧ Below w.heap.size w w' := by
  have hb0 : Below w.heap.size w (w.alloc (.cells cs 95)) := (Below.refl _ _).alloc (Nat.le_refl _) _
  have hB := h.blks w 95
  have hp := hB.pre (k := 1 + nu % 13) (by omega)
  have hg := group03_any hp (by omega)
  have hs := size_alloc1 w (.cells cs 95)
  obtain ⟨k, hk⟩ : ∃ k, k = 1 + nu % 13 := ⟨_, rfl⟩
  have hk13 : k ≤ 13 := by omega
  have hrem : (1 : Int) + (nu : Int) % 13 = (k : Int) := by omega
  have d1 : (0 : Int) ≤ (k : Int) := Int.natCast_nonneg _
  have d2 : (k : Int) ≤ 13 := by omega
  have hs2 : (k : Int).toNat = k := rfl
  rw [← hk] at hg ⊢
  replace hk := Lib.hid hk
  go_enter Try.func70, Try.ntmps70
  go_wp2_with (go_at_call 78; (with_reducible refine hg.mono ?_); rintro e w2 ⟨A2, c2, rfl, hO2, hb2⟩)
  go_ret
  exact ⟨A2, c2, rfl, hO2.lower hb0.size, below_then2 hb0 hb2⟩
/-- Is piece j marked by one of the first k numbers? -/
def markK (wd : Nat) (x : List F) (k j : Nat) : Bool := (List.range k).any fun i => decide ((nth x i).toNat < 240) && decide ((nth x i).toNat % wd = j)
def marksL (wd : Nat) (x : List F) : List Bool := (List.range wd).map (markK wd x 3)
theorem markK_succ (wd : Nat) (x : List F) (k j : Nat) : markK wd x (k + 1) j = (markK wd x k j || (decide ((nth x k).toNat < 240) && decide ((nth x k).toNat % wd = j))) := by
  unfold markK
  rw [List.range_succ, List.any_append]
  simp
theorem marksL_at {wd : Nat} {x : List F} {j : Nat} (h : j < wd) : ntb (marksL wd x) j = markK wd x 3 j := by
  unfold ntb marksL
  simp [List.getD_eq_getElem?_getD, h]
structure Arr3 (cs : Array Value) (x : List F) : Prop where
  size : cs.size = 3
  len : x.length = 3
  cell : ∀ i, i < 3 → cs[i]? = some (.int .u8 ((nth x i).toNat : Int))
theorem info4h : (Try.prog.info? 4).map (fun i => (i.zero, i.size, i.bytes)) = some (some (.bool false), 1, 1) := by kernel_rfl
set_option maxRecDepth 100000 in
set_option maxHeartbeats 1000000 in
theorem marks_any {cs : Array Value} {x : List F} {wd : Nat} (h : Arr3 cs x) (h4 : 4 ≤ wd) (h16 : wd ≤ 16) (w : World) : Calls Try.prog 71 #[.int .i64 (wd : Int), .agg cs] w fun e w' => ∃ g, e = .returned (.slice (some ⟨g, 0, none⟩) wd wd) ∧ w.heap.size ≤ g ∧ w'.rowIs g 4 wd (fun j => .bool (ntb (marksL wd x) j)) ∧ Below w.heap.size w w' := by
  have hb0 : Below w.heap.size w (w.alloc (.cells cs 96)) := (Below.refl _ _).alloc (Nat.le_refl _) _
  have hs0 := size_alloc1 w (.cells cs 96)
  have hrx : (w.alloc (.cells cs 96)).rowIs w.heap.size 96 3 fun i => .int .u8 ((nth x i).toNat : Int) := by
    have := World.rowIs_alloc w cs 96 _ fun i hi => h.cell i (by rw [← h.size]; exact hi)
    rwa [h.size] at this
  have hw0 : ¬ (wd : Int) = 0 := by omega
  go_enter Try.func71, Try.ntmps71
  go_wp2_with (at_make; refine wpl_make (n := wd) rfl rfl Try.underlying67 info4h rfl rfl rfl (by omega) (by omega) ?_; intro w1 g hrow hb1 hg; have hB1 := below_then2 hb0 hb1; have hrx1 := hrx.of_block (hb1.block _ (by omega)))
  have hgne : w.heap.size ≠ g := by omega
  have hgl : w.heap.size ≤ g := by omega
  go_loopw [6] (fun v wr => ∃ k : Nat, k ≤ 3 ∧ v = .int .i64 k ∧ wr.rowIs g 4 wd (fun j => .bool (markK wd x k j)) ∧ wr.rowIs w.heap.size 96 3 (fun i => .int .u8 ((nth x i).toNat : Int)) ∧ Below w.heap.size w wr) (fun v _ => 3 - (intOf v).toNat)
  case atStart => exact ⟨0, by omega, rfl, hrow, hrx1, hB1⟩
  case round =>
    obtain ⟨k, hk, rfl, hr, hx, hbw⟩ := hrel
    by_cases hlt : k < 3
    · obtain ⟨y, hy⟩ : ∃ y, y = (nth x k).toNat := ⟨_, rfl⟩
      have e1 : wr.cell? ⟨w.heap.size, k, none⟩ = some (.int .u8 (y : Int)) := by rw [hy]; exact hx.cell hlt
      have d1 : (0 : Int) ≤ (k : Int) := Int.natCast_nonneg _
      have d2 : (k : Int) < 3 := by omega
      have hms := Lib.hid (fun j => markK_succ wd x k j)
      by_cases hy2 : y < 240
      · have c1 : (y : Int) < 240 := by omega
        obtain ⟨t, ht⟩ : ∃ t, t = y % wd := ⟨_, rfl⟩
        have htw : t < wd := by rw [ht]; exact Nat.mod_lt _ (by omega)
        have hrem : (y : Int) % (wd : Int) = (t : Int) := by rw [ht]; rfl
        have e2 : wr.cell? ⟨g, t, none⟩ = some (.bool (markK wd x k t)) := hr.cell htw
        have e3 := hr.frozen t
        have d3 : (0 : Int) ≤ (t : Int) := Int.natCast_nonneg _
        have d4 : (t : Int) < (wd : Int) := by omega
        replace hy := Lib.hid hy
        replace ht := Lib.hid ht
        replace hr := Lib.hid hr
        replace hx := Lib.hid hx
        go_wp2
        go_roundw
        case rel =>
          refine ⟨k + 1, by omega, by go_num, (hr.out.set t (.bool true)).congr fun j _ => ?_, hx.out.setOther hgne _, hbw.setCell (show w.heap.size ≤ g from hgl) _⟩
          rw [hms.out, ← hy.out, decide_eq_true hy2, ← ht.out]
          by_cases e : j = t
          · rw [if_pos e, e]; simp
          · rw [if_neg e]; simp [Ne.symm e]
        case measure => simp [intOf]; omega
      · have c1 : ¬ (y : Int) < 240 := by omega
        replace hy := Lib.hid hy
        replace hr := Lib.hid hr
        go_wp2
        go_roundw
        case rel => exact ⟨k + 1, by omega, by go_num, hr.out.congr fun j _ => by rw [hms.out, decide_eq_false (by rw [← hy.out]; exact hy2)]; simp, hx, hbw⟩
        case measure => simp [intOf]; omega
    · obtain rfl : k = 3 := by omega
      go_wp2
      go_ret
      exact ⟨g, rfl, by omega, hr.congr fun j hj => by rw [marksL_at hj], hbw⟩
end Go.Proofs.Ytifhjigkljdkmaa
namespace Go.Proofs.Ytifhjigkljdkmaa
open Go.RowKit
open Gf (F)
set_option linter.unusedSimpArgs false
set_option linter.unusedVariables false
theorem decI_length (wd : Nat) (M : List (List F)) (b : List Bool) : ∀ k, (decI wd M b k).length = M.length
  | 0 => rfl
  | k + 1 => by
    rw [decI]
    split
    · rw [List.length_set]; exact decI_length wd M b k
    · exact decI_length wd M b k
theorem decI_row (wd : Nat) (M : List (List F)) (b : List Bool) : ∀ k, k ≤ M.length → ∀ i, i < M.length → mrow (decI wd M b k) i = if i < k ∧ ntb b i = true then comb (wts (wd - 3) (fromF (helpL wd b wd)) i) (helpB M (helpL wd b wd)) else mrow M i
  | 0, _, i, _ => by rw [if_neg (fun h => absurd h.1 (Nat.not_lt_zero _))]; rfl
  | k + 1, hk, i, hi => by
    have ih := decI_row wd M b k (by omega) i hi
    rw [decI]
    by_cases hb : ntb b k = true
    · rw [if_pos hb, mrow_set (by rw [decI_length]; omega)]
      by_cases e : i = k
      · subst e; rw [if_pos rfl, if_pos ⟨by omega, hb⟩]
      · rw [if_neg e, ih]
        by_cases h2 : i < k ∧ ntb b i = true
        · rw [if_pos h2, if_pos ⟨by omega, h2.2⟩]
        · rw [if_neg h2, if_neg (fun h => h2 ⟨by omega, h.2⟩)]
    · rw [if_neg hb, ih]
      by_cases h2 : i < k ∧ ntb b i = true
      · rw [if_pos h2, if_pos ⟨by omega, h2.2⟩]
      · rw [if_neg h2, if_neg (fun h => h2 ⟨by
          rcases Nat.lt_succ_iff_lt_or_eq.1 h.1 with h3 | rfl
          · exact h3
          · exact absurd h.2 hb, h.2⟩)]
theorem helpB_row {M : List (List F)} {l : List Int} {r : Nat} (h : r < l.length) : mrow (helpB M l) r = mrow M (fromF l r) := by
  unfold helpB mrow fromF
  rw [List.getD_eq_getElem?_getD, List.getElem?_map, List.getElem?_eq_getElem h, nti_of_lt h]
  rfl
theorem help_good {wd r : Nat} {b : List Bool} (h : r < (helpL wd b wd).length) : ntb b (fromF (helpL wd b wd) r) = false := by
  have hm : nti (helpL wd b wd) r ∈ helpL wd b wd := nti_mem.2 ⟨r, h, rfl⟩
  unfold helpL at hm
  have hm2 := List.mem_of_mem_take hm
  unfold sel at hm2
  obtain ⟨t, ht, e⟩ := List.mem_map.1 hm2
  have h2 := (List.mem_filter.1 ht).2
  have e2 : fromF (helpL wd b wd) r = t := by
    unfold fromF helpL sel
    rw [← e]
    rfl
  rw [e2]
  unfold goodP at h2
  simpa using h2
/-- The law. -/
theorem restored {D P : List (List F)} {b : List Bool} (h1 : 1 ≤ D.length) (h13 : D.length ≤ 13) (hD : ∀ i, i < D.length → (mrow D i).length = 8) (hP : P.length = D.length + 3)
    (hsame : ∀ i, i < D.length + 3 → ntb b i = false → mrow P i = mrow (grpM D) i) (hl : ¬ (helpL (D.length + 3) b (D.length + 3)).length < D.length + 3 - 3) : decI (D.length + 3) P b (D.length + 3) = grpM D := by
  obtain ⟨hlen, hok⟩ := help_ok hl
  have e3 : D.length + 3 - 3 = D.length := by omega
  rw [e3] at hlen hok
  have hfo : FromOk D.length (fromF (helpL (D.length + 3) b (D.length + 3))) := from_ok hok
  apply mrow_ext (by rw [decI_length, hP, grpM_length])
  intro i hi
  rw [decI_length, hP] at hi
  rw [decI_row _ _ _ _ (by omega) i (by omega)]
  by_cases hb : ntb b i = true
  · rw [if_pos ⟨hi, hb⟩, e3]
    refine comb_grp hD hfo (wts_wp (by omega) hfo) hi fun r hr => ?_
    rw [helpB_row (by omega)]
    exact hsame _ (hfo.lt r hr) (help_good (by omega))
  · rw [if_neg (fun h => hb h.2)]
    exact hsame i hi (by simpa using hb)
/-! ### At most three marks -/
theorem sel_or (P Q : Nat → Bool) : ∀ k, (sel (fun j => P j || Q j) k).length ≤ (sel P k).length + (sel Q k).length
  | 0 => by simp [sel]
  | k + 1 => by
    have ih := sel_or P Q k
    cases hP : P k with
    | true =>
      rw [sel_yes (P := fun j => P j || Q j) (by simp [hP]), sel_yes hP, List.length_append, List.length_append]
      cases hQ : Q k with
      | true => rw [sel_yes hQ, List.length_append]; simp; omega
      | false => rw [sel_no hQ]; simp; omega
    | false =>
      rw [sel_no hP]
      cases hQ : Q k with
      | true => rw [sel_yes (P := fun j => P j || Q j) (by simp [hQ]), sel_yes hQ, List.length_append, List.length_append]; simp; omega
      | false => rw [sel_no (P := fun j => P j || Q j) (by simp [hP, hQ]), sel_no hQ]; exact ih
theorem sel_one (t : Bool) (c : Nat) : ∀ k, (sel (fun j => t && decide (c = j)) k).length ≤ if c < k then 1 else 0
  | 0 => by simp [sel]
  | k + 1 => by
    have ih := sel_one t c k
    by_cases e : (t && decide (c = k)) = true
    · rw [sel_yes (P := fun j => t && decide (c = j)) e, List.length_append]
      have hc : c = k := by simp at e; exact e.2
      rw [if_neg (by omega)] at ih
      rw [if_pos (by omega)]
      simp only [List.length_cons, List.length_nil]
      omega
    · rw [sel_no (P := fun j => t && decide (c = j)) (by simpa using e)]
      refine Nat.le_trans ih ?_
      split <;> split <;> omega
theorem sel_compl (b : List Bool) : ∀ k, (sel (ntb b) k).length + (sel (goodP b) k).length = k
  | 0 => by simp [sel]
  | k + 1 => by
    have ih := sel_compl b k
    cases hb : ntb b k with
    | true => rw [sel_yes hb, sel_no (P := goodP b) (by unfold goodP; rw [hb]; rfl), List.length_append]; simp; omega
    | false => rw [sel_no hb, sel_yes (P := goodP b) (by unfold goodP; rw [hb]; rfl), List.length_append]; simp; omega
theorem sel_congr {P Q : Nat → Bool} : ∀ k, (∀ j, j < k → P j = Q j) → sel P k = sel Q k
  | 0, _ => rfl
  | k + 1, h => by
    have ih := sel_congr k (fun j hj => h j (by omega))
    cases hQ : Q k with
    | true => rw [sel_yes hQ, sel_yes (P := P) (by rw [h k (by omega), hQ]), ih]
    | false => rw [sel_no hQ, sel_no (P := P) (by rw [h k (by omega), hQ]), ih]
theorem marks_le (wd : Nat) (x : List F) : (sel (ntb (marksL wd x)) wd).length ≤ 3 := by
  rw [sel_congr wd (fun j hj => marksL_at hj)]
  have e : (markK wd x 3) = fun j => ((fun j => (markK wd x 0 j || (decide ((nth x 0).toNat < 240) && decide ((nth x 0).toNat % wd = j))) || (decide ((nth x 1).toNat < 240) && decide ((nth x 1).toNat % wd = j))) j || (decide ((nth x 2).toNat < 240) && decide ((nth x 2).toNat % wd = j))) := by
    funext j
    rw [markK_succ, markK_succ, markK_succ]
  rw [e]
  have h3 := sel_or (fun j => (markK wd x 0 j || (decide ((nth x 0).toNat < 240) && decide ((nth x 0).toNat % wd = j))) || (decide ((nth x 1).toNat < 240) && decide ((nth x 1).toNat % wd = j))) (fun j => decide ((nth x 2).toNat < 240) && decide ((nth x 2).toNat % wd = j)) wd
  have h2 := sel_or (fun j => markK wd x 0 j || (decide ((nth x 0).toNat < 240) && decide ((nth x 0).toNat % wd = j))) (fun j => decide ((nth x 1).toNat < 240) && decide ((nth x 1).toNat % wd = j)) wd
  have h1 := sel_or (markK wd x 0) (fun j => decide ((nth x 0).toNat < 240) && decide ((nth x 0).toNat % wd = j)) wd
  have h0 : (sel (markK wd x 0) wd).length = 0 := by
    rw [show markK wd x 0 = fun _ => false from rfl]
    unfold sel
    simp
  have o : ∀ t c, (sel (fun j => t && decide (c = j)) wd).length ≤ 1 := fun t c => by
    refine Nat.le_trans (sel_one t c wd) ?_
    split <;> omega
  have o0 := o (decide ((nth x 0).toNat < 240)) ((nth x 0).toNat % wd)
  have o1 := o (decide ((nth x 1).toNat < 240)) ((nth x 1).toNat % wd)
  have o2 := o (decide ((nth x 2).toNat < 240)) ((nth x 2).toNat % wd)
  exact Nat.le_trans h3 (by omega)
theorem marks_help (wd : Nat) (x : List F) : ¬ (helpL wd (marksL wd x) wd).length < wd - 3 := by
  have h1 := marks_le wd x
  have h2 := sel_compl (marksL wd x) wd
  unfold helpL
  rw [List.length_take]
  omega
end Go.Proofs.Ytifhjigkljdkmaa
namespace Go.Proofs.Ytifhjigkljdkmaa
open Go.RowKit Go.ChangeShapes Go.WideShapes Go.Deep
open Gf (F)
set_option linter.unusedSimpArgs false
set_option linter.unusedVariables false
set_option maxRecDepth 100000
section
variable {H : Type} {enc : TypeId × Value → H} {W : World} {base : Nat} {spare : Nat → Bool} {held : Bool} {r : Reach} {b0 : Nat} {v : Value} {d : DataW H} {ps : List MemPlace}
theorem cells_95 : Try.prog.cellsOf 95 = 104 := by kernel_rfl
theorem cells_96 : Try.prog.cellsOf 96 = 3 := by kernel_rfl
theorem one_of_drop' {l : List Value} {j : Nat} {u : Value} (h : (l.drop j).take 1 = [u]) : l[j]? = some u := by
  have h2 := congrArg (fun m : List Value => m[0]?) h
  simpa using h2
theorem open96 (hval : Value.okWide Try.prog W r b0 96 v) (hd : DataW.Trod enc Try.prog W base spare held 96 v d ps) : ∃ (cs : Array Value) (x : List F), v = .agg cs ∧ Arr3 cs x := by
  simp only [Value.okWide, Try.underlying96] at hval
  obtain ⟨cs, rfl, hsz, _⟩ := hval
  rw [cells_96] at hsz
  obtain ⟨fuel, hf⟩ := hd
  have hcs : (Value.agg cs).cells = cs := rfl
  rw [hcs] at hf
  obtain ⟨xs, m, _, _, _, hl, hel⟩ := DataW.trod_array Try.underlying96 hf
  have each : ∀ t, t < 3 → ∃ z : Int, cs[t]? = some (.int .u8 z) ∧ (Lit.int .u8 z).wf = true := fun t ht => by
    have h := hel t ht
    rw [List.getElem?_eq_getElem (by omega), cells_u8, Nat.mul_one] at h
    obtain ⟨z, h3, _, h4⟩ := DataW.trod_int Try.underlying5 h
    refine ⟨z, ?_, h4⟩
    have h5 := one_of_drop' h3
    simpa using h5
  obtain ⟨z, hz⟩ := choose_lt each
  refine ⟨cs, mkr 3 fun j => byteOf (z j), rfl, hsz, mkr_length _ _, fun j hj => ?_⟩
  rw [nth_mkr _ hj, (hz j hj).1]
  unfold byteOf
  rw [u8_lit (hz j hj).2]
theorem open95 (hval : Value.okWide Try.prog W r b0 95 v) (hd : DataW.Trod enc Try.prog W base spare held 95 v d ps) : ∃ (cs : Array Value) (M : List (List F)), v = .agg cs ∧ Arr13 cs M := by
  simp only [Value.okWide, Try.underlying95] at hval
  obtain ⟨cs, rfl, hsz, _⟩ := hval
  rw [cells_95] at hsz
  obtain ⟨fuel, hf⟩ := hd
  have hcs : (Value.agg cs).cells = cs := rfl
  rw [hcs] at hf
  obtain ⟨xs, m, _, _, _, hl, hel⟩ := DataW.trod_array Try.underlying95 hf
  have each : ∀ t, t < 104 → ∃ z : Int, cs[t]? = some (.int .u8 z) ∧ (Lit.int .u8 z).wf = true := fun t ht => by
    have h := hel (t / 8) (by omega)
    rw [List.getElem?_eq_getElem (by omega), cells_64] at h
    obtain ⟨ys, m2, _, _, _, hl2, hel2⟩ := DataW.trod_array Try.underlying64 h
    have h2 := hel2 (t % 8) (by omega)
    rw [List.getElem?_eq_getElem (by omega), cells_u8, Nat.mul_one] at h2
    obtain ⟨z, h3, _, h4⟩ := DataW.trod_int Try.underlying5 h2
    refine ⟨z, ?_, h4⟩
    have h5 := one_of_drop' h3
    rw [List.getElem?_take_of_lt (by omega), List.getElem?_drop] at h5
    have e : t / 8 * 8 + t % 8 = t := by omega
    rw [e] at h5
    simpa using h5
  obtain ⟨z, hz⟩ := choose_lt each
  refine ⟨cs, mkm 13 8 fun j k => byteOf (z (j * 8 + k)), rfl, hsz, mkm_length _ _ _, fun j hj => by rw [mrow_mkm _ hj, mkr_length], fun idx hidx => ?_⟩
  have e : ent (mkm 13 8 fun j k => byteOf (z (j * 8 + k))) (idx / 8) (idx % 8) = byteOf (z idx) := by
    show nth (mrow _ (idx / 8)) (idx % 8) = _
    rw [mrow_mkm _ (by omega), nth_mkr _ (by omega)]
    have e : idx / 8 * 8 + idx % 8 = idx := by omega
    rw [e]
  rw [e, (hz idx hidx).1]
  unfold byteOf
  rw [u8_lit (hz idx hidx).2]
end
end Go.Proofs.Ytifhjigkljdkmaa
namespace Go.Proofs.Ytifhjigkljdkmaa
open Go.RowKit Go.ChangeShapes Go.WideShapes Go.Deep
open Gf (F)
set_option linter.unusedSimpArgs false
set_option linter.unusedVariables false
set_option maxRecDepth 100000
/-- The cells of lost pieces: which, and what is there instead. -/
structure ArrL (cs : Array Value) (x : List F) (C : List (List F)) : Prop where
  size : cs.size = 27
  len : x.length = 3
  num : ∀ i, i < 3 → cs[i]? = some (.int .u8 ((nth x i).toNat : Int))
  rows : C.length = 3
  row : ∀ j, j < 3 → (mrow C j).length = 8
  blk : ∀ idx, idx < 24 → cs[3 + idx]? = some (.int .u8 ((ent C (idx / 8) (idx % 8)).toNat : Int))
section
variable {H : Type} {enc : TypeId × Value → H} {W : World} {base : Nat} {spare : Nat → Bool} {held : Bool} {r : Reach} {b0 : Nat} {v : Value} {d : DataW H} {ps : List MemPlace}
theorem cells_106 : Try.prog.cellsOf 106 = 27 := by kernel_rfl
theorem cells_104 : Try.prog.cellsOf 104 = 24 := by kernel_rfl
theorem open106 (hval : Value.okWide Try.prog W r b0 106 v) (hd : DataW.Trod enc Try.prog W base spare held 106 v d ps) : ∃ (cs : Array Value) (x : List F) (C : List (List F)), v = .agg cs ∧ ArrL cs x C := by
  simp only [Value.okWide, Try.underlying106] at hval
  obtain ⟨cs, rfl, hsz, _⟩ := hval
  rw [cells_106] at hsz
  obtain ⟨fuel, hf⟩ := hd
  have hcs : (Value.agg cs).cells = cs := rfl
  rw [hcs] at hf
  obtain ⟨y0, y1, n, _, _, h0, h1⟩ := trod_struct2 Try.underlying106 hf
  simp only [cells_96, cells_104] at h0 h1
  obtain ⟨xs0, m0, _, _, _, hl0, hel0⟩ := DataW.trod_array Try.underlying96 h0
  obtain ⟨xs1, m1, _, _, _, hl1, hel1⟩ := DataW.trod_array Try.underlying104 h1
  have each0 : ∀ t, t < 3 → ∃ z : Int, cs[t]? = some (.int .u8 z) ∧ (Lit.int .u8 z).wf = true := fun t ht => by
    have h := hel0 t ht
    rw [List.getElem?_eq_getElem (by omega), cells_u8, Nat.mul_one] at h
    obtain ⟨z, h3, _, h4⟩ := DataW.trod_int Try.underlying5 h
    refine ⟨z, ?_, h4⟩
    have h5 := one_of_drop' h3
    rw [List.getElem?_take_of_lt ht, List.getElem?_drop] at h5
    simpa using h5
  have each1 : ∀ t, t < 24 → ∃ z : Int, cs[3 + t]? = some (.int .u8 z) ∧ (Lit.int .u8 z).wf = true := fun t ht => by
    have h := hel1 (t / 8) (by omega)
    rw [List.getElem?_eq_getElem (by omega), cells_64] at h
    obtain ⟨ys, m2, _, _, _, hl2, hel2⟩ := DataW.trod_array Try.underlying64 h
    have h2 := hel2 (t % 8) (by omega)
    rw [List.getElem?_eq_getElem (by omega), cells_u8, Nat.mul_one] at h2
    obtain ⟨z, h3, _, h4⟩ := DataW.trod_int Try.underlying5 h2
    refine ⟨z, ?_, h4⟩
    have h5 := one_of_drop' h3
    rw [List.getElem?_take_of_lt (by omega), List.getElem?_drop, List.getElem?_take_of_lt (by omega), List.getElem?_drop] at h5
    have e : 3 + (t / 8 * 8 + t % 8) = 3 + t := by omega
    rw [e] at h5
    simpa using h5
  obtain ⟨z, hz⟩ := choose_lt each0
  obtain ⟨y, hy⟩ := choose_lt each1
  refine ⟨cs, mkr 3 fun j => byteOf (z j), mkm 3 8 fun j k => byteOf (y (j * 8 + k)), rfl, hsz, mkr_length _ _, fun j hj => ?_, mkm_length _ _ _, fun j hj => by rw [mrow_mkm _ hj, mkr_length], fun idx hidx => ?_⟩
  · rw [nth_mkr _ hj, (hz j hj).1]
    unfold byteOf
    rw [u8_lit (hz j hj).2]
  · have e : ent (mkm 3 8 fun j k => byteOf (y (j * 8 + k))) (idx / 8) (idx % 8) = byteOf (y idx) := by
      show nth (mrow _ (idx / 8)) (idx % 8) = _
      rw [mrow_mkm _ (by omega), nth_mkr _ (by omega)]
      have e : idx / 8 * 8 + idx % 8 = idx := by omega
      rw [e]
    rw [e, (hy idx hidx).1]
    unfold byteOf
    rw [u8_lit (hy idx hidx).2]
end
end Go.Proofs.Ytifhjigkljdkmaa
namespace Go.Proofs.Ytifhjigkljdkmaa
open Go.RowKit
open Gf (F)
set_option linter.unusedSimpArgs false
set_option linter.unusedVariables false
/-- The first i pieces, the marked ones replaced. -/
def repI (M : List (List F)) (b : List Bool) (C : List (List F)) : Nat → List (List F)
  | 0 => M
  | i + 1 => if ntb b i = true then (repI M b C i).set i (mrow C (i % 3)) else repI M b C i
theorem repI_length (M : List (List F)) (b : List Bool) (C : List (List F)) : ∀ k, (repI M b C k).length = M.length
  | 0 => rfl
  | k + 1 => by
    rw [repI]
    split
    · rw [List.length_set]; exact repI_length M b C k
    · exact repI_length M b C k
theorem repI_row (M : List (List F)) (b : List Bool) (C : List (List F)) {i : Nat} (hb : ntb b i = false) : ∀ k, k ≤ M.length → mrow (repI M b C k) i = mrow M i
  | 0, _ => rfl
  | k + 1, hk => by
    have ih := repI_row M b C hb k (by omega)
    rw [repI]
    by_cases h : ntb b k = true
    · rw [if_pos h, mrow_set (by rw [repI_length]; omega), if_neg (fun e => by rw [e, h] at hb; cases hb)]
      exact ih
    · rw [if_neg h]; exact ih
theorem info95 {cs : Array Value} (h : cs.size = 104) : (Try.prog.info? 95).map (·.size) = some cs.size := by rw [h]; kernel_rfl
theorem info96' (a b c : Value) : (Try.prog.info? 96).map (·.size) = some (#[a, b, c] : Array Value).size := by kernel_rfl
theorem arr3_of {cs : Array Value} {x : List F} {C : List (List F)} (h : ArrL cs x C) : Arr3 #[.int .u8 ((nth x 0).toNat : Int), .int .u8 ((nth x 1).toNat : Int), .int .u8 ((nth x 2).toNat : Int)] x :=
  ⟨rfl, h.len, fun i hi => by
    rcases (show i = 0 ∨ i = 1 ∨ i = 2 by omega) with rfl | rfl | rfl <;> rfl⟩
set_option maxRecDepth 100000 in
set_option maxHeartbeats 4000000 in
theorem law21 {cs csL : Array Value} {M C : List (List F)} {x : List F} (h : Arr13 cs M) (l : ArrL csL x C) (nu : Nat) (hnu : nu < 256) (w : World) : Calls Try.prog 21 #[.agg cs, .int .u8 (nu : Int), .agg csL] w fun e w' => e = .returned (.bool true) ∧ Below w.heap.size w w' := by
  have hb0 : Below w.heap.size w ((w.alloc (.cells cs 95)).alloc (.cells csL 106)) := ((Below.refl _ _).alloc (Nat.le_refl _) _).alloc (by simp) _
  have hs0 : ((w.alloc (.cells cs 95)).alloc (.cells csL 106)).heap.size = w.heap.size + 2 := by rw [size_alloc1, size_alloc1]
  have r1 : ((w.alloc (.cells cs 95)).alloc (.cells csL 106)).rowIs w.heap.size 95 104 fun i => cs.getD i undef := by
    have := (World.rowIs_alloc w cs 95 (fun i => cs.getD i undef) (fun i hi => by simp [hi])).alloc (.cells csL 106)
    rwa [h.size] at this
  have r2 : ((w.alloc (.cells cs 95)).alloc (.cells csL 106)).rowIs (w.heap.size + 1) 106 27 fun i => csL.getD i undef := by
    have := World.rowIs_alloc (w.alloc (.cells cs 95)) csL 106 (fun i => csL.getD i undef) (fun i hi => by simp [hi])
    rwa [l.size, size_alloc1] at this
  obtain ⟨wx, hwx⟩ : ∃ wx, wx = (w.alloc (.cells cs 95)).alloc (.cells csL 106) := ⟨_, rfl⟩
  rw [← hwx] at hb0 hs0 r1 r2
  obtain ⟨wd, hwd⟩ : ∃ wd, wd = 1 + nu % 13 + 3 := ⟨_, rfl⟩
  have hgrp := fun w => group04_any h nu hnu w
  simp only [← hwd] at hgrp
  have hw4 : 4 ≤ wd := by omega
  have hw16 : wd ≤ 16 := by omega
  obtain ⟨D, hD⟩ : ∃ D, D = M.take (1 + nu % 13) := ⟨_, rfl⟩
  simp only [← hD] at hgrp
  replace hwd := Lib.hid hwd
  replace hD := Lib.hid hD
  replace r1 := Lib.hid r1
  replace r2 := Lib.hid r2
  have ci : ∀ w', Below wx.heap.size wx w' → (∀ k, k < cs.size → w'.cell? ⟨w.heap.size, 0 + k, none⟩ = cs[k]?) := fun w' k j hj => by
    rw [k.cell (p := ⟨w.heap.size, 0 + j, none⟩) (by show w.heap.size < _; omega), Nat.zero_add, r1.out.cell (by rw [← h.size]; exact hj)]
    simp [hj]
  have cl : ∀ w', Below wx.heap.size wx w' → (∀ k, k < 27 → w'.cell? ⟨w.heap.size + 1, k, none⟩ = csL[k]?) := fun w' k j hj => by
    rw [k.cell (p := ⟨w.heap.size + 1, j, none⟩) (by show w.heap.size + 1 < _; omega), r2.out.cell hj]
    simp [l.size, hj]
  have cn : ∀ w', Below wx.heap.size wx w' → ∀ k, k < 3 → w'.cell? ⟨w.heap.size + 1, k, none⟩ = some (.int .u8 ((nth x k).toNat : Int)) := fun w' k j hj => (cl w' k j (by omega)).trans (l.num j hj)
  go_enter Try.func21, Try.ntmps21
  go_wp2_with (first | (go_at_call 65; rw [← hwx]; refine (awake04_any _).mono ?_; rintro e w1 ⟨rfl, hb1⟩; have hc1 := ci _ hb1) | (with_reducible refine wpl_load_agg rfl rfl rfl Try.underlying95 rfl (info95 h.size) hc1 ?_) | (go_at_call 70; (with_reducible refine (hgrp _).mono ?_); rintro e w2 ⟨A2, c2, rfl, hO2, hb2⟩; have hx2 := below_then2 hb1 hb2; have n0 := cn _ hx2 0 (by decide); have n1 := cn _ hx2 1 (by decide); have n2 := cn _ hx2 2 (by decide)) | (go_at_call 71; (with_reducible refine (marks_any (arr3_of l) hw4 hw16 _).mono ?_); rintro e w3 ⟨g3, rfl, hg3, hr3, hb3⟩; have hx3 := below_then2 hx2 hb3; have hB3 := below_then2 hb0 hx3; have hz3 := hB3.size; have hO3 := hO2.below hb3; obtain ⟨A2', c2', e2, hG3⟩ := hO3.blks; cases e2; have hown := World.ownsRow_made (base := w3.heap.size) (e := 64) (size := 8) w3 #[] 0 (Nat.le_refl _) (Nat.zero_le _) rfl; have hq3 : Below w3.heap.size w3 (w3.alloc (.cells #[] 64)) := (Below.refl _ _).alloc (Nat.le_refl _) _; have hG3' := hG3.below hq3; have hsz := size_alloc1 w3 (.cells #[] 64)) | (at_builtin; refine wpl_append_elm rfl (sl := .tmp 23) (x := .tmp 24) rfl Try.underlying53 info64f rfl (by decide) rfl hown rfl hG3'.2 (by unfold maxLen; omega) (by omega) (by omega) ?_; intro v4 w4 hown4 hgr4 hne4; rw [Nat.zero_add, List.nil_append] at hown4; have hO4 : OwnB w4 w3.heap.size v4 wd (grpM D) := ⟨hG3.1, fun j hj => hG3.row hj, hown4⟩; have hb34 : Below w3.heap.size w3 w4 := hq3.grown hgr4 (by omega) (fun k e => by cases e; exact Nat.le_refl _); obtain ⟨g4, c4, e4, hg4, hg4l⟩ := hO4.form (by omega); subst e4))
  have hx4 := below_then2 hx3 hb34
  have hr4 := hr3.of_block (hb34.block _ hr3.lt)
  have hG4 := hG3.below hb34
  have hMl : (grpM D).length = wd := hG3.1
  have hg3l := hr3.lt
  have hne43 : g3 ≠ g4 := by omega
  replace hMl := Lib.hid hMl
  have hbr : ∀ j, j < 3 → (mrow C j).length = 8 := l.row
  obtain ⟨bs, hbs⟩ : ∃ bs, bs = marksL wd x := ⟨_, rfl⟩
  rw [← hbs] at hr4
  replace hbs := Lib.hid hbs
  go_loopw [10] (fun v wr => ∃ i : Nat, i ≤ wd ∧ v = .int .i64 i ∧ OwnB wr w3.heap.size (.slice (some ⟨g4, 0, none⟩) wd c4) wd (repI (grpM D) bs C i) ∧ wr.rowIs g3 4 wd (fun j => .bool (ntb bs j)) ∧ Below w3.heap.size w3 wr) (fun v _ => wd - (intOf v).toNat)
  case atStart => exact ⟨0, by omega, rfl, hO4, hr4, hb34⟩
  case round =>
    obtain ⟨i, hi, rfl, hO, hr, hbw⟩ := hrel
    by_cases hlt : i < wd
    · have e1 := hr.cell hlt
      have d1 : (0 : Int) ≤ (i : Int) := Int.natCast_nonneg _
      have d2 : (i : Int) < (wd : Int) := by omega
      cases hb : ntb bs i with
      | false =>
        have hst : Hid (repI (grpM D) bs C (i + 1) = repI (grpM D) bs C i) := by show _ = _; rw [repI, if_neg (by rw [hb]; decide)]
        rw [hb] at e1
        go_wp2
        go_roundw
        case rel => exact ⟨i + 1, by omega, by go_num, by rw [hst.out]; exact hO, hr, hbw⟩
        case measure => simp [intOf]; omega
      | true =>
        obtain ⟨t, ht⟩ : ∃ t, t = i % 3 := ⟨_, rfl⟩
        have ht3 : t < 3 := by omega
        have hrem : (i : Int) % 3 = (t : Int) := by omega
        have hst : Hid (repI (grpM D) bs C (i + 1) = (repI (grpM D) bs C i).set i (mrow C t)) := by show _ = _; rw [repI, if_pos hb, ht]
        rw [hb] at e1
        have hrow := hbr t ht3
        have d3 : (0 : Int) ≤ (t : Int) := Int.natCast_nonneg _
        have d4 : (t : Int) < 3 := by omega
        have ec : ∀ k, k < (agc (mrow C t)).size → wr.cell? ⟨w.heap.size + 1, 3 + t * 8 + k, none⟩ = (agc (mrow C t))[k]? := fun k hk => by
          rw [agc_size, hrow] at hk
          rw [cl _ (below_then2 hx3 hbw) (3 + t * 8 + k) (by omega), Nat.add_assoc, l.blk (t * 8 + k) (by omega), agc_at (by rw [hrow]; exact hk)]
          have q1 : (t * 8 + k) / 8 = t := by omega
          have q2 : (t * 8 + k) % 8 = k := by omega
          rw [q1, q2]
          rfl
        replace ht := Lib.hid ht
        go_wp2_with (first | (with_reducible refine wpl_load_agg rfl rfl rfl Try.underlying64 rfl (info64' hrow) ec ?_) | (with_reducible refine wpl_store_own rfl rfl hO hlt hrow rfl rfl rfl ?_; intro w5 hO5 hg5 hz5))
        go_roundw
        case rel => exact ⟨i + 1, by omega, by go_num, by rw [hst.out]; exact hO5, hr.of_block (hg5.block _ hr.lt (fun e => by cases e; exact hne43 rfl)), hbw.grown hg5 hbw.size (fun k e => by cases e; exact hg4)⟩
        case measure => simp [intOf]; omega
    · obtain rfl : i = wd := by omega
      obtain ⟨A5, c5, e5, hP5⟩ := hO.blks
      cases e5
      have hDl : D.length + 3 = i := by rw [← hMl.out, grpM_length]
      have hDr : ∀ j, j < D.length → (mrow D j).length = 8 := fun j hj => by
        have := hG4.row (j := j) (by omega)
        rwa [grpM_data D hj] at this
      have hres := restored (D := D) (P := repI (grpM D) bs C i) (b := bs) (by omega) (by omega) hDr (by rw [repI_length, grpM_length]) (fun j hj hb => repI_row _ _ _ hb i (by rw [grpM_length]; omega)) (by rw [hDl, hbs.out]; exact marks_help i x)
      rw [hDl] at hres
      have hlost : lostB i bs = false := by unfold lostB; rw [hbs.out]; exact decide_eq_false (marks_help i x)
      have hBo : Bools (fun _ => True) wr (some ⟨g3, 0, none⟩) i i bs := ⟨by rw [hbs.out]; simp [marksL], Row.of_rowIs hr trivial (by unfold maxLen; omega)⟩
      have hdec := decode_any hw4 hw16 hP5 hBo (.inr ⟨hlost, rfl, hres.symm, rfl⟩)
      have hG5 := hG3.below hbw
      have hB5 := below_then2 hB3 hbw
      clear hres hlost
      replace hDl := Lib.hid hDl
      replace hDr := Lib.hid hDr
      go_wp2_with (first | (go_at_call 73; (with_reducible refine hdec.mono ?_); rintro e w6 ⟨A6, c6, rfl, hO6, hb6⟩; have hB6 := below_then2 hB5 hb6; have hG6 := hG5.below hb6) | (go_at_call 74; (with_reducible refine (same03_any hO6 hG6).mono ?_); rw [show decide (grpM D = grpM D) = true from decide_eq_true rfl]; rintro e w7 ⟨rfl, nd, rfl⟩; have hB7 := below_drewN hB6 nd))
      go_ret
      exact ⟨rfl, hB7⟩
end Go.Proofs.Ytifhjigkljdkmaa
namespace Go.Proofs.Ytifhjigkljdkmaa
open Go.RowKit
open Gf (F)
theorem law21_row {cs csL : Array Value} {M C : List (List F)} {x : List F} {w : World} {z : Int} (hw : (Lit.int .u8 z).wf = true) (h : Arr13 cs M) (l : ArrL csL x C) : Calls Try.prog 21 #[.agg cs, .int .u8 z, .agg csL] w fun e w' => e = .returned (.bool true) ∧ Below w.heap.size w w' := by
  obtain ⟨h1, h2⟩ := of_u8_wf hw
  obtain ⟨nu, rfl⟩ := Int.eq_ofNat_of_zero_le h1
  exact law21 h l nu (by omega) w
end Go.Proofs.Ytifhjigkljdkmaa
