/- tegularef04.Combine; the law function DecodeCombines returns true. -/
import Derived.Test.YtifhjigkljdkmaaAy
import Derived.Test.YtifhjigkljdkmaaCb
import Derived.Test.YtifhjigkljdkmaaBl
import Derived.Test.YtifhjigkljdkmaaRa
namespace Go.Proofs.Ytifhjigkljdkmaa
open Go.RowKit
open Gf (F)
set_option linter.unusedSimpArgs false
set_option linter.unusedVariables false
theorem combI_xor (ws : List F) (M : List (List F)) (i : Nat) : xorB (combI ws M i) (sclB (nth ws i) (mrow M i)) = combI ws M (i + 1) := by
  apply nth_ext (by rw [xorB_length, combI_length])
  intro k hk
  rw [xorB_length] at hk
  rw [combI_step hk]
  unfold xorB sclB
  rw [nth_mkr _ hk, nth_mkr _ hk]
  rfl
section
variable {p q : Nat → Prop} {w : World} {A B : Option Addr} {n c m d : Nat} {M : List (List F)} {ws : List F}
set_option maxRecDepth 100000 in
set_option maxHeartbeats 2000000 in
theorem rcombine_any (h : Byt p w A n c ws) (g : Blks q w B n d M) : Calls Try.prog 69 #[.slice A n c, .slice B n d] w fun e w' => e = .returned (.agg (agc (comb ws M))) ∧ Below w.heap.size w w' := by
  have hn := h.row.len
  have hwl := Lib.hid h.len
  have hf : Hid (∀ i, (combI ws M i).length = 8) := fun i => combI_length ws M i
  obtain ⟨r4, r6, hb⟩ := two_zero w
  go_enter Try.func69, Try.ntmps69
  go_wp2
  go_loopw [6] (fun x wr => ∃ i : Nat, i ≤ n ∧ x = .int .i64 i ∧ wr.rowIs (w.heap.size + 1) 64 8 (bytes (combI ws M i)) ∧ (∃ f, wr.rowIs w.heap.size 64 8 f) ∧ Below w.heap.size w wr) (fun x _ => n - (intOf x).toNat)
  case atStart => exact ⟨0, by omega, rfl, by rw [combI_zero]; exact r6, ⟨_, r4⟩, hb⟩
  case round =>
    obtain ⟨i, hi, rfl, hr6, ⟨f4, hr4⟩, hbw⟩ := hrel
    by_cases hlti : i < n
    · obtain ⟨b1, o1, rfl, _, hlt1, hc1⟩ := h.at_ (by omega)
      obtain ⟨b2, o2, rfl, _, hlt2, hc2⟩ := g.agg (by omega)
      have hx := g.row hlti
      have e2 : ∀ k, k < (agc (mrow M i)).size → wr.cell? ⟨b2, o2 + i * 8 + k, none⟩ = (agc (mrow M i))[k]? := fun k hk => (hbw.cell (p := ⟨b2, o2 + i * 8 + k, none⟩) hlt2).trans (hc2 i hlti k (by rwa [agc_size, hx] at hk))
      have e5 : wr.cell? ⟨b1, o1 + i, none⟩ = some (.int .u8 ((nth ws i).toNat : Int)) := (hbw.cell (p := ⟨b1, o1 + i, none⟩) hlt1).trans (hc1 i hlti)
      clear hc1 hc2
      have d1 : (0 : Int) ≤ (i : Int) := Int.natCast_nonneg _
      have d2 : (i : Int) < (n : Int) := by omega
      have hfi := hf.out i
      have hxor := Lib.hid (combI_xor ws M i)
      replace e2 := Lib.hid e2
      go_wp2
      replace e2 := e2.out
      refine AnyE.region (fun w' => w'.rowIs (w.heap.size + 1) 64 8 (bytes (combI ws M i)) ∧ w'.cell? ⟨b1, o1 + i, none⟩ = some (.int .u8 ((nth ws i).toNat : Int)) ∧ (∀ k, k < (agc (mrow M i)).size → w'.cell? ⟨b2, o2 + i * 8 + k, none⟩ = (agc (mrow M i))[k]?) ∧ (∃ f, w'.rowIs w.heap.size 64 8 f) ∧ Below w.heap.size w w') 11 (by kernel_rfl) ?_
      have hS : ∀ w0 w', (fun w' => w'.rowIs (w.heap.size + 1) 64 8 (bytes (combI ws M i)) ∧ w'.cell? ⟨b1, o1 + i, none⟩ = some (.int .u8 ((nth ws i).toNat : Int)) ∧ (∀ k, k < (agc (mrow M i)).size → w'.cell? ⟨b2, o2 + i * 8 + k, none⟩ = (agc (mrow M i))[k]?) ∧ (∃ f, w'.rowIs w.heap.size 64 8 f) ∧ Below w.heap.size w w') w0 → Below w0.heap.size w0 w' → (fun w' => w'.rowIs (w.heap.size + 1) 64 8 (bytes (combI ws M i)) ∧ w'.cell? ⟨b1, o1 + i, none⟩ = some (.int .u8 ((nth ws i).toNat : Int)) ∧ (∀ k, k < (agc (mrow M i)).size → w'.cell? ⟨b2, o2 + i * 8 + k, none⟩ = (agc (mrow M i))[k]?) ∧ (∃ f, w'.rowIs w.heap.size 64 8 f) ∧ Below w.heap.size w w') w' := fun w0 w' h k => ⟨h.1.of_block (k.block _ h.1.lt), (k.cell (World.block_lt_of_cell? _ _ h.2.1)).trans h.2.1, fun j hj => (k.cell (by have := h.2.2.2.2.size; exact Nat.lt_of_lt_of_le hlt2 this)).trans (h.2.2.1 j hj), (by obtain ⟨f, hf⟩ := h.2.2.2.1; exact ⟨f, hf.of_block (k.block _ hf.lt)⟩), below_then2 h.2.2.2.2 k⟩
      have hH := hS wr wr.drew ⟨hr6, e5, e2, ⟨_, hr4⟩, hbw⟩ (show Below wr.heap.size wr wr.drew from below_drewN (Below.refl _ _) 1)
      refine AnyE.take 0 [0] (v := ?_) rfl (by decide) (by kernel_rfl) (by kernel_rfl) (by kernel_rfl) (by kernel_rfl) (by kernel_rfl) (by kernel_rfl) (fun _ _ _ h => h) (by rfl) hH ?_ ?_
      rotate_left; · (intro wz hSw; simp only [List.getElem_toArray, List.getElem_cons_succ, List.getElem_cons_zero, Act.put, List.setIfInBounds_toArray, List.set_cons_zero, List.set_cons_succ]; refine exec_load_agg (x := .tmp 5) (b := w.heap.size + 1) (off := 0) ?_ ?_ Try.underlying64 rfl (info64' hfi) (fun k hk => row_agc hSw.1 hfi hk); rfl; rfl)
      (try simp only [List.getElem_toArray, List.getElem_cons_succ, List.getElem_cons_zero, Act.put, List.setIfInBounds_toArray, List.set_cons_zero, List.set_cons_succ])
      refine AnyE.take0 1 (v := ?_) rfl (by decide) (by kernel_rfl) (by kernel_rfl) (by kernel_rfl) (by kernel_rfl) (fun _ _ _ h => h) (by rfl) (fun _ => hH) ?_ ?_
      rotate_left; · (intro w; go_simp; try with_reducible rfl)
      (try simp only [List.getElem_toArray, List.getElem_cons_succ, List.getElem_cons_zero, Act.put, List.setIfInBounds_toArray, List.set_cons_zero, List.set_cons_succ])
      refine AnyE.take0 2 (v := ?_) rfl (by decide) (by kernel_rfl) (by kernel_rfl) (by kernel_rfl) (by kernel_rfl) (fun _ _ _ h => h) (by rfl) (fun _ => hH) ?_ ?_
      rotate_left; · (intro w; go_simp; try with_reducible rfl)
      (try simp only [List.getElem_toArray, List.getElem_cons_succ, List.getElem_cons_zero, Act.put, List.setIfInBounds_toArray, List.set_cons_zero, List.set_cons_succ])
      refine AnyE.take0 3 (v := ?_) rfl (by decide) (by kernel_rfl) (by kernel_rfl) (by kernel_rfl) (by kernel_rfl) (fun _ _ _ h => h) (by rfl) (fun _ => hH) ?_ ?_
      rotate_left; · (intro w; go_simp; try with_reducible rfl)
      (try simp only [List.getElem_toArray, List.getElem_cons_succ, List.getElem_cons_zero, Act.put, List.setIfInBounds_toArray, List.set_cons_zero, List.set_cons_succ])
      refine AnyE.take 4 [4] (v := ?_) rfl (by decide) (by kernel_rfl) (by kernel_rfl) (by kernel_rfl) (by kernel_rfl) (by kernel_rfl) (by kernel_rfl) (fun _ _ _ h => h) (by rfl) hH ?_ ?_
      rotate_left; · (intro w hSw; replace hSw := hSw.2.1; go_simp; try with_reducible rfl)
      (try simp only [List.getElem_toArray, List.getElem_cons_succ, List.getElem_cons_zero, Act.put, List.setIfInBounds_toArray, List.set_cons_zero, List.set_cons_succ])
      refine AnyE.take0 5 (v := ?_) rfl (by decide) (by kernel_rfl) (by kernel_rfl) (by kernel_rfl) (by kernel_rfl) (fun _ _ _ h => h) (by rfl) (fun _ => hH) ?_ ?_
      rotate_left; · (intro w; go_simp; try with_reducible rfl)
      (try simp only [List.getElem_toArray, List.getElem_cons_succ, List.getElem_cons_zero, Act.put, List.setIfInBounds_toArray, List.set_cons_zero, List.set_cons_succ])
      refine AnyE.take0 6 (v := ?_) rfl (by decide) (by kernel_rfl) (by kernel_rfl) (by kernel_rfl) (by kernel_rfl) (fun _ _ _ h => h) (by rfl) (fun _ => hH) ?_ ?_
      rotate_left; · (intro w; go_simp; try with_reducible rfl)
      (try simp only [List.getElem_toArray, List.getElem_cons_succ, List.getElem_cons_zero, Act.put, List.setIfInBounds_toArray, List.set_cons_zero, List.set_cons_succ])
      refine AnyE.take0 7 (v := ?_) rfl (by decide) (by kernel_rfl) (by kernel_rfl) (by kernel_rfl) (by kernel_rfl) (fun _ _ _ h => h) (by rfl) (fun _ => hH) ?_ ?_
      rotate_left; · (intro w; go_simp; try with_reducible rfl)
      (try simp only [List.getElem_toArray, List.getElem_cons_succ, List.getElem_cons_zero, Act.put, List.setIfInBounds_toArray, List.set_cons_zero, List.set_cons_succ])
      refine AnyE.take 8 [8] (v := ?_) rfl (by decide) (by kernel_rfl) (by kernel_rfl) (by kernel_rfl) (by kernel_rfl) (by kernel_rfl) (by kernel_rfl) (fun _ _ _ h => h) (by rfl) hH ?_ ?_
      rotate_left; · (intro wz hSw; simp only [List.getElem_toArray, List.getElem_cons_succ, List.getElem_cons_zero, Act.put, List.setIfInBounds_toArray, List.set_cons_zero, List.set_cons_succ]; refine exec_load_agg (x := .tmp 20) (b := b2) (off := o2 + i * 8) ?_ ?_ Try.underlying64 rfl (info64' hx) hSw.2.2.1; rfl; rfl)
      (try simp only [List.getElem_toArray, List.getElem_cons_succ, List.getElem_cons_zero, Act.put, List.setIfInBounds_toArray, List.set_cons_zero, List.set_cons_succ])
      refine AnyE.one 9 rfl (by kernel_rfl) (fun K hK => ?_)
      rw [if_pos (show _ = true by rfl)]
      go_simp
      go_at_call 115; (with_reducible refine (scale_any (nth ws i) hx _).mono ?_); rintro e w9 ⟨rfl, hb9⟩
      replace hH := hS _ _ hH hb9
      refine hK.out _ _ (fun _ => hH) ?_
      clear hK K
      (try simp only [List.getElem_toArray, List.getElem_cons_succ, List.getElem_cons_zero, Act.put, List.setIfInBounds_toArray, List.set_cons_zero, List.set_cons_succ])
      refine AnyE.one 10 rfl (by kernel_rfl) (fun K hK => ?_)
      rw [if_pos (show _ = true by rfl)]
      go_simp
      go_at_call 79; (with_reducible refine (xor_any hfi (sclB_length _ _) _).mono ?_); rintro e w10 ⟨rfl, hb10⟩
      replace hH := hS _ _ hH hb10
      refine hK.out _ _ (fun _ => hH) ?_
      clear hK K
      (try simp only [List.getElem_toArray, List.getElem_cons_succ, List.getElem_cons_zero, Act.put, List.setIfInBounds_toArray, List.set_cons_zero, List.set_cons_succ])
      refine AnyE.one 11 rfl (by kernel_rfl) (fun K hK => ?_)
      rw [if_pos (show _ = true by rfl)]
      (try simp only [List.getElem_toArray, List.getElem_cons_succ, List.getElem_cons_zero, Act.put, List.setIfInBounds_toArray, List.set_cons_zero, List.set_cons_succ])
      refine wp_store_agg rfl rfl rfl hH.1 (info64' (xorB_length _ _)) (by rw [agc_size, xorB_length]; decide) (agc_one _) ?_
      intro w11 hr11 hg11 hz11
      refine hK.out _ _ (fun e => Bool.noConfusion (show true = false from e)) ?_
      clear hK K
      (try simp only [List.getElem_toArray, List.getElem_cons_succ, List.getElem_cons_zero, Act.put, List.setIfInBounds_toArray, List.set_cons_zero, List.set_cons_succ])
      refine AnyE.done (by kernel_rfl) ?_ _
      have hr12 := row_put (xorB_length _ _) hr11
      rw [hxor.out] at hr12
      obtain ⟨f4', hr4'⟩ := hH.2.2.2.1
      have hr44 := hr4'.of_block (hg11.block _ hr4'.lt (by simp))
      have hB11 := hH.2.2.2.2.grown hg11 hH.2.2.2.2.size (fun k e => by cases e; exact Nat.le_succ _)
      go_wp2
      go_roundw
      case rel => exact ⟨i + 1, by omega, by go_num, hr12, ⟨_, hr44⟩, hB11⟩
      case measure => simp [intOf]; omega
    · obtain rfl : i = n := by omega
      have hwi : Hid (combI ws M i = comb ws M) := by
        show _ = _
        rw [← hwl.out]
        rfl
      have hfi := hf.out i
      go_wp2_with (first | (with_reducible refine wpl_load_agg rfl rfl rfl Try.underlying64 rfl (info64' hfi) (fun k hk => row_agc hr6 hfi hk) ?_) | (with_reducible refine wpl_store_agg rfl rfl rfl rfl hr4 (info64' hfi) (by rw [agc_size, hfi]; decide) (agc_one _) ?_; intro w2 hr5 hg5 hz5))
      have hb5 := hbw.grown hg5 hbw.size (fun k e => by cases e; omega)
      have hr7 := row_put hfi hr5
      rw [hwi.out] at hr7 hfi
      exact bodyPost_ret (v := .agg (agc (comb ws M))) (results_cell_agg Try.results69 _ rfl Try.underlying64 rfl (info64' hfi) (fun k hk => row_agc hr7 hfi hk)) rfl ⟨rfl, hb5⟩
end
end Go.Proofs.Ytifhjigkljdkmaa
namespace Go.Proofs.Ytifhjigkljdkmaa
open Go.RowKit
open Gf (F)
set_option linter.unusedSimpArgs false
set_option linter.unusedVariables false
theorem exec_binL {P : Program} {o : Oper} {ev : Operand → Value} {w : World} {op : BinOp} {t t2 : TypeId} {x y : Operand} {u v r : Value} (hr : ∀ w : World, (binOp op t u v).run P w = .ok r w) (hg : ∀ w : World, (eqGuard op t x y u v).run P w = .ok () w) (ho : o.op = .binOp op t x y t2) (hx : ev x = u) (hy : ev y = v) : (execOp ev o).run P w = .ok (.value r) w := by
  unfold execOp
  simp only [ho, hx, hy, Sem.run_bind, Sem.run_pure, Result.andThen_ok, hg, hr]
theorem eqz8 (w : World) : (Op.equalIn 10000 64 (.agg #[.int .u8 0, .int .u8 0, .int .u8 0, .int .u8 0, .int .u8 0, .int .u8 0, .int .u8 0, .int .u8 0]) (.agg #[.int .u8 0, .int .u8 0, .int .u8 0, .int .u8 0, .int .u8 0, .int .u8 0, .int .u8 0, .int .u8 0])).run Try.prog w = .ok true w := run_equalIn_bytes w 9998 64 5 8 Try.underlying64 Try.underlying5 sizeOf5 (zeroL 8) (zeroL 8) rfl rfl
theorem zcell8 {w : World} {g : Nat} (h : w.rowIs g 64 8 (bytes (zeroL 8))) (k : Nat) (hk : k < 8) : w.cell? ⟨g, k, none⟩ = some (.int .u8 0) := by
  rw [h.cell hk]
  have : ∀ k : Fin 8, bytes (zeroL 8) k.1 = .int .u8 0 := fun k => by
    have e : ∀ k : Fin 8, nth (zeroL 8) k.1 = 0 := by decide +kernel
    unfold bytes
    rw [e k]
    rfl
  rw [this ⟨k, hk⟩]
section
variable {p q : Nat → Prop} {w : World} {A B : Option Addr} {n c m d : Nat} {M : List (List F)} {ws : List F}
set_option maxRecDepth 100000 in
set_option maxHeartbeats 1000000 in
theorem law18_ne (h : Byt p w A n c ws) (g : Blks q w B m d M) (h1 : ¬ 40 < n) (h2 : ¬ 40 < m) (hne : ¬ n = m) : Calls Try.prog 18 #[.slice A n c, .slice B m d] w fun e w' => e = .returned (.bool true) ∧ Below w.heap.size w w' := by
  have hn := h.row.len
  have hm := g.len
  have ht : ((n : Int) != (m : Int)) = true := by simp; omega
  have heq := eqz8
  replace hne := Lib.hid hne
  go_enter Try.func18, Try.ntmps18
  go_wp2_with (first | (go_at_call 65; refine (awake04_any _).mono ?_; rintro e w1 ⟨rfl, hb1⟩; have hh1 := h.below hb1; have gg1 := g.below hb1) | (go_at_call 68; (with_reducible refine (combine_arg hh1 gg1 hne.out).mono ?_); rintro e w2 ⟨rfl, hb2⟩; have hB2 := below_then2 hb1 hb2; have hz2 := zero_row8 w2 64) | (with_reducible refine wpl_store_agg rfl rfl rfl rfl hz2 (info64' z8) (by rw [agc_size, z8]; decide) (agc_one _) ?_; intro w3 hr3 hg3 hz3; have hb3 : Below w2.heap.size w2 w3 := (((Below.refl _ w2).alloc (Nat.le_refl _) _).grown hg3 (by simp) (fun k e => by cases e; exact Nat.le_refl _)); have hr3' := row_put z8 hr3; have q0 := zcell8 hr3' 0 (by decide); have q1 := zcell8 hr3' 1 (by decide); have q2 := zcell8 hr3' 2 (by decide); have q3 := zcell8 hr3' 3 (by decide); have q4 := zcell8 hr3' 4 (by decide); have q5 := zcell8 hr3' 5 (by decide); have q6 := zcell8 hr3' 6 (by decide); have q7 := zcell8 hr3' 7 (by decide); have hB3 := below_then2 hB2 hb3))
  go_ret
  exact ⟨rfl, hB3⟩
set_option maxRecDepth 100000 in
set_option maxHeartbeats 2000000 in
theorem law18_eq (h : Byt p w A n c ws) (g : Blks q w B n d M) (h1 : ¬ 40 < n) : Calls Try.prog 18 #[.slice A n c, .slice B n d] w fun e w' => e = .returned (.bool true) ∧ Below w.heap.size w w' := by
  have hn := h.row.len
  have ht : ((n : Int) != (n : Int)) = false := by simp
  have hcl := comb_length ws M
  have hce := fun w => eql64 hcl hcl w
  rw [decide_eq_true rfl] at hce
  go_enter Try.func18, Try.ntmps18
  go_wp2_with (first | (go_at_call 65; refine (awake04_any _).mono ?_; rintro e w1 ⟨rfl, hb1⟩; have hh1 := h.below hb1; have gg1 := g.below hb1) | (go_at_call 68; (with_reducible refine (combine_any hh1 gg1 (by omega)).mono ?_); rintro e w2 ⟨rfl, hb2⟩; have hB2 := below_then2 hb1 hb2; have hz2 := zero_row8 w2 64) | (with_reducible refine wpl_store_agg rfl rfl rfl rfl hz2 (info64' hcl) (by rw [agc_size, hcl]; decide) (agc_one _) ?_; intro w3 hr3 hg3 hz3; have hb3 : Below w2.heap.size w2 w3 := (((Below.refl _ w2).alloc (Nat.le_refl _) _).grown hg3 (by simp) (fun k e => by cases e; exact Nat.le_refl _)); have hr5 := row_put hcl hr3; have hB5 := below_then2 hB2 hb3))
  obtain ⟨g5, hg5⟩ : ∃ g5, g5 = w2.heap.size := ⟨_, rfl⟩
  obtain ⟨wq, rfl⟩ : ∃ x : World, x = w3 := ⟨_, rfl⟩
  rw [← hg5] at hr5 ⊢
  clear hg5
  refine AnyE.region (fun w' => w'.rowIs g5 64 8 (bytes (comb ws M)) ∧ Below w.heap.size w w') 9 (by kernel_rfl) ?_
  have hH : (fun w' => w'.rowIs g5 64 8 (bytes (comb ws M)) ∧ Below w.heap.size w w') wq.drew := ⟨hr5.of_block rfl, below_drewN hB5 1⟩
  refine AnyE.take0 0 (v := ?_) rfl (by decide) (by kernel_rfl) (by kernel_rfl) (by kernel_rfl) (by kernel_rfl) (fun _ _ _ h => h) (by rfl) (fun _ => hH) ?_ ?_
  rotate_left; · (intro w; go_simp; try with_reducible rfl)
  (try simp only [List.getElem_toArray, List.getElem_cons_succ, List.getElem_cons_zero, Act.put, List.setIfInBounds_toArray, List.set_cons_zero, List.set_cons_succ])
  refine AnyE.take0 1 (v := ?_) rfl (by decide) (by kernel_rfl) (by kernel_rfl) (by kernel_rfl) (by kernel_rfl) (fun _ _ _ h => h) (by rfl) (fun _ => hH) ?_ ?_
  rotate_left; · (intro w; go_simp; try with_reducible rfl)
  (try simp only [List.getElem_toArray, List.getElem_cons_succ, List.getElem_cons_zero, Act.put, List.setIfInBounds_toArray, List.set_cons_zero, List.set_cons_succ])
  refine AnyE.take0 2 (v := ?_) rfl (by decide) (by kernel_rfl) (by kernel_rfl) (by kernel_rfl) (by kernel_rfl) (fun _ _ _ h => h) (by rfl) (fun _ => hH) ?_ ?_
  rotate_left; · (intro w; go_simp; try with_reducible rfl)
  (try simp only [List.getElem_toArray, List.getElem_cons_succ, List.getElem_cons_zero, Act.put, List.setIfInBounds_toArray, List.set_cons_zero, List.set_cons_succ])
  refine AnyE.take 3 [3] (v := ?_) rfl (by decide) (by kernel_rfl) (by kernel_rfl) (by kernel_rfl) (by kernel_rfl) (by kernel_rfl) (by kernel_rfl) (fun _ _ _ h => h) (by rfl) hH ?_ ?_
  rotate_left; · (intro wz hSw; simp only [List.getElem_toArray, List.getElem_cons_succ, List.getElem_cons_zero, Act.put, List.setIfInBounds_toArray, List.set_cons_zero, List.set_cons_succ]; refine exec_load_agg (x := .tmp 5) (b := g5) (off := 0) ?_ ?_ Try.underlying64 rfl (info64' hcl) (fun k hk => row_agc hSw.1 hcl hk); rfl; rfl)
  (try simp only [List.getElem_toArray, List.getElem_cons_succ, List.getElem_cons_zero, Act.put, List.setIfInBounds_toArray, List.set_cons_zero, List.set_cons_succ])
  refine AnyE.take0 4 (v := ?_) rfl (by decide) (by kernel_rfl) (by kernel_rfl) (by kernel_rfl) (by kernel_rfl) (fun _ _ _ h => h) (by rfl) (fun _ => hH) ?_ ?_
  rotate_left; · (intro w; go_simp; try with_reducible rfl)
  (try simp only [List.getElem_toArray, List.getElem_cons_succ, List.getElem_cons_zero, Act.put, List.setIfInBounds_toArray, List.set_cons_zero, List.set_cons_succ])
  refine AnyE.take0 5 (v := ?_) rfl (by decide) (by kernel_rfl) (by kernel_rfl) (by kernel_rfl) (by kernel_rfl) (fun _ _ _ h => h) (by rfl) (fun _ => hH) ?_ ?_
  rotate_left; · (intro w; go_simp; try with_reducible rfl)
  (try simp only [List.getElem_toArray, List.getElem_cons_succ, List.getElem_cons_zero, Act.put, List.setIfInBounds_toArray, List.set_cons_zero, List.set_cons_succ])
  refine AnyE.one 6 rfl (by kernel_rfl) (fun K hK => ?_)
  rw [if_pos (show _ = true by rfl)]
  go_simp
  go_at_call 69; (with_reducible refine (rcombine_any (h.below hH.2) (g.below hH.2)).mono ?_); rintro e w6 ⟨rfl, hb6⟩
  replace hH := And.intro (hH.1.of_block (hb6.block _ hH.1.lt)) (below_then2 hH.2 hb6)
  refine hK.out _ _ (fun _ => hH) ?_
  clear hK K
  (try simp only [List.getElem_toArray, List.getElem_cons_succ, List.getElem_cons_zero, Act.put, List.setIfInBounds_toArray, List.set_cons_zero, List.set_cons_succ])
  refine AnyE.take0 7 (v := ?_) rfl (by decide) (by kernel_rfl) (by kernel_rfl) (by kernel_rfl) (by kernel_rfl) (fun _ _ _ h => h) (by rfl) (fun _ => hH) ?_ ?_
  rotate_left; · (intro wz; simp only [List.getElem_toArray, List.getElem_cons_succ, List.getElem_cons_zero, Act.put, List.setIfInBounds_toArray, List.set_cons_zero, List.set_cons_succ]; refine exec_binL (t2 := 64) (x := .tmp 38) (y := .tmp 41) (r := .bool true) hce (guard64 _ _ _ _ _) ?_ ?_ ?_; rfl; rfl; rfl)
  (try simp only [List.getElem_toArray, List.getElem_cons_succ, List.getElem_cons_zero, Act.put, List.setIfInBounds_toArray, List.set_cons_zero, List.set_cons_succ])
  refine AnyE.take0 8 (v := ?_) rfl (by decide) (by kernel_rfl) (by kernel_rfl) (by kernel_rfl) (by kernel_rfl) (fun _ _ _ h => h) (by rfl) (fun _ => hH) ?_ ?_
  rotate_left; · (intro w; go_simp; try with_reducible rfl)
  (try simp only [List.getElem_toArray, List.getElem_cons_succ, List.getElem_cons_zero, Act.put, List.setIfInBounds_toArray, List.set_cons_zero, List.set_cons_succ])
  refine AnyE.one 9 rfl (by kernel_rfl) (fun K hK => ?_)
  go_simp
  refine hK.out _ _ (fun e => Bool.noConfusion (show true = false from e)) ?_
  clear hK K
  (try simp only [List.getElem_toArray, List.getElem_cons_succ, List.getElem_cons_zero, Act.put, List.setIfInBounds_toArray, List.set_cons_zero, List.set_cons_succ])
  refine AnyE.done (by kernel_rfl) ?_ _
  go_wp2
  go_ret
  exact ⟨rfl, hH.2⟩
theorem law18 (h : Byt p w A n c ws) (g : Blks q w B m d M) : Calls Try.prog 18 #[.slice A n c, .slice B m d] w fun e w' => e = .returned (.bool true) ∧ Below w.heap.size w w' := by
  have hn := h.row.len
  have hm := g.len
  by_cases h1 : 40 < n
  · go_enter Try.func18, Try.ntmps18
    go_wp2_with (go_at_call 65; refine (awake04_any _).mono ?_; rintro e w1 ⟨rfl, hb1⟩)
    all_goals (go_ret; exact ⟨rfl, hb1⟩)
  by_cases h2 : 40 < m
  · go_enter Try.func18, Try.ntmps18
    go_wp2_with (go_at_call 65; refine (awake04_any _).mono ?_; rintro e w1 ⟨rfl, hb1⟩)
    all_goals (go_ret; exact ⟨rfl, hb1⟩)
  by_cases hne : n = m
  · subst hne
    exact law18_eq h g h1
  · exact law18_ne h g h1 h2 hne
end
end Go.Proofs.Ytifhjigkljdkmaa

