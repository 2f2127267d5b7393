/- group.Writes and tegularef24.Writes, whole; SameWrites. -/
import Derived.Test.YtifhjigkljdkmaaWr
import Derived.Test.YtifhjigkljdkmaaGc
import Derived.Test.YtifhjigkljdkmaaGd
namespace Go.Proofs.Ytifhjigkljdkmaa
open Go.RowKit
open Gf (F)
set_option linter.unusedSimpArgs false
set_option linter.unusedVariables false
/-- Is piece i written? -/
def wrP (M N : List (List F)) (b : List Bool) (i : Nat) : Bool := !decide (mrow M i = mrow N i) || ntb b i
def wrG (a v : Int) (N : List (List F)) (z : Int) : Array Value := wrE a v z (mrow N z.toNat)
def flatW (a v : Int) (N : List (List F)) (S : List Int) : List Value := S.flatMap fun z => (wrG a v N z).toList
theorem flatW_push (a v : Int) (N : List (List F)) (S : List Int) (i : Nat) : flatW a v N (S ++ [(i : Int)]) = flatW a v N S ++ (wrE a v i (mrow N i)).toList := by
  unfold flatW
  rw [List.flatMap_append]
  simp [wrG]
theorem flatW_take (a v : Int) (N : List (List F)) (S : List Int) : ∀ k, k ≤ S.length → flatE (fun j => wrG a v N (nti S j)) k = flatW a v N (S.take k)
  | 0, _ => by simp [flatE_zero, flatW]
  | k + 1, h => by
    rw [flatE_succ, flatW_take a v N S k (by omega), List.take_succ_eq_append_getElem (by omega : k < S.length)]
    unfold flatW
    rw [List.flatMap_append]
    simp [nti_of_lt (show k < S.length by omega)]
def wrL (n : Nat) (M N : List (List F)) (b : List Bool) : List Int := sel (wrP M N b) n
section
variable {P : Program} {w : World}
theorem wpl_build4 {ops : Array Oper} {rest : List Oper} {o : Oper} {a : Act} {Q : Exit → Act → World → Prop} (hgd : o.guard = none) {t : TypeId} {x0 x1 x2 x3 : Operand} (ho : o.op = .build t #[(0, x0), (1, x1), (2, x2), (3, x3)])
    {v0 v1 v2 v3 u : Value} (h : ∀ w, (Instr.build t #[(0, v0), (1, v1), (2, v2), (3, v3)]).run P w = .ok u w) (h0 : a.eval x0 = v0) (h1 : a.eval x1 = v1) (h2 : a.eval x2 = v2) (h3 : a.eval x3 = v3)
    (hk : wpList P ops Q rest (a.put o.dst u) w) : wpList P ops Q (o :: rest) a w :=
  wpList_plain hgd fun _ hK => by
    unfold Oper.wp execOp
    simp only [ho, List.map_toArray, List.map_cons, List.map_nil, h0, h1, h2, h3, Sem.run_bind, h, Result.andThen_ok]
    exact hK _ _ hk
end
def WritesRet (w : World) (a v : Int) (N : List (List F)) (S : List Int) (er : Int) (e : Ending) (w' : World) : Prop :=
  ∃ A' c', e = .returned (.tuple #[.slice A' S.length c', .int .i64 er]) ∧ Elm 11 (fun _ => True) w' A' S.length c' (fun j => wrG a v N (nti S j)) ∧ Below w.heap.size w w'
section
variable {p q r : Nat → Prop} {w w' : World} {A B G : Option Addr} {n c m d k f : Nat} {M N : List (List F)} {b : List Bool} {E : Nat → Array Value}
set_option maxRecDepth 100000 in
set_option maxHeartbeats 1000000 in
theorem gwrites_arg (a v : Int) (h : Blks p w A n c M) (g : Blks q w B m d N) (i : Bools r w G k f b) (hn20 : n ≤ 20) (hbad : ¬ (wideB (n : Int) = true ∧ m = n ∧ k = n)) : Calls Try.prog 62 #[.int .i64 a, .slice A n c, .slice B m d, .int .u64 v, .slice G k f] w (WritesRet w a v N [] 1) := by
  have hn := h.len
  have hm := g.len
  have hk := i.row.len
  have fin : ∀ w : World, WritesRet w a v N [] 1 (.returned (.tuple #[.slice none 0 0, .int .i64 1])) w := fun w => ⟨none, 0, rfl, Elm.nil _ _ _ _ (Nat.zero_le _) _, Below.refl _ _⟩
  cases hw : wideB (n : Int) with
  | false =>
    clear hbad
    go_enter Try.func62, Try.ntmps62
    go_wp2_with (go_at_call 107; (with_reducible refine (validw_any (n : Int) _).mono ?_); rw [hw]; rintro e w' ⟨rfl, rfl⟩)
    go_ret2
    exact fin _
  | true =>
    by_cases hmn : m = n
    · have hkn : ¬ k = n := fun e => hbad ⟨hw, hmn, e⟩
      subst hmn
      have t1 : ((m : Int) != (m : Int)) = false := by simp
      have t2 : ((k : Int) != (m : Int)) = true := by simp; omega
      replace hkn := Lib.hid hkn
      clear hbad
      go_enter Try.func62, Try.ntmps62
      go_wp2_with (go_at_call 107; (with_reducible refine (validw_any (m : Int) _).mono ?_); rw [hw]; rintro e w' ⟨rfl, rfl⟩)
      go_ret2
      exact fin _
    · have t1 : ((m : Int) != (n : Int)) = true := by simp; omega
      replace hmn := Lib.hid hmn
      clear hbad
      go_enter Try.func62, Try.ntmps62
      go_wp2_with (go_at_call 107; (with_reducible refine (validw_any (n : Int) _).mono ?_); rw [hw]; rintro e w' ⟨rfl, rfl⟩)
      go_ret2
      exact fin _
set_option maxRecDepth 100000 in
set_option maxHeartbeats 2000000 in
theorem gwrites_ok (a v : Int) (h : Blks p w A n c M) (g : Blks q w B n d N) (ib : Bools r w G n f b) (hw : wideB (n : Int) = true) (hn20 : n ≤ 20) : Calls Try.prog 62 #[.int .i64 a, .slice A n c, .slice B n d, .int .u64 v, .slice G n f] w (WritesRet w a v N (wrL n M N b) 0) := by
  have hn := h.len
  have t1 : ((n : Int) != (n : Int)) = false := by simp
  have hlxa := fun j (hj : j < n) => h.row hj
  have hlya := fun j (hj : j < n) => g.row hj
  go_enter Try.func62, Try.ntmps62
  go_wp2_with (go_at_call 107; (with_reducible refine (validw_any (n : Int) _).mono ?_); rw [hw]; rintro e w' ⟨rfl, rfl⟩)
  go_loopw [12, 34] (fun u x wr => ∃ i : Nat, i ≤ n ∧ x = .int .i64 i ∧ wr.ownsRow w.heap.size 151 11 u (sel (wrP M N b) i).length (flatW a v N (sel (wrP M N b) i)) ∧ Below w.heap.size w wr) (fun _ x _ => n - (intOf x).toNat)
  case atStart => exact ⟨0, by omega, rfl, World.ownsRow_nil _ _ _ _, Below.refl _ _⟩
  case round =>
    obtain ⟨i, hi, rfl, hown, hbi⟩ := hrel
    have hsz := hbi.size
    have hlen := sel_len (wrP M N b) i
    by_cases hlti : i < n
    · obtain ⟨b1, o1, rfl, _, hlt1, hc1⟩ := h.agg (by omega)
      obtain ⟨b2, o2, rfl, _, hlt2, hc2⟩ := g.agg (by omega)
      obtain ⟨b3, o3, rfl, _, hlt3, hc3⟩ := ib.row.at_ (by omega)
      have e1 : ∀ k, k < 8 → wr.cell? ⟨b1, o1 + i * 8 + k, none⟩ = (agc (mrow M i))[k]? := fun k hk => (hbi.cell (p := ⟨b1, o1 + i * 8 + k, none⟩) hlt1).trans (hc1 i hlti k hk)
      have e2 : ∀ k, k < 8 → wr.cell? ⟨b2, o2 + i * 8 + k, none⟩ = (agc (mrow N i))[k]? := fun k hk => (hbi.cell (p := ⟨b2, o2 + i * 8 + k, none⟩) hlt2).trans (hc2 i hlti k hk)
      have e4 : wr.cell? ⟨b3, o3 + i, none⟩ = some (.bool (ntb b i)) := (hbi.cell (p := ⟨b3, o3 + i, none⟩) hlt3).trans (hc3 i hlti)
      clear hc1 hc2 hc3
      have hlx := hlxa i hlti
      have hly := hlya i hlti
      have hsx : (wrE a v i (mrow N i)).size = 11 := wrE_size hly
      have hbld := fun w => build151 w a v i hly
      have d1 : (0 : Int) ≤ (i : Int) := Int.natCast_nonneg _
      have d2 : (i : Int) < (n : Int) := by omega
      have hrun := fun w => neq64 hlx hly w
      by_cases heq : mrow M i = mrow N i
      · rw [show (!decide (mrow M i = mrow N i)) = false by rw [decide_eq_true heq]; rfl] at hrun
        cases hbm : ntb b i with
        | true =>
          have hP : wrP M N b i = true := by unfold wrP; rw [hbm, Bool.or_true]
          have s1 := sel_yes hP
          have s2 := congrArg List.length s1
          rw [List.length_append] at s2
          replace s1 := Lib.hid s1
          replace s2 := Lib.hid s2
          replace heq := Lib.hid heq
          rw [hbm] at e4
          clear hP
          go_wp2
          refine wp_region_quiet_lit (by kernel_rfl) (by kernel_rfl) ?_
          quiet_step (fail)
          quiet_step (fail)
          quiet_step (fail)
          refine BigFrame.wpQuiet_want rfl (fun K hK => ?_)
          refine quiet_load_agg rfl rfl Try.underlying64 rfl (info64' hlx) (fun k hk => e1 k (by rwa [agc_size, hlx] at hk)) ?_
          refine hK _ ?_
          clear hK K
          simp only [Act.put, List.setIfInBounds_toArray, List.set_cons_zero, List.set_cons_succ]
          quiet_step (fail)
          quiet_step (fail)
          quiet_step (fail)
          refine BigFrame.wpQuiet_want rfl (fun K hK => ?_)
          refine quiet_load_agg rfl rfl Try.underlying64 rfl (info64' hly) (fun k hk => e2 k (by rwa [agc_size, hly] at hk)) ?_
          refine hK _ ?_
          clear hK K
          simp only [Act.put, List.setIfInBounds_toArray, List.set_cons_zero, List.set_cons_succ]
          refine BigFrame.wpQuiet_want rfl (fun K hK => ?_)
          refine quiet_bin rfl rfl rfl (guard64 _ _ _ _ _) hrun ?_
          refine hK _ ?_
          clear hK K
          simp only [Act.put, List.setIfInBounds_toArray, List.set_cons_zero, List.set_cons_succ]
          quiet_step (fail)
          quiet_step (fail)
          quiet_step (fail)
          quiet_step (fail)
          quiet_step (fail)
          quiet_step (fail)
          refine wpQuiet_nil ?_
          intro _ hw'
          obtain ⟨nq, hw''⟩ := hw'
          subst hw''
          obtain ⟨wq, hq⟩ : ∃ wq, wq = wr.drewN nq := ⟨_, rfl⟩
          have hownq := (show ∀ u, wr.ownsRow w.heap.size 151 11 u (sel (wrP M N b) i).length (flatW a v N (sel (wrP M N b) i)) → wq.ownsRow w.heap.size 151 11 u (sel (wrP M N b) i).length (flatW a v N (sel (wrP M N b) i)) from fun v h => by rw [hq]; exact h) _ hown
          have hbq : Below w.heap.size w wq := by rw [hq]; exact below_drewN hbi nq
          have hszq := hbq.size
          have e3 : ∀ k, k < (agc (mrow N i)).size → wq.cell? ⟨b2, o2 + i * 8 + k, none⟩ = (agc (mrow N i))[k]? := by rw [hq]; exact fun k hk => e2 k (by rwa [agc_size, hly] at hk)
          rw [← hq]
          clear hq
          go_wp2_with (first | (with_reducible refine wpl_load_agg rfl rfl rfl Try.underlying64 rfl (info64' hly) e3 ?_) | (with_reducible refine wpl_build4 rfl rfl hbld rfl rfl rfl rfl ?_) | (with_reducible refine wpl_build1_agg rfl rfl Try.underlying83 info151f (by decide) (by decide) rfl hsx ?_) | (at_builtin; refine wpl_append_elm1 rfl (sl := .tmp 52) (x := .tmp 61) rfl Try.underlying83 info151f rfl (by decide) rfl hownq rfl hsx (wrE_one _ _ _ _) (by unfold maxLen; omega) (by omega) (by omega) ?_; intro v2 w9 hown2 hgr2 hne2))
          go_roundw
          case rel => exact ⟨i + 1, by omega, by go_num, by rw [s2.out, s1.out, flatW_push]; exact hown2, hbq.grown hgr2 hszq (fun b e => (hownq.lt b e).1)⟩
          case measure => simp [intOf]; omega
        | false =>
          have hP : wrP M N b i = false := by unfold wrP; rw [hbm, decide_eq_true heq]; rfl
          have s1 := sel_no hP
          replace s1 := Lib.hid s1
          replace heq := Lib.hid heq
          rw [hbm] at e4
          clear hP
          go_wp2
          refine wp_region_quiet_lit (by kernel_rfl) (by kernel_rfl) ?_
          quiet_step (fail)
          quiet_step (fail)
          quiet_step (fail)
          refine BigFrame.wpQuiet_want rfl (fun K hK => ?_)
          refine quiet_load_agg rfl rfl Try.underlying64 rfl (info64' hlx) (fun k hk => e1 k (by rwa [agc_size, hlx] at hk)) ?_
          refine hK _ ?_
          clear hK K
          simp only [Act.put, List.setIfInBounds_toArray, List.set_cons_zero, List.set_cons_succ]
          quiet_step (fail)
          quiet_step (fail)
          quiet_step (fail)
          refine BigFrame.wpQuiet_want rfl (fun K hK => ?_)
          refine quiet_load_agg rfl rfl Try.underlying64 rfl (info64' hly) (fun k hk => e2 k (by rwa [agc_size, hly] at hk)) ?_
          refine hK _ ?_
          clear hK K
          simp only [Act.put, List.setIfInBounds_toArray, List.set_cons_zero, List.set_cons_succ]
          refine BigFrame.wpQuiet_want rfl (fun K hK => ?_)
          refine quiet_bin rfl rfl rfl (guard64 _ _ _ _ _) hrun ?_
          refine hK _ ?_
          clear hK K
          simp only [Act.put, List.setIfInBounds_toArray, List.set_cons_zero, List.set_cons_succ]
          quiet_step (fail)
          quiet_step (fail)
          quiet_step (fail)
          quiet_step (fail)
          quiet_step (fail)
          quiet_step (fail)
          refine wpQuiet_nil ?_
          intro _ hw'
          obtain ⟨nq, hw''⟩ := hw'
          subst hw''
          go_wp2
          go_roundw
          case rel => exact ⟨i + 1, by omega, by go_num, by rw [s1.out]; exact hown, below_drewN hbi nq⟩
          case measure => simp [intOf]; omega
      · rw [show (!decide (mrow M i = mrow N i)) = true by rw [decide_eq_false heq]; rfl] at hrun
        have hP : wrP M N b i = true := by unfold wrP; rw [decide_eq_false heq]; rfl
        have s1 := sel_yes hP
        have s2 := congrArg List.length s1
        rw [List.length_append] at s2
        replace s1 := Lib.hid s1
        replace s2 := Lib.hid s2
        replace heq := Lib.hid heq
        clear hP e4
        go_wp2
        refine wp_region_quiet_lit (by kernel_rfl) (by kernel_rfl) ?_
        quiet_step (fail)
        quiet_step (fail)
        quiet_step (fail)
        refine BigFrame.wpQuiet_want rfl (fun K hK => ?_)
        refine quiet_load_agg rfl rfl Try.underlying64 rfl (info64' hlx) (fun k hk => e1 k (by rwa [agc_size, hlx] at hk)) ?_
        refine hK _ ?_
        clear hK K
        simp only [Act.put, List.setIfInBounds_toArray, List.set_cons_zero, List.set_cons_succ]
        quiet_step (fail)
        quiet_step (fail)
        quiet_step (fail)
        refine BigFrame.wpQuiet_want rfl (fun K hK => ?_)
        refine quiet_load_agg rfl rfl Try.underlying64 rfl (info64' hly) (fun k hk => e2 k (by rwa [agc_size, hly] at hk)) ?_
        refine hK _ ?_
        clear hK K
        simp only [Act.put, List.setIfInBounds_toArray, List.set_cons_zero, List.set_cons_succ]
        refine BigFrame.wpQuiet_want rfl (fun K hK => ?_)
        refine quiet_bin rfl rfl rfl (guard64 _ _ _ _ _) hrun ?_
        refine hK _ ?_
        clear hK K
        simp only [Act.put, List.setIfInBounds_toArray, List.set_cons_zero, List.set_cons_succ]
        quiet_step (fail)
        quiet_step (fail)
        quiet_step (fail)
        quiet_step (fail)
        quiet_step (fail)
        quiet_step (fail)
        refine wpQuiet_nil ?_
        intro _ hw'
        obtain ⟨nq, hw''⟩ := hw'
        subst hw''
        obtain ⟨wq, hq⟩ : ∃ wq, wq = wr.drewN nq := ⟨_, rfl⟩
        have hownq := (show ∀ u, wr.ownsRow w.heap.size 151 11 u (sel (wrP M N b) i).length (flatW a v N (sel (wrP M N b) i)) → wq.ownsRow w.heap.size 151 11 u (sel (wrP M N b) i).length (flatW a v N (sel (wrP M N b) i)) from fun v h => by rw [hq]; exact h) _ hown
        have hbq : Below w.heap.size w wq := by rw [hq]; exact below_drewN hbi nq
        have hszq := hbq.size
        have e3 : ∀ k, k < (agc (mrow N i)).size → wq.cell? ⟨b2, o2 + i * 8 + k, none⟩ = (agc (mrow N i))[k]? := by rw [hq]; exact fun k hk => e2 k (by rwa [agc_size, hly] at hk)
        rw [← hq]
        clear hq
        go_wp2_with (first | (with_reducible refine wpl_load_agg rfl rfl rfl Try.underlying64 rfl (info64' hly) e3 ?_) | (with_reducible refine wpl_build4 rfl rfl hbld rfl rfl rfl rfl ?_) | (with_reducible refine wpl_build1_agg rfl rfl Try.underlying83 info151f (by decide) (by decide) rfl hsx ?_) | (at_builtin; refine wpl_append_elm1 rfl (sl := .tmp 52) (x := .tmp 61) rfl Try.underlying83 info151f rfl (by decide) rfl hownq rfl hsx (wrE_one _ _ _ _) (by unfold maxLen; omega) (by omega) (by omega) ?_; intro v2 w9 hown2 hgr2 hne2))
        go_roundw
        case rel => exact ⟨i + 1, by omega, by go_num, by rw [s2.out, s1.out, flatW_push]; exact hown2, hbq.grown hgr2 hszq (fun b e => (hownq.lt b e).1)⟩
        case measure => simp [intOf]; omega
    · obtain rfl : i = n := by omega
      have hS : Hid (flatW a v N (sel (wrP M N b) i) = flatE (fun j => wrG a v N (nti (sel (wrP M N b) i) j)) (sel (wrP M N b) i).length) := by
        show _ = _
        rw [flatW_take a v N _ _ (Nat.le_refl _), List.take_length]
      rw [hS.out] at hown
      have hrg : ∀ j, j < (sel (wrP M N b) i).length → (wrG a v N (nti (sel (wrP M N b) i) j)).size = 11 := fun j hj => by
        have hr := sel_range (wrP M N b) i j hj
        exact wrE_size (hlya _ (by omega))
      obtain ⟨A', c', rfl, he⟩ := own_elm hown hrg (fun j _ => wrE_one _ _ _ _)
      replace hrg := Lib.hid hrg
      go_wp2
      go_ret2
      exact ⟨A', c', rfl, he.mono fun _ _ _ => trivial, hbi⟩
set_option maxRecDepth 100000 in
set_option maxHeartbeats 1000000 in
theorem rwrites_arg (a v : Int) (h : Blks p w A n c M) (g : Blks q w B m d N) (i : Bools r w G k f b) (hn20 : n ≤ 20) (hbad : ¬ (wideB (n : Int) = true ∧ m = n ∧ k = n)) : Calls Try.prog 63 #[.int .i64 a, .slice A n c, .slice B m d, .int .u64 v, .slice G k f] w (WritesRet w a v N [] 1) := by
  have hn := h.len
  have hm := g.len
  have hk := i.row.len
  have fin : ∀ w : World, WritesRet w a v N [] 1 (.returned (.tuple #[.slice none 0 0, .int .i64 1])) w := fun w => ⟨none, 0, rfl, Elm.nil _ _ _ _ (Nat.zero_le _) _, Below.refl _ _⟩
  cases hw : wideB (n : Int) with
  | false =>
    clear hbad
    go_enter Try.func63, Try.ntmps63
    go_wp2_with (go_at_call 104; (with_reducible refine (wide24_any (n : Int) _).mono ?_); rw [hw]; rintro e w' ⟨rfl, rfl⟩)
    go_ret2
    exact fin _
  | true =>
    by_cases hmn : m = n
    · have hkn : ¬ k = n := fun e => hbad ⟨hw, hmn, e⟩
      subst hmn
      have t1 : ((m : Int) != (m : Int)) = false := by simp
      have t2 : ((k : Int) != (m : Int)) = true := by simp; omega
      replace hkn := Lib.hid hkn
      clear hbad
      go_enter Try.func63, Try.ntmps63
      go_wp2_with (go_at_call 104; (with_reducible refine (wide24_any (m : Int) _).mono ?_); rw [hw]; rintro e w' ⟨rfl, rfl⟩)
      go_ret2
      exact fin _
    · have t1 : ((m : Int) != (n : Int)) = true := by simp; omega
      replace hmn := Lib.hid hmn
      clear hbad
      go_enter Try.func63, Try.ntmps63
      go_wp2_with (go_at_call 104; (with_reducible refine (wide24_any (n : Int) _).mono ?_); rw [hw]; rintro e w' ⟨rfl, rfl⟩)
      go_ret2
      exact fin _
set_option maxRecDepth 100000 in
set_option maxHeartbeats 2000000 in
theorem rwrites_ok (a v : Int) (h : Blks p w A n c M) (g : Blks q w B n d N) (ib : Bools r w G n f b) (hw : wideB (n : Int) = true) (hn20 : n ≤ 20) : Calls Try.prog 63 #[.int .i64 a, .slice A n c, .slice B n d, .int .u64 v, .slice G n f] w (WritesRet w a v N (wrL n M N b) 0) := by
  have hn := h.len
  have t1 : ((n : Int) != (n : Int)) = false := by simp
  have hlxa := fun j (hj : j < n) => h.row hj
  have hlya := fun j (hj : j < n) => g.row hj
  go_enter Try.func63, Try.ntmps63
  go_wp2_with (go_at_call 104; (with_reducible refine (wide24_any (n : Int) _).mono ?_); rw [hw]; rintro e w' ⟨rfl, rfl⟩)
  go_loopw [12, 13] (fun u x wr => ∃ i : Nat, i ≤ n ∧ x = .int .i64 i ∧ wr.ownsRow w.heap.size 151 11 u (sel (wrP M N b) i).length (flatW a v N (sel (wrP M N b) i)) ∧ Below w.heap.size w wr) (fun _ x _ => n - (intOf x).toNat)
  case atStart => exact ⟨0, by omega, rfl, World.ownsRow_nil _ _ _ _, Below.refl _ _⟩
  case round =>
    obtain ⟨i, hi, rfl, hown, hbi⟩ := hrel
    have hsz := hbi.size
    have hlen := sel_len (wrP M N b) i
    by_cases hlti : i < n
    · obtain ⟨b1, o1, rfl, _, hlt1, hc1⟩ := h.agg (by omega)
      obtain ⟨b2, o2, rfl, _, hlt2, hc2⟩ := g.agg (by omega)
      obtain ⟨b3, o3, rfl, _, hlt3, hc3⟩ := ib.row.at_ (by omega)
      have e1 : ∀ k, k < 8 → wr.cell? ⟨b1, o1 + i * 8 + k, none⟩ = (agc (mrow M i))[k]? := fun k hk => (hbi.cell (p := ⟨b1, o1 + i * 8 + k, none⟩) hlt1).trans (hc1 i hlti k hk)
      have e2 : ∀ k, k < 8 → wr.cell? ⟨b2, o2 + i * 8 + k, none⟩ = (agc (mrow N i))[k]? := fun k hk => (hbi.cell (p := ⟨b2, o2 + i * 8 + k, none⟩) hlt2).trans (hc2 i hlti k hk)
      have e4 : wr.cell? ⟨b3, o3 + i, none⟩ = some (.bool (ntb b i)) := (hbi.cell (p := ⟨b3, o3 + i, none⟩) hlt3).trans (hc3 i hlti)
      clear hc1 hc2 hc3
      have hlx := hlxa i hlti
      have hly := hlya i hlti
      have hsx : (wrE a v i (mrow N i)).size = 11 := wrE_size hly
      have hbld := fun w => build151 w a v i hly
      have d1 : (0 : Int) ≤ (i : Int) := Int.natCast_nonneg _
      have d2 : (i : Int) < (n : Int) := by omega
      have hrun := fun w => neq64 hlx hly w
      by_cases heq : mrow M i = mrow N i
      · rw [show (!decide (mrow M i = mrow N i)) = false by rw [decide_eq_true heq]; rfl] at hrun
        cases hbm : ntb b i with
        | true =>
          have hP : wrP M N b i = true := by unfold wrP; rw [hbm, Bool.or_true]
          have s1 := sel_yes hP
          have s2 := congrArg List.length s1
          rw [List.length_append] at s2
          replace s1 := Lib.hid s1
          replace s2 := Lib.hid s2
          replace heq := Lib.hid heq
          rw [hbm] at e4
          clear hP
          go_wp2
          refine wp_region_quiet_lit (by kernel_rfl) (by kernel_rfl) ?_
          quiet_step (fail)
          quiet_step (fail)
          quiet_step (fail)
          refine BigFrame.wpQuiet_want rfl (fun K hK => ?_)
          refine quiet_load_agg rfl rfl Try.underlying64 rfl (info64' hlx) (fun k hk => e1 k (by rwa [agc_size, hlx] at hk)) ?_
          refine hK _ ?_
          clear hK K
          simp only [Act.put, List.setIfInBounds_toArray, List.set_cons_zero, List.set_cons_succ]
          quiet_step (fail)
          quiet_step (fail)
          quiet_step (fail)
          refine BigFrame.wpQuiet_want rfl (fun K hK => ?_)
          refine quiet_load_agg rfl rfl Try.underlying64 rfl (info64' hly) (fun k hk => e2 k (by rwa [agc_size, hly] at hk)) ?_
          refine hK _ ?_
          clear hK K
          simp only [Act.put, List.setIfInBounds_toArray, List.set_cons_zero, List.set_cons_succ]
          refine BigFrame.wpQuiet_want rfl (fun K hK => ?_)
          refine quiet_bin rfl rfl rfl (guard64 _ _ _ _ _) hrun ?_
          refine hK _ ?_
          clear hK K
          simp only [Act.put, List.setIfInBounds_toArray, List.set_cons_zero, List.set_cons_succ]
          quiet_step (fail)
          quiet_step (fail)
          quiet_step (fail)
          quiet_step (fail)
          quiet_step (fail)
          quiet_step (fail)
          refine wpQuiet_nil ?_
          intro _ hw'
          obtain ⟨nq, hw''⟩ := hw'
          subst hw''
          obtain ⟨wq, hq⟩ : ∃ wq, wq = wr.drewN nq := ⟨_, rfl⟩
          have hownq := (show ∀ u, wr.ownsRow w.heap.size 151 11 u (sel (wrP M N b) i).length (flatW a v N (sel (wrP M N b) i)) → wq.ownsRow w.heap.size 151 11 u (sel (wrP M N b) i).length (flatW a v N (sel (wrP M N b) i)) from fun v h => by rw [hq]; exact h) _ hown
          have hbq : Below w.heap.size w wq := by rw [hq]; exact below_drewN hbi nq
          have hszq := hbq.size
          have e3 : ∀ k, k < (agc (mrow N i)).size → wq.cell? ⟨b2, o2 + i * 8 + k, none⟩ = (agc (mrow N i))[k]? := by rw [hq]; exact fun k hk => e2 k (by rwa [agc_size, hly] at hk)
          rw [← hq]
          clear hq
          go_wp2_with (first | (with_reducible refine wpl_load_agg rfl rfl rfl Try.underlying64 rfl (info64' hly) e3 ?_) | (with_reducible refine wpl_build4 rfl rfl hbld rfl rfl rfl rfl ?_) | (with_reducible refine wpl_build1_agg rfl rfl Try.underlying83 info151f (by decide) (by decide) rfl hsx ?_) | (at_builtin; refine wpl_append_elm1 rfl (sl := .tmp 53) (x := .tmp 62) rfl Try.underlying83 info151f rfl (by decide) rfl hownq rfl hsx (wrE_one _ _ _ _) (by unfold maxLen; omega) (by omega) (by omega) ?_; intro v2 w9 hown2 hgr2 hne2))
          go_roundw
          case rel => exact ⟨i + 1, by omega, by go_num, by rw [s2.out, s1.out, flatW_push]; exact hown2, hbq.grown hgr2 hszq (fun b e => (hownq.lt b e).1)⟩
          case measure => simp [intOf]; omega
        | false =>
          have hP : wrP M N b i = false := by unfold wrP; rw [hbm, decide_eq_true heq]; rfl
          have s1 := sel_no hP
          replace s1 := Lib.hid s1
          replace heq := Lib.hid heq
          rw [hbm] at e4
          clear hP
          go_wp2
          refine wp_region_quiet_lit (by kernel_rfl) (by kernel_rfl) ?_
          quiet_step (fail)
          quiet_step (fail)
          quiet_step (fail)
          refine BigFrame.wpQuiet_want rfl (fun K hK => ?_)
          refine quiet_load_agg rfl rfl Try.underlying64 rfl (info64' hlx) (fun k hk => e1 k (by rwa [agc_size, hlx] at hk)) ?_
          refine hK _ ?_
          clear hK K
          simp only [Act.put, List.setIfInBounds_toArray, List.set_cons_zero, List.set_cons_succ]
          quiet_step (fail)
          quiet_step (fail)
          quiet_step (fail)
          refine BigFrame.wpQuiet_want rfl (fun K hK => ?_)
          refine quiet_load_agg rfl rfl Try.underlying64 rfl (info64' hly) (fun k hk => e2 k (by rwa [agc_size, hly] at hk)) ?_
          refine hK _ ?_
          clear hK K
          simp only [Act.put, List.setIfInBounds_toArray, List.set_cons_zero, List.set_cons_succ]
          refine BigFrame.wpQuiet_want rfl (fun K hK => ?_)
          refine quiet_bin rfl rfl rfl (guard64 _ _ _ _ _) hrun ?_
          refine hK _ ?_
          clear hK K
          simp only [Act.put, List.setIfInBounds_toArray, List.set_cons_zero, List.set_cons_succ]
          quiet_step (fail)
          quiet_step (fail)
          quiet_step (fail)
          quiet_step (fail)
          quiet_step (fail)
          quiet_step (fail)
          refine wpQuiet_nil ?_
          intro _ hw'
          obtain ⟨nq, hw''⟩ := hw'
          subst hw''
          go_wp2
          go_roundw
          case rel => exact ⟨i + 1, by omega, by go_num, by rw [s1.out]; exact hown, below_drewN hbi nq⟩
          case measure => simp [intOf]; omega
      · rw [show (!decide (mrow M i = mrow N i)) = true by rw [decide_eq_false heq]; rfl] at hrun
        have hP : wrP M N b i = true := by unfold wrP; rw [decide_eq_false heq]; rfl
        have s1 := sel_yes hP
        have s2 := congrArg List.length s1
        rw [List.length_append] at s2
        replace s1 := Lib.hid s1
        replace s2 := Lib.hid s2
        replace heq := Lib.hid heq
        clear hP e4
        go_wp2
        refine wp_region_quiet_lit (by kernel_rfl) (by kernel_rfl) ?_
        quiet_step (fail)
        quiet_step (fail)
        quiet_step (fail)
        refine BigFrame.wpQuiet_want rfl (fun K hK => ?_)
        refine quiet_load_agg rfl rfl Try.underlying64 rfl (info64' hlx) (fun k hk => e1 k (by rwa [agc_size, hlx] at hk)) ?_
        refine hK _ ?_
        clear hK K
        simp only [Act.put, List.setIfInBounds_toArray, List.set_cons_zero, List.set_cons_succ]
        quiet_step (fail)
        quiet_step (fail)
        quiet_step (fail)
        refine BigFrame.wpQuiet_want rfl (fun K hK => ?_)
        refine quiet_load_agg rfl rfl Try.underlying64 rfl (info64' hly) (fun k hk => e2 k (by rwa [agc_size, hly] at hk)) ?_
        refine hK _ ?_
        clear hK K
        simp only [Act.put, List.setIfInBounds_toArray, List.set_cons_zero, List.set_cons_succ]
        refine BigFrame.wpQuiet_want rfl (fun K hK => ?_)
        refine quiet_bin rfl rfl rfl (guard64 _ _ _ _ _) hrun ?_
        refine hK _ ?_
        clear hK K
        simp only [Act.put, List.setIfInBounds_toArray, List.set_cons_zero, List.set_cons_succ]
        quiet_step (fail)
        quiet_step (fail)
        quiet_step (fail)
        quiet_step (fail)
        quiet_step (fail)
        quiet_step (fail)
        refine wpQuiet_nil ?_
        intro _ hw'
        obtain ⟨nq, hw''⟩ := hw'
        subst hw''
        obtain ⟨wq, hq⟩ : ∃ wq, wq = wr.drewN nq := ⟨_, rfl⟩
        have hownq := (show ∀ u, wr.ownsRow w.heap.size 151 11 u (sel (wrP M N b) i).length (flatW a v N (sel (wrP M N b) i)) → wq.ownsRow w.heap.size 151 11 u (sel (wrP M N b) i).length (flatW a v N (sel (wrP M N b) i)) from fun v h => by rw [hq]; exact h) _ hown
        have hbq : Below w.heap.size w wq := by rw [hq]; exact below_drewN hbi nq
        have hszq := hbq.size
        have e3 : ∀ k, k < (agc (mrow N i)).size → wq.cell? ⟨b2, o2 + i * 8 + k, none⟩ = (agc (mrow N i))[k]? := by rw [hq]; exact fun k hk => e2 k (by rwa [agc_size, hly] at hk)
        rw [← hq]
        clear hq
        go_wp2_with (first | (with_reducible refine wpl_load_agg rfl rfl rfl Try.underlying64 rfl (info64' hly) e3 ?_) | (with_reducible refine wpl_build4 rfl rfl hbld rfl rfl rfl rfl ?_) | (with_reducible refine wpl_build1_agg rfl rfl Try.underlying83 info151f (by decide) (by decide) rfl hsx ?_) | (at_builtin; refine wpl_append_elm1 rfl (sl := .tmp 53) (x := .tmp 62) rfl Try.underlying83 info151f rfl (by decide) rfl hownq rfl hsx (wrE_one _ _ _ _) (by unfold maxLen; omega) (by omega) (by omega) ?_; intro v2 w9 hown2 hgr2 hne2))
        go_roundw
        case rel => exact ⟨i + 1, by omega, by go_num, by rw [s2.out, s1.out, flatW_push]; exact hown2, hbq.grown hgr2 hszq (fun b e => (hownq.lt b e).1)⟩
        case measure => simp [intOf]; omega
    · obtain rfl : i = n := by omega
      have hS : Hid (flatW a v N (sel (wrP M N b) i) = flatE (fun j => wrG a v N (nti (sel (wrP M N b) i) j)) (sel (wrP M N b) i).length) := by
        show _ = _
        rw [flatW_take a v N _ _ (Nat.le_refl _), List.take_length]
      rw [hS.out] at hown
      have hrg : ∀ j, j < (sel (wrP M N b) i).length → (wrG a v N (nti (sel (wrP M N b) i) j)).size = 11 := fun j hj => by
        have hr := sel_range (wrP M N b) i j hj
        exact wrE_size (hlya _ (by omega))
      obtain ⟨A', c', rfl, he⟩ := own_elm hown hrg (fun j _ => wrE_one _ _ _ _)
      replace hrg := Lib.hid hrg
      go_wp2
      go_ret2
      exact ⟨A', c', rfl, he.mono fun _ _ _ => trivial, hbi⟩
set_option maxRecDepth 100000 in
set_option maxHeartbeats 1000000 in
theorem samewrites_self {a v : Int} {S : List Int} (h : Elm 11 p w A S.length c (fun j => wrG a v N (nti S j))) (g : Elm 11 q w B S.length d (fun j => wrG a v N (nti S j))) (hr : ∀ j, j < S.length → (mrow N (nti S j).toNat).length = 8) : Calls Try.prog 64 #[.slice A S.length c, .slice B S.length d] w fun e w' => e = .returned (.bool true) ∧ ∃ m, w' = w.drewN m := by
  have hn := h.len
  obtain ⟨n, hnS⟩ : ∃ n, n = S.length := ⟨_, rfl⟩
  rw [← hnS] at h g hn hr ⊢
  have ht : ((n : Int) != (n : Int)) = false := by simp
  replace hnS := Lib.hid hnS
  go_enter Try.func64, Try.ntmps64
  go_wp2
  go_loopw [5] (fun i wr => ∃ i' m : Nat, i' ≤ n ∧ i = .int .i64 i' ∧ wr = w.drewN m) (fun i _ => n - (intOf i).toNat)
  case atStart => exact ⟨0, 0, by omega, rfl, rfl⟩
  case round =>
    obtain ⟨i, m, hk, rfl, rfl⟩ := hrel
    by_cases hlt : i < n
    · obtain ⟨b, o, rfl, _, _, hc⟩ := h.at_ (by omega)
      obtain ⟨b', o', rfl, _, _, hc'⟩ := g.at_ (by omega)
      have hl := hr i hlt
      have e1 : ∀ k, k < (wrG a v N (nti S i)).size → (w.drewN m).cell? ⟨b, o + i * 11 + k, none⟩ = (wrG a v N (nti S i))[k]? := fun k hk => hc i hlt k (by unfold wrG at hk; rwa [wrE_size hl] at hk)
      have e2 : ∀ k, k < (wrG a v N (nti S i)).size → (w.drewN m).cell? ⟨b', o' + i * 11 + k, none⟩ = (wrG a v N (nti S i))[k]? := fun k hk => hc' i hlt k (by unfold wrG at hk; rwa [wrE_size hl] at hk)
      have hrun : ∀ w, (binOp .neq 151 (.agg (wrG a v N (nti S i))) (.agg (wrG a v N (nti S i)))).run Try.prog w = .ok (.bool false) w := fun w => neq151 w a v (nti S i) hl
      have hin : (Try.prog.info? 151).map (·.size) = some (wrG a v N (nti S i)).size := info151 hl
      clear hc hc'
      have b1 : (0 : Int) ≤ (i : Int) := Int.natCast_nonneg _
      have b2 : (i : Int) < (n : Int) := by omega
      go_wp2
      refine wp_region_quiet_lit (by kernel_rfl) (by kernel_rfl) ?_
      quiet_step (fail)
      quiet_step (fail)
      quiet_step (fail)
      refine BigFrame.wpQuiet_want rfl (fun K hK => ?_)
      refine quiet_load_agg rfl rfl Try.underlying151 rfl hin e1 ?_
      refine hK _ ?_
      clear hK K
      simp only [Act.put, List.setIfInBounds_toArray, List.set_cons_zero, List.set_cons_succ]
      quiet_step (fail)
      quiet_step (fail)
      quiet_step (fail)
      refine BigFrame.wpQuiet_want rfl (fun K hK => ?_)
      refine quiet_load_agg rfl rfl Try.underlying151 rfl hin e2 ?_
      refine hK _ ?_
      clear hK K
      simp only [Act.put, List.setIfInBounds_toArray, List.set_cons_zero, List.set_cons_succ]
      refine BigFrame.wpQuiet_want rfl (fun K hK => ?_)
      refine quiet_bin rfl rfl rfl (guard151 _ _ _ _ _) hrun ?_
      refine hK _ ?_
      clear hK K
      simp only [Act.put, List.setIfInBounds_toArray, List.set_cons_zero, List.set_cons_succ]
      refine wpQuiet_nil ?_
      intro _ hw'
      obtain ⟨nq, hw''⟩ := hw'
      subst hw''
      go_wp2
      go_roundw
      case rel => exact ⟨i + 1, _, by omega, by go_num, rfl⟩
      case measure => simp [intOf]; omega
    · obtain rfl : i = n := by omega
      go_wp2
      go_ret
      exact ⟨rfl, _, rfl⟩
end
end Go.Proofs.Ytifhjigkljdkmaa
