/- Lists of changes (a number and a block each): what they read; the tests of their numbers. -/
import Derived.Test.YtifhjigkljdkmaaBm
import Derived.Test.YtifhjigkljdkmaaGa
namespace Go.Proofs.Ytifhjigkljdkmaa
open Go.RowKit
open Gf (F)
set_option linter.unusedSimpArgs false
set_option linter.unusedVariables false
abbrev Chg := Int × List F
def cget (l : List Chg) (i : Nat) : Chg := l.getD i (0, [])
theorem cget_of_lt {l : List Chg} {i : Nat} (h : i < l.length) : cget l i = l[i] := by simp [cget, h]
/-- The cells of a change. -/
def chgE (c : Chg) : Array Value := #[.int .i64 c.1] ++ agc c.2
theorem chgE_size {c : Chg} (h : c.2.length = 8) : (chgE c).size = 9 := by simp [chgE, agc_size, h]
theorem chgE_num (c : Chg) : (chgE c)[0]? = some (.int .i64 c.1) := by
  rw [chgE, Array.getElem?_append_left (by simp)]
  rfl
theorem chgE_blk (c : Chg) (k : Nat) : (chgE c)[1 + k]? = (agc c.2)[k]? := by
  simp only [chgE]
  rw [Array.getElem?_append_right (by simp)]
  simp
theorem chgE_one (c : Chg) : ∀ u, u ∈ chgE c → u.oneCell' = true := by
  intro u hu
  simp only [chgE, Array.mem_append] at hu
  rcases hu with hu | hu
  · simp at hu; subst hu; rfl
  · exact agc_one _ u hu
/-- The slice reads the changes l. -/
structure Chgs (p : Nat → Prop) (w : World) (A : Option Addr) (n c : Nat) (l : List Chg) : Prop where
  len : l.length = n
  blk : ∀ i, i < n → (cget l i).2.length = 8
  elm : Elm 9 p w A n c fun i => chgE (cget l i)
def okC (wd : Int) (l : List Chg) : Bool := l.all fun c => decide (0 ≤ c.1) && decide (c.1 < wd - 3)
theorem okC_no {wd : Int} {l : List Chg} {i : Nat} (h : i < l.length) (hb : (cget l i).1 < 0 ∨ wd - 3 ≤ (cget l i).1) : okC wd l = false := by
  unfold okC
  rw [List.all_eq_false]
  refine ⟨l[i], List.getElem_mem h, ?_⟩
  rw [cget_of_lt h] at hb
  simp
  intro h0
  rcases hb with hb | hb <;> omega
theorem okC_yes {wd : Int} {l : List Chg} (h : ∀ i, i < l.length → 0 ≤ (cget l i).1 ∧ (cget l i).1 < wd - 3) : okC wd l = true := by
  unfold okC
  rw [List.all_eq_true]
  intro c hc
  obtain ⟨i, hi, rfl⟩ := List.mem_iff_getElem.1 hc
  have := h i hi
  rw [cget_of_lt hi] at this
  simp [this]
theorem okC_at {wd : Int} {l : List Chg} (h : okC wd l = true) {i : Nat} (hi : i < l.length) : 0 ≤ (cget l i).1 ∧ (cget l i).1 < wd - 3 := by
  unfold okC at h
  rw [List.all_eq_true] at h
  have := h l[i] (List.getElem_mem hi)
  rw [cget_of_lt hi]
  simpa using this
section
variable {p q : Nat → Prop} {w w' : World} {A : Option Addr} {n c : Nat} {l : List Chg}
theorem Chgs.keep (h : Chgs p w A n c l) (k : Keeps p w w') : Chgs p w' A n c l := ⟨h.len, h.blk, h.elm.keep k⟩
theorem Chgs.below (h : Chgs p w A n c l) (k : Below w.heap.size w w') : Chgs p w' A n c l := ⟨h.len, h.blk, h.elm.below k⟩
theorem Chgs.mono (h : Chgs p w A n c l) (hq : ∀ b, b < w.heap.size → p b → q b) : Chgs q w A n c l := ⟨h.len, h.blk, h.elm.mono hq⟩
theorem Chgs.drewN (h : Chgs p w A n c l) (k : Nat) : Chgs p (w.drewN k) A n c l := ⟨h.len, h.blk, h.elm.drewN k⟩
/-- The cells of element i. -/
theorem Chgs.at_ (h : Chgs p w A n c l) (hn : 0 < n) : ∃ b o, A = some ⟨b, o, none⟩ ∧ p b ∧ b < w.heap.size ∧ ∀ i, i < n → w.cell? ⟨b, o + i * 9, none⟩ = some (.int .i64 (cget l i).1) ∧ (∀ k, k < 8 → w.cell? ⟨b, o + i * 9 + 1 + k, none⟩ = (agc (cget l i).2)[k]?) ∧ ∀ k, k < 9 → w.cell? ⟨b, o + i * 9 + k, none⟩ = (chgE (cget l i))[k]? := by
  obtain ⟨b, o, e, hp, hlt, hc⟩ := h.elm.at_ hn
  refine ⟨b, o, e, hp, hlt, fun i hi => ⟨?_, fun k hk => ?_, fun k hk => hc i hi k hk⟩⟩
  · have := hc i hi 0 (by omega)
    rw [chgE_num] at this
    exact this
  · have := hc i hi (1 + k) (by omega)
    rw [chgE_blk, ← Nat.add_assoc] at this
    exact this
set_option maxRecDepth 100000 in
set_option maxHeartbeats 1000000 in
theorem cl135 {x : Chg} {gw : Nat} {wd : Nat} (h16 : wd ≤ 65536) (hx : x.2.length = 8) (hw : w.cell? ⟨gw, 0, none⟩ = some (.int .i64 (wd : Int))) (hlt : gw < w.heap.size) :
    Calls Try.prog 135 #[.agg (chgE x), .pointer (some ⟨gw, 0, none⟩)] w fun e w' => e = .returned (.bool (decide (x.1 < 0) || decide ((wd : Int) - 3 ≤ x.1))) ∧ Below w.heap.size w w' := by
  have hb : Below w.heap.size w (w.alloc (.cells (chgE x) 124)) := (Below.refl _ _).alloc (Nat.le_refl _) _
  have e1 : (w.alloc (.cells (chgE x) 124)).cell? ⟨w.heap.size, 0, none⟩ = some (.int .i64 x.1) := by
    rw [cell_of_row _ _ 0 (chgE x) 124 (0, 0) (heap_alloc_new w _), chgE_num]
  have e2 : (w.alloc (.cells (chgE x) 124)).cell? ⟨gw, 0, none⟩ = some (.int .i64 (wd : Int)) := (hb.cell (p := ⟨gw, 0, none⟩) hlt).trans hw
  have hi : IntKind.i64.wrap ((wd : Int) - 3) = (wd : Int) - 3 := IntWalk.i64_in _ (by omega)
  by_cases h0 : x.1 < 0
  · have h0' : decide (x.1 < 0) = true := decide_eq_true h0
    go_enter Try.func135, Try.ntmps135
    go_wp2
    go_ret
    exact ⟨ret_bool (by rw [h0']; rfl), hb⟩
  · have h0' : decide (x.1 < 0) = false := decide_eq_false h0
    go_enter Try.func135, Try.ntmps135
    go_wp2
    go_ret
    exact ⟨ret_bool (by first | rfl | (rw [h0']; rfl)), hb⟩
theorem info124 {x : Chg} (hx : x.2.length = 8) : (Try.prog.info? 124).map (·.size) = some (chgE x).size := by rw [chgE_size hx]; kernel_rfl
theorem info69 {x : Chg} (hx : x.2.length = 8) : (Try.prog.info? 69).map (·.size) = some (chgE x).size := by rw [chgE_size hx]; kernel_rfl
set_option maxRecDepth 100000 in
set_option maxHeartbeats 1000000 in
theorem index148 {gw : Nat} {wd : Nat} (h16 : wd ≤ 65536) (h : Chgs p w A n c l) (hw : w.cell? ⟨gw, 0, none⟩ = some (.int .i64 (wd : Int))) (hlt : gw < w.heap.size) :
    Calls Try.prog 148 #[.slice A n c, .func (.func 135) #[] #[.pointer (some ⟨gw, 0, none⟩)]] w fun e w' => (∃ r : Int, e = .returned (.int .i64 r) ∧ (0 ≤ r ↔ okC wd l = false)) ∧ Below w.heap.size w w' := by
  have hn := h.elm.len
  have hl := Lib.hid h.len
  go_enter Try.func148, Try.ntmps148
  go_wp2
  go_loopw [5, 8] (fun _ i wr => ∃ k : Nat, k ≤ n ∧ i = .int .i64 k ∧ (∀ j, j < k → 0 ≤ (cget l j).1 ∧ (cget l j).1 < (wd : Int) - 3) ∧ Below w.heap.size w wr) (fun _ i _ => n - (intOf i).toNat)
  case atStart => exact ⟨0, by omega, rfl, fun j hj => absurd hj (Nat.not_lt_zero _), Below.refl _ _⟩
  case round =>
    obtain ⟨k, hk, rfl, hall, hbw⟩ := hrel
    replace hall := Lib.hid hall
    by_cases hltk : k < n
    · obtain ⟨b1, o, rfl, _, hlt1, hc⟩ := h.at_ (by omega)
      have hx := h.blk k hltk
      have e1 : ∀ j, j < (chgE (cget l k)).size → wr.cell? ⟨b1, o + k * 9 + j, none⟩ = (chgE (cget l k))[j]? := fun j hj => (hbw.cell (by exact hlt1)).trans ((hc k hltk).2.2 j (by rwa [chgE_size hx] at hj))
      have ew : wr.cell? ⟨gw, 0, none⟩ = some (.int .i64 (wd : Int)) := (hbw.cell (p := ⟨gw, 0, none⟩) hlt).trans hw
      have hcl := cl135 h16 hx ew (Nat.lt_of_lt_of_le hlt hbw.size)
      clear hc
      have d1 : (0 : Int) ≤ (k : Int) := Int.natCast_nonneg _
      have d2 : (k : Int) < (n : Int) := by omega
      replace e1 := Lib.hid e1
      by_cases hbad : (cget l k).1 < 0 ∨ (wd : Int) - 3 ≤ (cget l k).1
      · have hv : (decide ((cget l k).1 < 0) || decide ((wd : Int) - 3 ≤ (cget l k).1)) = true := by simpa using hbad
        rw [hv] at hcl
        have hno := Lib.hid (okC_no (by rw [hl.out]; exact hltk) hbad)
        clear hv hbad
        go_wp2_with (first | (with_reducible refine wpl_load_agg rfl rfl rfl Try.underlying124 rfl (info124 hx) e1.out ?_) | (go_at_call 135; (with_reducible refine hcl.mono ?_); rintro e w' ⟨rfl, hb2⟩))
        go_ret
        exact ⟨⟨k, rfl, fun _ => hno.out, fun _ => d1⟩, below_then2 hbw hb2⟩
      · have hv : (decide ((cget l k).1 < 0) || decide ((wd : Int) - 3 ≤ (cget l k).1)) = false := by simp only [Bool.or_eq_false_iff, decide_eq_false_iff_not]; exact ⟨fun h => hbad (.inl h), fun h => hbad (.inr h)⟩
        rw [hv] at hcl
        replace hbad := Lib.hid hbad
        clear hv
        go_wp2_with (first | (with_reducible refine wpl_load_agg rfl rfl rfl Try.underlying124 rfl (info124 hx) e1.out ?_) | (go_at_call 135; (with_reducible refine hcl.mono ?_); rintro e w' ⟨rfl, hb2⟩))
        go_roundw
        case rel => exact ⟨k + 1, by omega, by go_num, fun j hj => by
          rcases Nat.lt_succ_iff_lt_or_eq.1 hj with hj | rfl
          · exact hall.out j hj
          · have := hbad.out; omega, below_then2 hbw hb2⟩
        case measure => simp [intOf]; omega
    · obtain rfl : k = n := by omega
      have hyes := Lib.hid (okC_yes (wd := (wd : Int)) (l := l) fun i hi => hall.out i (by rw [← hl.out]; exact hi))
      go_wp2
      go_ret
      exact ⟨⟨-1, rfl, fun h => absurd h (by omega), fun h => by rw [hyes.out] at h; cases h⟩, hbw⟩
set_option maxRecDepth 100000 in
theorem contains134 {gw : Nat} {wd : Nat} (h16 : wd ≤ 65536) (h : Chgs p w A n c l) (hw : w.cell? ⟨gw, 0, none⟩ = some (.int .i64 (wd : Int))) (hlt : gw < w.heap.size) :
    Calls Try.prog 134 #[.slice A n c, .func (.func 135) #[] #[.pointer (some ⟨gw, 0, none⟩)]] w fun e w' => e = .returned (.bool (!okC wd l)) ∧ Below w.heap.size w w' := by
  have hi := index148 h16 h hw hlt
  cases hc : okC wd l with
  | false =>
    rw [hc] at hi
    go_enter Try.func134, Try.ntmps134
    go_wp2_with (go_at_call 148; (with_reducible refine hi.mono ?_); rintro e w' ⟨⟨r, rfl, hr2⟩, hb2⟩; have hr3 : (0 : Int) ≤ r := hr2.2 rfl; clear hr2)
    go_ret
    exact ⟨rfl, hb2⟩
  | true =>
    rw [hc] at hi
    go_enter Try.func134, Try.ntmps134
    go_wp2_with (go_at_call 148; (with_reducible refine hi.mono ?_); rintro e w' ⟨⟨r, rfl, hr2⟩, hb2⟩; have hr3 : ¬ (0 : Int) ≤ r := (fun h => by have := hr2.1 h; cases this); clear hr2)
    go_ret
    exact ⟨ret_bool (by rw [decide_eq_false (show ¬ (0 : Int) ≤ r by omega)]; rfl), hb2⟩
set_option maxRecDepth 100000 in
theorem changes_any {wd : Nat} (h16 : wd ≤ 65536) (h : Chgs p w A n c l) : Calls Try.prog 101 #[.int .i64 (wd : Int), .slice A n c] w fun e w' => e = .returned (.bool (okC wd l)) ∧ Below w.heap.size w w' := by
  have hb0 : Below w.heap.size w (w.alloc (.cells #[.int .i64 (wd : Int)] 3)) := (Below.refl _ _).alloc (Nat.le_refl _) _
  have hc0 : (w.alloc (.cells #[.int .i64 (wd : Int)] 3)).cell? ⟨w.heap.size, 0, none⟩ = some (.int .i64 (wd : Int)) := by
    rw [cell_of_row _ _ 0 #[.int .i64 (wd : Int)] 3 (0, 0) (heap_alloc_new w _)]; rfl
  have hcc := contains134 h16 (h.below hb0) hc0 (by simp)
  go_enter Try.func101, Try.ntmps101
  go_wp2_with (go_at_call 134; (with_reducible refine hcc.mono ?_); rintro e w' ⟨rfl, hb2⟩)
  go_ret
  exact ⟨by simp, below_then2 hb0 hb2⟩
set_option maxRecDepth 100000 in
set_option maxHeartbeats 1000000 in
theorem proper_any {wd : Nat} (h16 : wd ≤ 65536) (h : Chgs p w A n c l) : Calls Try.prog 105 #[.int .i64 (wd : Int), .slice A n c] w fun e w' => e = .returned (.bool (okC wd l)) ∧ w = w' := by
  have hn := h.elm.len
  have hl := Lib.hid h.len
  have hi3 : IntKind.i64.wrap ((wd : Int) - 3) = (wd : Int) - 3 := IntWalk.i64_in _ (by omega)
  go_enter Try.func105, Try.ntmps105
  go_wp2
  go_loop [5] (fun i => ∃ k : Nat, k ≤ n ∧ i = .int .i64 k ∧ (∀ j, j < k → 0 ≤ (cget l j).1 ∧ (cget l j).1 < (wd : Int) - 3)) (fun i => n - (intOf i).toNat)
  case atStart => exact ⟨0, by omega, rfl, fun j hj => absurd hj (Nat.not_lt_zero _)⟩
  case round =>
    obtain ⟨k, hk, rfl, hall⟩ := hrel
    replace hall := Lib.hid hall
    by_cases hltk : k < n
    · obtain ⟨b1, o, rfl, _, hlt1, hc⟩ := h.at_ (by omega)
      have e1 := (hc k hltk).1
      clear hc
      have d1 : (0 : Int) ≤ (k : Int) := Int.natCast_nonneg _
      have d2 : (k : Int) < (n : Int) := by omega
      obtain ⟨z, hz⟩ : ∃ z, z = (cget l k).1 := ⟨_, rfl⟩
      rw [← hz] at e1
      replace hz := Lib.hid hz
      by_cases h1 : z < 0
      · have hno := Lib.hid (okC_no (wd := (wd : Int)) (by rw [hl.out]; exact hltk) (.inl (by rw [← hz.out]; exact h1)))
        have h1' : decide (z < 0) = true := decide_eq_true h1
        go_wp2
        go_ret
        exact ⟨ret_bool (by rw [hno.out]), rfl⟩
      · by_cases h2 : (wd : Int) - 3 ≤ z
        · have hno := Lib.hid (okC_no (wd := (wd : Int)) (by rw [hl.out]; exact hltk) (.inr (by rw [← hz.out]; exact h2)))
          have h1' : decide (z < 0) = false := decide_eq_false h1
          go_wp2
          go_ret
          exact ⟨ret_bool (by rw [hno.out]), rfl⟩
        · have h1' : decide (z < 0) = false := decide_eq_false h1
          go_wp2
          go_round
          case rel => exact ⟨k + 1, by omega, by go_num, fun j hj => by
            rcases Nat.lt_succ_iff_lt_or_eq.1 hj with hj | rfl
            · exact hall.out j hj
            · rw [← hz.out]; omega⟩
          case measure => simp [intOf]; omega
    · obtain rfl : k = n := by omega
      have hyes := Lib.hid (okC_yes (wd := (wd : Int)) (l := l) fun i hi => hall.out i (by rw [← hl.out]; exact hi))
      go_wp2
      go_ret
      exact ⟨ret_bool hyes.out.symm, rfl⟩
end
end Go.Proofs.Ytifhjigkljdkmaa
