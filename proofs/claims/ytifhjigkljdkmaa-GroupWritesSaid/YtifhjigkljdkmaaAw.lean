/- tegulalaw24.awake (48): the examples of chapter 24 hold. -/
import Derived.Test.YtifhjigkljdkmaaAp
import Derived.Test.YtifhjigkljdkmaaGl
namespace Go.Proofs.Ytifhjigkljdkmaa
open Go.RowKit
open Gf (F)
set_option linter.unusedSimpArgs false
set_option linter.unusedVariables false
/-- A list of numbers laid out in a new block. -/
theorem ints_new (w : World) (l : List Int) (t : TypeId) (hl : l.length ≤ maxLen) : Ints (fun _ => True) (w.alloc (.cells (l.map (Value.int .i64)).toArray t)) (some ⟨w.heap.size, 0, none⟩) l.length l.length l := by
  have h := World.rowIs_alloc w (l.map (Value.int .i64)).toArray t (fun j => .int .i64 (nti l j)) (fun i hi => by
    simp only [List.size_toArray, List.length_map] at hi
    simp [hi, nti_of_lt hi])
  have e : (l.map (Value.int .i64)).toArray.size = l.length := by simp
  rw [e] at h
  exact ⟨rfl, Row.of_rowIs h trivial hl⟩
theorem reads1 : readsL 8 [0] [false, false, false, false, false, false, false, false] = [0, 5, 6, 7] := by decide +kernel
theorem reads2 : readsL 8 [1, 3] [false, false, false, false, false, false, false, false] = [0, 2, 4] := by decide +kernel
theorem mk67 (w : World) : (Instr.makeSlice 67 (.int .i64 8) (.int .i64 8)).run Try.prog w = .ok (.slice (some ⟨w.heap.size, 0, none⟩) 8 8) (w.alloc (.cells (Array.replicate 8 (.bool false)) 4)) := by kernel_rfl
theorem bools_new (w : World) (n : Nat) (hn : n ≤ maxLen) (t : TypeId) : Bools (fun _ => True) (w.alloc (.cells (Array.replicate n (.bool false)) t)) (some ⟨w.heap.size, 0, none⟩) n n (List.replicate n false) := by
  have h := World.rowIs_alloc w (Array.replicate n (.bool false)) t (fun j => .bool (ntb (List.replicate n false) j)) (fun i hi => by
    rw [Array.size_replicate] at hi
    rw [Array.getElem?_replicate, if_pos hi]
    simp [ntb, hi])
  rw [Array.size_replicate] at h
  exact ⟨by simp, Row.of_rowIs h trivial hn⟩
theorem awr1 {w : World} {A B : Option Addr} (h : Ints (fun _ => True) w A 1 1 [0]) (g : Bools (fun _ => True) w B 8 8 (List.replicate 8 false)) : Calls Try.prog 57 #[.int .i64 8, .slice A 1 1, .slice B 8 8] w fun e w' => ∃ A' c', e = .returned (.tuple #[.slice A' 4 c', .int .i64 0]) ∧ Ints (fun _ => True) w' A' 4 c' [0, 5, 6, 7] ∧ Below w.heap.size w w' := by
  have := greads_ok (wd := 8) h g (by omega) (by omega) (by intro j hj; obtain rfl : j = 0 := (by omega); decide) (by decide +kernel) (by omega)
  rw [show readsL 8 [0] (List.replicate 8 false) = [0, 5, 6, 7] from reads1] at this
  exact this
theorem awr2 {w : World} {A B : Option Addr} (h : Ints (fun _ => True) w A 2 2 [1, 3]) (g : Bools (fun _ => True) w B 8 8 (List.replicate 8 false)) : Calls Try.prog 57 #[.int .i64 8, .slice A 2 2, .slice B 8 8] w fun e w' => ∃ A' c', e = .returned (.tuple #[.slice A' 3 c', .int .i64 0]) ∧ Ints (fun _ => True) w' A' 3 c' [0, 2, 4] ∧ Below w.heap.size w w' := by
  have := greads_ok (wd := 8) h g (by omega) (by omega) (by intro j hj; rcases (show j = 0 ∨ j = 1 by omega) with rfl | rfl <;> decide) (by decide +kernel) (by omega)
  rw [show readsL 8 [1, 3] (List.replicate 8 false) = [0, 2, 4] from reads2] at this
  exact this
def b7 : List F := [7, 0, 0, 0, 0, 0, 0, 0]
theorem aw_con : conB (zerosM 4) = true := by decide +kernel
theorem aw_out : appO (zerosM 4) [(0, b7)] = [b7, b7, b7, b7] := by decide +kernel
theorem aw_dif : diffL (zerosM 4) (appO (zerosM 4) [(0, b7)]) = [0, 1, 2, 3] := by decide +kernel
theorem awz (w : World) : Calls Try.prog 54 #[.int .i64 4] w fun e w' => ∃ g, e = .returned (.slice (some ⟨g, 0, none⟩) 4 4) ∧ OwnB w' w.heap.size (.slice (some ⟨g, 0, none⟩) 4 4) 4 (zerosM 4) ∧ Below w.heap.size w w' := zero_ok (n := 4) (by omega) (by omega) w
/-- The one change of the example, laid out in a new block. -/
theorem chg_new (w : World) : Chgs (fun _ => True) (w.alloc (.cells #[.int .i64 0, .int .u8 7, .int .u8 0, .int .u8 0, .int .u8 0, .int .u8 0, .int .u8 0, .int .u8 0, .int .u8 0] 124)) (some ⟨w.heap.size, 0, none⟩) 1 1 [(0, b7)] := by
  have he := elm_one (w := w) (s := 9) (chgE (0, b7)) 124 (by decide) (chgE_one _)
  refine ⟨rfl, fun i hi => ?_, (he.mono fun _ _ _ => trivial).congr fun j hj => ?_⟩
  · obtain rfl : i = 0 := by omega
    rfl
  · obtain rfl : j = 0 := by omega
    rfl
def AwPost (w : World) (e : Ending) (w' : World) : Prop :=
  ∃ b c A2 c2, e = .returned (.tuple #[.slice (some b) 4 c, .slice A2 4 c2, .int .i64 0]) ∧ b.spot = none ∧ (∀ k, k < 8 → w'.cell? ⟨b.block, b.off + 1 * 8 + k, none⟩ = (agc b7)[k]?) ∧ Below w.heap.size w w'
theorem awa {w : World} {A B : Option Addr} {p : Nat → Prop} (h : Blks p w A 4 4 (zerosM 4)) (g : Chgs (fun _ => True) w B 1 1 [(0, b7)]) : Calls Try.prog 49 #[.slice A 4 4, .slice B 1 1] w (fun e w' => ∃ b o c A2 c2, e = .returned (.tuple #[.slice (some ⟨b, o, none⟩) 4 c, .slice A2 4 c2, .int .i64 0]) ∧ (∀ k, k < 8 → w'.cell? ⟨b, o + 1 * 8 + k, none⟩ = some (.int .u8 ((nth b7 k).toNat : Int))) ∧ Below w.heap.size w w') :=
  (gapply_ok h g aw_con (by decide +kernel)).mono fun e w' he => by
    obtain ⟨A', c', A2, c2, h1, h2, h3, h4⟩ := he
    rw [aw_dif] at h1
    rw [aw_out] at h2
    obtain ⟨b, o, e1, _, _, hc⟩ := h2.at_ (by omega)
    subst e1
    exact ⟨b, o, c', A2, c2, h1, fun k hk => hc 1 (by omega) k hk, h4⟩
theorem awc1 (W : World) : Calls Try.prog 57 #[.int .i64 8, .slice (some ⟨W.heap.size, 0, none⟩) 1 1, .slice (some ⟨W.heap.size + 1, 0, none⟩) 8 8] ((W.alloc (.cells #[.int .i64 0] 3)).alloc (.cells (Array.replicate 8 (.bool false)) 4))
    fun e w' => ∃ A' c', e = .returned (.tuple #[.slice A' 4 c', .int .i64 0]) ∧ Ints (fun _ => True) w' A' 4 c' [0, 5, 6, 7] ∧ Below W.heap.size W w' := by
  have i1 := ints_new W [0] 3 (by unfold maxLen; simp)
  have i2 := i1.below ((Below.refl _ _).alloc (Nat.le_refl _) (.cells (Array.replicate 8 (.bool false)) 4))
  have g2 := bools_new (W.alloc (.cells #[.int .i64 0] 3)) 8 (by unfold maxLen; omega) 4
  rw [size_alloc1] at g2
  refine (awr1 i2 g2).mono fun e w' he => ?_
  obtain ⟨A', c', h1, h2, h3⟩ := he
  exact ⟨A', c', h1, h2, below_then2 (((Below.refl _ _).alloc (Nat.le_refl _) _).alloc (by simp) _) h3⟩
theorem awc2 (W : World) : Calls Try.prog 57 #[.int .i64 8, .slice (some ⟨W.heap.size, 0, none⟩) 2 2, .slice (some ⟨W.heap.size + 1, 0, none⟩) 8 8] ((W.alloc (.cells #[.int .i64 1, .int .i64 3] 3)).alloc (.cells (Array.replicate 8 (.bool false)) 4))
    fun e w' => ∃ A' c', e = .returned (.tuple #[.slice A' 3 c', .int .i64 0]) ∧ Ints (fun _ => True) w' A' 3 c' [0, 2, 4] ∧ Below W.heap.size W w' := by
  have i1 := ints_new W [1, 3] 3 (by unfold maxLen; simp)
  have i2 := i1.below ((Below.refl _ _).alloc (Nat.le_refl _) (.cells (Array.replicate 8 (.bool false)) 4))
  have g2 := bools_new (W.alloc (.cells #[.int .i64 1, .int .i64 3] 3)) 8 (by unfold maxLen; omega) 4
  rw [size_alloc1] at g2
  refine (awr2 i2 g2).mono fun e w' he => ?_
  obtain ⟨A', c', h1, h2, h3⟩ := he
  exact ⟨A', c', h1, h2, below_then2 (((Below.refl _ _).alloc (Nat.le_refl _) _).alloc (by simp) _) h3⟩
theorem awc3 {W : World} {g B : Nat} (hO : OwnB W B (.slice (some ⟨g, 0, none⟩) 4 4) 4 (zerosM 4)) : Calls Try.prog 49 #[.slice (some ⟨g, 0, none⟩) 4 4, .slice (some ⟨W.heap.size, 0, none⟩) 1 1] (W.alloc (.cells #[.int .i64 0, .int .u8 7, .int .u8 0, .int .u8 0, .int .u8 0, .int .u8 0, .int .u8 0, .int .u8 0, .int .u8 0] 124))
    (fun e w' => ∃ b o c A2 c2, e = .returned (.tuple #[.slice (some ⟨b, o, none⟩) 4 c, .slice A2 4 c2, .int .i64 0]) ∧ (∀ k, k < 8 → w'.cell? ⟨b, o + 1 * 8 + k, none⟩ = some (.int .u8 ((nth b7 k).toNat : Int))) ∧ Below W.heap.size W w') := by
  have hb : Below W.heap.size W (W.alloc (.cells #[.int .i64 0, .int .u8 7, .int .u8 0, .int .u8 0, .int .u8 0, .int .u8 0, .int .u8 0, .int .u8 0, .int .u8 0] 124)) := (Below.refl _ _).alloc (Nat.le_refl _) _
  obtain ⟨A, c, e, hB⟩ := (hO.below hb).blks
  cases e
  refine (awa hB (chg_new W)).mono fun e w' he => ?_
  obtain ⟨b, o, c, A2, c2, h1, h2, h3⟩ := he
  exact ⟨b, o, c, A2, c2, h1, h2, below_then2 hb h3⟩
theorem si1 {w : World} {A : Option Addr} {c : Nat} (h : Ints (fun _ => True) w A 4 c [0, 5, 6, 7]) : Calls Try.prog 53 #[.slice A 4 c, .slice (some ⟨w.heap.size, 0, none⟩) 4 4] (w.alloc (.cells #[.int .i64 0, .int .i64 5, .int .i64 6, .int .i64 7] 3)) fun e w' => e = .returned (.bool true) ∧ Below w.heap.size w w' := by
  have hb : Below w.heap.size w (w.alloc (.cells #[.int .i64 0, .int .i64 5, .int .i64 6, .int .i64 7] 3)) := (Below.refl _ _).alloc (Nat.le_refl _) _
  refine (sameints24_any (h.below hb) (ints_new w [0, 5, 6, 7] 3 (by unfold maxLen; simp))).mono fun e w' he => ?_
  obtain ⟨h1, m, h2⟩ := he
  exact ⟨h1, h2 ▸ below_drewN hb m⟩
theorem si2 {w : World} {A : Option Addr} {c : Nat} (h : Ints (fun _ => True) w A 3 c [0, 2, 4]) : Calls Try.prog 53 #[.slice A 3 c, .slice (some ⟨w.heap.size, 0, none⟩) 3 3] (w.alloc (.cells #[.int .i64 0, .int .i64 2, .int .i64 4] 3)) fun e w' => e = .returned (.bool true) ∧ Below w.heap.size w w' := by
  have hb : Below w.heap.size w (w.alloc (.cells #[.int .i64 0, .int .i64 2, .int .i64 4] 3)) := (Below.refl _ _).alloc (Nat.le_refl _) _
  refine (sameints24_any (h.below hb) (ints_new w [0, 2, 4] 3 (by unfold maxLen; simp))).mono fun e w' he => ?_
  obtain ⟨h1, m, h2⟩ := he
  exact ⟨h1, h2 ▸ below_drewN hb m⟩
theorem eq7 (w : World) : (Op.equalIn 10000 64 (.agg #[.int .u8 7, .int .u8 0, .int .u8 0, .int .u8 0, .int .u8 0, .int .u8 0, .int .u8 0, .int .u8 0]) (.agg #[.int .u8 7, .int .u8 0, .int .u8 0, .int .u8 0, .int .u8 0, .int .u8 0, .int .u8 0, .int .u8 0])).run Try.prog w = .ok true w := run_equalIn_bytes w 9998 64 5 8 Try.underlying64 Try.underlying5 sizeOf5 b7 b7 rfl rfl
set_option maxRecDepth 100000 in
set_option maxHeartbeats 2000000 in
theorem awake24_any (w : World) : Calls Try.prog 48 #[] w fun e w' => e = .returned (.bool true) ∧ Below w.heap.size w w' := by
  have m1 := mk67
  have m2 := eq7
  go_enter Try.func48, Try.ntmps48
  go_wp2_with (first | (go_at_call 57; (with_reducible refine (awc1 _).mono ?_); rintro e w1 ⟨A1, k1, rfl, hi1, hb1⟩) | (go_at_call 57; (with_reducible refine (awc2 _).mono ?_); rintro e w2 ⟨A2, k2, rfl, hi2, hb2⟩; have hB2 := below_then2 hb1 hb2; have hi1' := hi1.below hb2) | (go_at_call 54; (with_reducible refine (awz _).mono ?_); rintro e w3 ⟨g3, rfl, hO3, hb3⟩; have hB3 := below_then2 hB2 hb3; have hi13 := hi1'.below hb3; have hi23 := hi2.below hb3; obtain ⟨g3', c3', e3', hg3, hg3l⟩ := hO3.form (by omega); cases e3') | (go_at_call 49; (with_reducible refine (awc3 hO3).mono ?_); rintro e w4 ⟨b4, o4, c4, A4, k4, rfl, hc4, hb4⟩; have hB4 := below_then2 hB3 hb4; have hi14 := hi13.below hb4; have hi24 := hi23.below hb4; have hl4 := World.block_lt_of_cell? _ _ (hc4 0 (by decide))) | (go_at_call 53; (with_reducible refine (si1 hi14).mono ?_); rintro e w5 ⟨rfl, hb5⟩; have hi25 := hi24.below hb5; have hB5 := below_then2 hB4 hb5) | (go_at_call 53; (with_reducible refine (si2 hi25).mono ?_); rintro e w6 ⟨rfl, hb6⟩; have hB6 := below_then2 hB5 hb6; have hq : ∀ k, k < 8 → w6.cell? ⟨b4, o4 + 8 + k, none⟩ = some (.int .u8 ((nth b7 k).toNat : Int)) := (fun k hk => (hb6.cell (p := ⟨b4, o4 + 8 + k, none⟩) (Nat.lt_of_lt_of_le hl4 hb5.size)).trans ((hb5.cell (p := ⟨b4, o4 + 8 + k, none⟩) hl4).trans (hc4 k hk))); have q0 : w6.cell? ⟨b4, o4 + 8, none⟩ = some (.int .u8 7) := hq 0 (by decide); have q1 : w6.cell? ⟨b4, o4 + 8 + 1, none⟩ = some (.int .u8 0) := hq 1 (by decide); have q2 : w6.cell? ⟨b4, o4 + 8 + 2, none⟩ = some (.int .u8 0) := hq 2 (by decide); have q3 : w6.cell? ⟨b4, o4 + 8 + 3, none⟩ = some (.int .u8 0) := hq 3 (by decide); have q4 : w6.cell? ⟨b4, o4 + 8 + 4, none⟩ = some (.int .u8 0) := hq 4 (by decide); have q5 : w6.cell? ⟨b4, o4 + 8 + 5, none⟩ = some (.int .u8 0) := hq 5 (by decide); have q6 : w6.cell? ⟨b4, o4 + 8 + 6, none⟩ = some (.int .u8 0) := hq 6 (by decide); have q7 : w6.cell? ⟨b4, o4 + 8 + 7, none⟩ = some (.int .u8 0) := hq 7 (by decide); clear hq))
  go_ret
  exact ⟨rfl, hB6⟩
end Go.Proofs.Ytifhjigkljdkmaa
