/- The contract of tegularef24.Reads. -/
import Derived.Test.YtifhjigkljdkmaaGb
namespace Go.Proofs.Ytifhjigkljdkmaa
open Go.RowKit
open Gf (F)
set_option linter.unusedSimpArgs false
set_option linter.unusedVariables false
theorem sel_range (P : Nat → Bool) (k : Nat) (j : Nat) (hj : j < (sel P k).length) : 0 ≤ nti (sel P k) j ∧ nti (sel P k) j < k := by
  have hm : nti (sel P k) j ∈ sel P k := nti_mem.2 ⟨j, hj, rfl⟩
  unfold sel at hm
  obtain ⟨t, ht, e⟩ := List.mem_map.1 hm
  have h2 := List.mem_range.1 (List.mem_filter.1 ht).1
  unfold sel
  rw [← e]
  exact ⟨Int.natCast_nonneg _, Int.ofNat_lt.2 h2⟩
def deltaL (wd : Nat) (l : List Int) : List Int := sel (deltaP wd l) wd
def restL (wd : Nat) (l : List Int) : List Int := sel (restP l) (wd - 3)
def goodL (wd : Nat) (b : List Bool) : List Int := sel (goodP b) wd
/-- The pieces that are read. -/
def readsL (wd : Nat) (l : List Int) (b : List Bool) : List Int :=
  if l.length = 0 then [] else
  if cleanB (deltaL wd l) b = true ∧ (cleanB (restL wd l) b = false ∨ (deltaL wd l).length ≤ (restL wd l).length) ∧ (deltaL wd l).length ≤ wd - 3 then deltaL wd l else
  if cleanB (restL wd l) b = true then restL wd l else (goodL wd b).take (wd - 3)
section
variable {p q : Nat → Prop} {w w' : World} {A B : Option Addr} {n c m d wd : Nat} {l k : List Int} {b : List Bool}
theorem nti_take {l : List Int} {k j : Nat} (h : j < k) : nti (l.take k) j = nti l j := by
  unfold nti
  rw [List.getD_eq_getElem?_getD, List.getD_eq_getElem?_getD, List.getElem?_take_of_lt h]
theorem Ints.pre (h : Ints p w A n c l) {k : Nat} (hk : k ≤ n) : Ints p w A k c (l.take k) :=
  ⟨by have := h.len; simp; omega, ⟨by have := h.row.le; omega, h.row.cap, fun h0 => by
    obtain ⟨b, o, e, hp, hlt, hc⟩ := h.row.at_ (by omega)
    exact ⟨b, o, e, hp, hlt, fun j hj => by rw [nti_take hj]; exact hc j (by omega)⟩⟩⟩
def ReadsPost (w : World) (r : List Int) (e : Ending) (w' : World) : Prop :=
  ∃ A' c', e = .returned (.tuple #[.slice A' r.length c', .int .i64 0]) ∧ Ints (fun _ => True) w' A' r.length c' r ∧ Below w.heap.size w w'

set_option maxRecDepth 100000 in
set_option maxHeartbeats 4000000 in
theorem rreads_touch (h : Ints p w A n c l) (g : Bools q w B wd d b) (h4 : 4 ≤ wd) (h16 : wd ≤ 16) (ht : ¬ TouchOk wd n l) : Calls Try.prog 58 #[.int .i64 (wd : Int), .slice A n c, .slice B wd d] w fun e w' => e = .returned (.tuple #[.slice none 0 0, .int .i64 1]) ∧ ∃ nd, w' = w.drewN nd := by
  have hwide : wideB (wd : Int) = true := by unfold wideB; simp; omega
  go_enter Try.func58, Try.ntmps58
  go_wp2_with (go_at_call 104; (with_reducible refine (wide24_any (wd : Int) _).mono ?_); rw [hwide]; rintro e w' ⟨rfl, rfl⟩)
  refine rd0 h h4 h16 (fun x6 x7 x8 x24 x25 x26 x27 x28 x29 x30 x31 x32 x33 x34 x35 x36 x37 x38 x39 x40 x41 x42 x43 x44 x45 x46 x47 x48 x49 x50 x51 x52 x53 x54 x55 x56 x57 x58 x59 w1 h1 => ?_) (fun x8 x24 x25 x26 x27 x28 x29 x30 x31 x32 x33 x34 x35 x36 x37 x38 x39 x40 x41 x42 x43 x44 x45 x46 x47 x48 x49 x50 x51 x52 x53 x54 x55 x56 x57 x58 x59 w1 h1 => ?_)
  · exact absurd h1.1 ht
  · obtain ⟨_, nd, rfl⟩ := h1
    go_ret2
    exact ⟨rfl, nd, rfl⟩

set_option maxRecDepth 100000 in
set_option maxHeartbeats 4000000 in
theorem rreads_lost (h : Ints p w A n c l) (g : Bools q w B wd d b) (h4 : 4 ≤ wd) (h16 : wd ≤ 16) (ht : TouchOk wd n l) (hl : (goodL wd b).length < wd - 3) : Calls Try.prog 58 #[.int .i64 (wd : Int), .slice A n c, .slice B wd d] w fun e w' => e = .returned (.tuple #[.slice none 0 0, .int .i64 12]) ∧ Below w.heap.size w w' := by
  have hwide : wideB (wd : Int) = true := by unfold wideB; simp; omega
  have hcnt : ((sel (goodP b) wd).length : Int) < (wd : Int) - 3 := by unfold goodL at hl; omega
  go_enter Try.func58, Try.ntmps58
  go_wp2_with (go_at_call 104; (with_reducible refine (wide24_any (wd : Int) _).mono ?_); rw [hwide]; rintro e w' ⟨rfl, rfl⟩)
  refine rd0 h h4 h16 (fun x6 x7 x8 x24 x25 x26 x27 x28 x29 x30 x31 x32 x33 x34 x35 x36 x37 x38 x39 x40 x41 x42 x43 x44 x45 x46 x47 x48 x49 x50 x51 x52 x53 x54 x55 x56 x57 x58 x59 w1 h1 => ?_) (fun x8 x24 x25 x26 x27 x28 x29 x30 x31 x32 x33 x34 x35 x36 x37 x38 x39 x40 x41 x42 x43 x44 x45 x46 x47 x48 x49 x50 x51 x52 x53 x54 x55 x56 x57 x58 x59 w1 h1 => ?_)
  · obtain ⟨_, nd, rfl⟩ := h1
    go_wp2
    refine rd2 (g.drewN nd) h4 h16 (fun x9 x10 x60 x61 x62 x63 x64 x65 x66 x67 x68 x69 x70 x71 x72 x73 w2 h2 => ?_)
    obtain ⟨A9, c9, rfl, hg, hb2⟩ := h2
    have hB2 : Below w.heap.size w w2 := below_then2 (below_drewN (Below.refl _ _) nd) hb2
    go_wp2
    go_ret2
    exact ⟨rfl, hB2⟩
  · exact absurd ht h1.1

set_option maxRecDepth 100000 in
set_option maxHeartbeats 4000000 in
theorem rreads_none (h : Ints p w A n c l) (g : Bools q w B wd d b) (h4 : 4 ≤ wd) (h16 : wd ≤ 16) (ht : TouchOk wd n l) (hl : ¬ (goodL wd b).length < wd - 3) (h0 : n = 0) {vA vB : Bool} (hA : cleanB (sel (deltaP wd l) wd) b = vA) (hB : cleanB (sel (restP l) (wd - 3)) b = vB) : Calls Try.prog 58 #[.int .i64 (wd : Int), .slice A n c, .slice B wd d] w (ReadsPost w (readsL wd l b)) := by
  have hwide : wideB (wd : Int) = true := by unfold wideB; simp; omega
  have hcnt : ¬ (((sel (goodP b) wd).length : Int) < (wd : Int) - 3) := by unfold goodL at hl; omega
  have hwl : (wd : Int) - 3 = ((wd - 3 : Nat) : Int) := by omega
  have hll := Lib.hid h.len
  have hrA : ∀ j, j < (sel (deltaP wd l) wd).length → 0 ≤ nti (sel (deltaP wd l) wd) j ∧ nti (sel (deltaP wd l) wd) j < wd := fun j hj => sel_range _ _ j hj
  have hrB : ∀ j, j < (sel (restP l) (wd - 3)).length → 0 ≤ nti (sel (restP l) (wd - 3)) j ∧ nti (sel (restP l) (wd - 3)) j < wd := fun j hj => by have := sel_range (restP l) (wd - 3) j hj; omega
  replace hrA := Lib.hid hrA
  replace hrB := Lib.hid hrB
  replace hwl := Lib.hid hwl
  subst h0
  replace hll := hll.out
  go_enter Try.func58, Try.ntmps58
  go_wp2_with (go_at_call 104; (with_reducible refine (wide24_any (wd : Int) _).mono ?_); rw [hwide]; rintro e w' ⟨rfl, rfl⟩)
  refine rd0 h h4 h16 (fun x6 x7 x8 x24 x25 x26 x27 x28 x29 x30 x31 x32 x33 x34 x35 x36 x37 x38 x39 x40 x41 x42 x43 x44 x45 x46 x47 x48 x49 x50 x51 x52 x53 x54 x55 x56 x57 x58 x59 w1 h1 => ?_) (fun x8 x24 x25 x26 x27 x28 x29 x30 x31 x32 x33 x34 x35 x36 x37 x38 x39 x40 x41 x42 x43 x44 x45 x46 x47 x48 x49 x50 x51 x52 x53 x54 x55 x56 x57 x58 x59 w1 h1 => ?_)
  · obtain ⟨_, nd, rfl⟩ := h1
    go_wp2
    refine rd2 (g.drewN nd) h4 h16 (fun x9 x10 x60 x61 x62 x63 x64 x65 x66 x67 x68 x69 x70 x71 x72 x73 w2 h2 => ?_)
    obtain ⟨A9, c9, rfl, hg, hb2⟩ := h2
    have hB2 : Below w.heap.size w w2 := below_then2 (below_drewN (Below.refl _ _) nd) hb2
    have h2' := (h.drewN nd).below hb2
    have g2 := (g.drewN nd).below hb2
    have hcap : (wd : Int) - 3 ≤ (c9 : Int) := by (have h1 := hg.row.le; have hl' := hl; unfold goodL at hl'; omega)
    go_wp2_with (first | (go_at_call 59; (with_reducible refine (delta24_any wd h4 h16 h2').mono ?_); rintro e w3 ⟨A3, c3, rfl, hd3, hb3⟩; have hB3 := below_then2 hB2 hb3; have h3 := h2'.below hb3; have g3 := g2.below hb3; have hg3 := hg.below hb3) | (go_at_call 60; (with_reducible refine (rest24_any wd h4 h16 h3).mono ?_); rintro e w4 ⟨A4, c4, rfl, hr4, hb4⟩; have hB4 := below_then2 hB3 hb4; have g4 := g3.below hb4; have hd4 := hd3.below hb4; have hg4 := hg3.below hb4) | (go_at_call 61; (with_reducible refine (clean_any hd4 g4 hrA.out).mono ?_); rw [hA]; rintro e w5 ⟨rfl, rfl⟩) | (go_at_call 61; (with_reducible refine (clean_any hr4 g4 hrB.out).mono ?_); rw [hB]; rintro e w5 ⟨rfl, rfl⟩))
    go_ret2
    have e : readsL wd l b = [] := by unfold readsL; rw [if_pos hll]
    rw [e]
    exact ⟨none, 0, rfl, ⟨rfl, Row.nil _ _ _ (Nat.zero_le _) _⟩, hB4⟩
  · exact absurd ht h1.1

set_option maxRecDepth 100000 in
set_option maxHeartbeats 4000000 in
theorem rreads_a1 (h : Ints p w A n c l) (g : Bools q w B wd d b) (h4 : 4 ≤ wd) (h16 : wd ≤ 16) (ht : TouchOk wd n l) (hl : ¬ (goodL wd b).length < wd - 3) (h0 : ¬ (n = 0)) (hA : cleanB (sel (deltaP wd l) wd) b = true) (hB : cleanB (sel (restP l) (wd - 3)) b = false) (la : ((sel (deltaP wd l) wd).length ≤ wd - 3))  : Calls Try.prog 58 #[.int .i64 (wd : Int), .slice A n c, .slice B wd d] w (ReadsPost w (readsL wd l b)) := by
  have hwide : wideB (wd : Int) = true := by unfold wideB; simp; omega
  have hcnt : ¬ (((sel (goodP b) wd).length : Int) < (wd : Int) - 3) := by unfold goodL at hl; omega
  have hwl : (wd : Int) - 3 = ((wd - 3 : Nat) : Int) := by omega
  have hll := Lib.hid h.len
  have hrA : ∀ j, j < (sel (deltaP wd l) wd).length → 0 ≤ nti (sel (deltaP wd l) wd) j ∧ nti (sel (deltaP wd l) wd) j < wd := fun j hj => sel_range _ _ j hj
  have hrB : ∀ j, j < (sel (restP l) (wd - 3)).length → 0 ≤ nti (sel (restP l) (wd - 3)) j ∧ nti (sel (restP l) (wd - 3)) j < wd := fun j hj => by have := sel_range (restP l) (wd - 3) j hj; omega
  replace hrA := Lib.hid hrA
  replace hrB := Lib.hid hrB
  replace hwl := Lib.hid hwl
  have hz : ¬ ((n : Int) = 0) := by omega
  have hll2 : ¬ l.length = 0 := by rw [hll.out]; exact h0
  replace hll2 := Lib.hid hll2
  have qa : decide (((sel (deltaP wd l) wd).length : Int) ≤ (wd : Int) - 3) = true := by simp; omega
  have qa2 : (((sel (deltaP wd l) wd).length : Int) ≤ (wd : Int) - 3) := by omega
  go_enter Try.func58, Try.ntmps58
  go_wp2_with (go_at_call 104; (with_reducible refine (wide24_any (wd : Int) _).mono ?_); rw [hwide]; rintro e w' ⟨rfl, rfl⟩)
  refine rd0 h h4 h16 (fun x6 x7 x8 x24 x25 x26 x27 x28 x29 x30 x31 x32 x33 x34 x35 x36 x37 x38 x39 x40 x41 x42 x43 x44 x45 x46 x47 x48 x49 x50 x51 x52 x53 x54 x55 x56 x57 x58 x59 w1 h1 => ?_) (fun x8 x24 x25 x26 x27 x28 x29 x30 x31 x32 x33 x34 x35 x36 x37 x38 x39 x40 x41 x42 x43 x44 x45 x46 x47 x48 x49 x50 x51 x52 x53 x54 x55 x56 x57 x58 x59 w1 h1 => ?_)
  · obtain ⟨_, nd, rfl⟩ := h1
    go_wp2
    refine rd2 (g.drewN nd) h4 h16 (fun x9 x10 x60 x61 x62 x63 x64 x65 x66 x67 x68 x69 x70 x71 x72 x73 w2 h2 => ?_)
    obtain ⟨A9, c9, rfl, hg, hb2⟩ := h2
    have hB2 : Below w.heap.size w w2 := below_then2 (below_drewN (Below.refl _ _) nd) hb2
    have h2' := (h.drewN nd).below hb2
    have g2 := (g.drewN nd).below hb2
    have hcap : (wd : Int) - 3 ≤ (c9 : Int) := by (have h1 := hg.row.le; have hl' := hl; unfold goodL at hl'; omega)
    go_wp2_with (first | (go_at_call 59; (with_reducible refine (delta24_any wd h4 h16 h2').mono ?_); rintro e w3 ⟨A3, c3, rfl, hd3, hb3⟩; have hB3 := below_then2 hB2 hb3; have h3 := h2'.below hb3; have g3 := g2.below hb3; have hg3 := hg.below hb3) | (go_at_call 60; (with_reducible refine (rest24_any wd h4 h16 h3).mono ?_); rintro e w4 ⟨A4, c4, rfl, hr4, hb4⟩; have hB4 := below_then2 hB3 hb4; have g4 := g3.below hb4; have hd4 := hd3.below hb4; have hg4 := hg3.below hb4) | (go_at_call 61; (with_reducible refine (clean_any hd4 g4 hrA.out).mono ?_); rw [hA]; rintro e w5 ⟨rfl, rfl⟩) | (go_at_call 61; (with_reducible refine (clean_any hr4 g4 hrB.out).mono ?_); rw [hB]; rintro e w5 ⟨rfl, rfl⟩))
    go_ret2
    have e : readsL wd l b = (sel (deltaP wd l) wd) := by unfold readsL deltaL restL goodL; rw [if_neg hll2.out]; simp [hA, hB, la]
    rw [e]
    exact ⟨_, _, rfl, hd4.mono fun _ _ _ => trivial, hB4⟩
  · exact absurd ht h1.1

set_option maxRecDepth 100000 in
set_option maxHeartbeats 4000000 in
theorem rreads_a2 (h : Ints p w A n c l) (g : Bools q w B wd d b) (h4 : 4 ≤ wd) (h16 : wd ≤ 16) (ht : TouchOk wd n l) (hl : ¬ (goodL wd b).length < wd - 3) (h0 : ¬ (n = 0)) (hA : cleanB (sel (deltaP wd l) wd) b = true) (hB : cleanB (sel (restP l) (wd - 3)) b = true) (lab : ((sel (deltaP wd l) wd).length ≤ (sel (restP l) (wd - 3)).length)) (la : ((sel (deltaP wd l) wd).length ≤ wd - 3))  : Calls Try.prog 58 #[.int .i64 (wd : Int), .slice A n c, .slice B wd d] w (ReadsPost w (readsL wd l b)) := by
  have hwide : wideB (wd : Int) = true := by unfold wideB; simp; omega
  have hcnt : ¬ (((sel (goodP b) wd).length : Int) < (wd : Int) - 3) := by unfold goodL at hl; omega
  have hwl : (wd : Int) - 3 = ((wd - 3 : Nat) : Int) := by omega
  have hll := Lib.hid h.len
  have hrA : ∀ j, j < (sel (deltaP wd l) wd).length → 0 ≤ nti (sel (deltaP wd l) wd) j ∧ nti (sel (deltaP wd l) wd) j < wd := fun j hj => sel_range _ _ j hj
  have hrB : ∀ j, j < (sel (restP l) (wd - 3)).length → 0 ≤ nti (sel (restP l) (wd - 3)) j ∧ nti (sel (restP l) (wd - 3)) j < wd := fun j hj => by have := sel_range (restP l) (wd - 3) j hj; omega
  replace hrA := Lib.hid hrA
  replace hrB := Lib.hid hrB
  replace hwl := Lib.hid hwl
  have hz : ¬ ((n : Int) = 0) := by omega
  have hll2 : ¬ l.length = 0 := by rw [hll.out]; exact h0
  replace hll2 := Lib.hid hll2
  have qab : decide (((sel (deltaP wd l) wd).length : Int) ≤ ((sel (restP l) (wd - 3)).length : Int)) = true := by simp; omega
  have qab2 : (((sel (deltaP wd l) wd).length : Int) ≤ ((sel (restP l) (wd - 3)).length : Int)) := by omega
  have qa : decide (((sel (deltaP wd l) wd).length : Int) ≤ (wd : Int) - 3) = true := by simp; omega
  have qa2 : (((sel (deltaP wd l) wd).length : Int) ≤ (wd : Int) - 3) := by omega
  go_enter Try.func58, Try.ntmps58
  go_wp2_with (go_at_call 104; (with_reducible refine (wide24_any (wd : Int) _).mono ?_); rw [hwide]; rintro e w' ⟨rfl, rfl⟩)
  refine rd0 h h4 h16 (fun x6 x7 x8 x24 x25 x26 x27 x28 x29 x30 x31 x32 x33 x34 x35 x36 x37 x38 x39 x40 x41 x42 x43 x44 x45 x46 x47 x48 x49 x50 x51 x52 x53 x54 x55 x56 x57 x58 x59 w1 h1 => ?_) (fun x8 x24 x25 x26 x27 x28 x29 x30 x31 x32 x33 x34 x35 x36 x37 x38 x39 x40 x41 x42 x43 x44 x45 x46 x47 x48 x49 x50 x51 x52 x53 x54 x55 x56 x57 x58 x59 w1 h1 => ?_)
  · obtain ⟨_, nd, rfl⟩ := h1
    go_wp2
    refine rd2 (g.drewN nd) h4 h16 (fun x9 x10 x60 x61 x62 x63 x64 x65 x66 x67 x68 x69 x70 x71 x72 x73 w2 h2 => ?_)
    obtain ⟨A9, c9, rfl, hg, hb2⟩ := h2
    have hB2 : Below w.heap.size w w2 := below_then2 (below_drewN (Below.refl _ _) nd) hb2
    have h2' := (h.drewN nd).below hb2
    have g2 := (g.drewN nd).below hb2
    have hcap : (wd : Int) - 3 ≤ (c9 : Int) := by (have h1 := hg.row.le; have hl' := hl; unfold goodL at hl'; omega)
    go_wp2_with (first | (go_at_call 59; (with_reducible refine (delta24_any wd h4 h16 h2').mono ?_); rintro e w3 ⟨A3, c3, rfl, hd3, hb3⟩; have hB3 := below_then2 hB2 hb3; have h3 := h2'.below hb3; have g3 := g2.below hb3; have hg3 := hg.below hb3) | (go_at_call 60; (with_reducible refine (rest24_any wd h4 h16 h3).mono ?_); rintro e w4 ⟨A4, c4, rfl, hr4, hb4⟩; have hB4 := below_then2 hB3 hb4; have g4 := g3.below hb4; have hd4 := hd3.below hb4; have hg4 := hg3.below hb4) | (go_at_call 61; (with_reducible refine (clean_any hd4 g4 hrA.out).mono ?_); rw [hA]; rintro e w5 ⟨rfl, rfl⟩) | (go_at_call 61; (with_reducible refine (clean_any hr4 g4 hrB.out).mono ?_); rw [hB]; rintro e w5 ⟨rfl, rfl⟩))
    go_ret2
    have e : readsL wd l b = (sel (deltaP wd l) wd) := by unfold readsL deltaL restL goodL; rw [if_neg hll2.out]; simp [hA, hB, lab, la]
    rw [e]
    exact ⟨_, _, rfl, hd4.mono fun _ _ _ => trivial, hB4⟩
  · exact absurd ht h1.1

set_option maxRecDepth 100000 in
set_option maxHeartbeats 4000000 in
theorem rreads_b1 (h : Ints p w A n c l) (g : Bools q w B wd d b) (h4 : 4 ≤ wd) (h16 : wd ≤ 16) (ht : TouchOk wd n l) (hl : ¬ (goodL wd b).length < wd - 3) (h0 : ¬ (n = 0)) (hA : cleanB (sel (deltaP wd l) wd) b = false) (hB : cleanB (sel (restP l) (wd - 3)) b = true)  : Calls Try.prog 58 #[.int .i64 (wd : Int), .slice A n c, .slice B wd d] w (ReadsPost w (readsL wd l b)) := by
  have hwide : wideB (wd : Int) = true := by unfold wideB; simp; omega
  have hcnt : ¬ (((sel (goodP b) wd).length : Int) < (wd : Int) - 3) := by unfold goodL at hl; omega
  have hwl : (wd : Int) - 3 = ((wd - 3 : Nat) : Int) := by omega
  have hll := Lib.hid h.len
  have hrA : ∀ j, j < (sel (deltaP wd l) wd).length → 0 ≤ nti (sel (deltaP wd l) wd) j ∧ nti (sel (deltaP wd l) wd) j < wd := fun j hj => sel_range _ _ j hj
  have hrB : ∀ j, j < (sel (restP l) (wd - 3)).length → 0 ≤ nti (sel (restP l) (wd - 3)) j ∧ nti (sel (restP l) (wd - 3)) j < wd := fun j hj => by have := sel_range (restP l) (wd - 3) j hj; omega
  replace hrA := Lib.hid hrA
  replace hrB := Lib.hid hrB
  replace hwl := Lib.hid hwl
  have hz : ¬ ((n : Int) = 0) := by omega
  have hll2 : ¬ l.length = 0 := by rw [hll.out]; exact h0
  replace hll2 := Lib.hid hll2
  go_enter Try.func58, Try.ntmps58
  go_wp2_with (go_at_call 104; (with_reducible refine (wide24_any (wd : Int) _).mono ?_); rw [hwide]; rintro e w' ⟨rfl, rfl⟩)
  refine rd0 h h4 h16 (fun x6 x7 x8 x24 x25 x26 x27 x28 x29 x30 x31 x32 x33 x34 x35 x36 x37 x38 x39 x40 x41 x42 x43 x44 x45 x46 x47 x48 x49 x50 x51 x52 x53 x54 x55 x56 x57 x58 x59 w1 h1 => ?_) (fun x8 x24 x25 x26 x27 x28 x29 x30 x31 x32 x33 x34 x35 x36 x37 x38 x39 x40 x41 x42 x43 x44 x45 x46 x47 x48 x49 x50 x51 x52 x53 x54 x55 x56 x57 x58 x59 w1 h1 => ?_)
  · obtain ⟨_, nd, rfl⟩ := h1
    go_wp2
    refine rd2 (g.drewN nd) h4 h16 (fun x9 x10 x60 x61 x62 x63 x64 x65 x66 x67 x68 x69 x70 x71 x72 x73 w2 h2 => ?_)
    obtain ⟨A9, c9, rfl, hg, hb2⟩ := h2
    have hB2 : Below w.heap.size w w2 := below_then2 (below_drewN (Below.refl _ _) nd) hb2
    have h2' := (h.drewN nd).below hb2
    have g2 := (g.drewN nd).below hb2
    have hcap : (wd : Int) - 3 ≤ (c9 : Int) := by (have h1 := hg.row.le; have hl' := hl; unfold goodL at hl'; omega)
    go_wp2_with (first | (go_at_call 59; (with_reducible refine (delta24_any wd h4 h16 h2').mono ?_); rintro e w3 ⟨A3, c3, rfl, hd3, hb3⟩; have hB3 := below_then2 hB2 hb3; have h3 := h2'.below hb3; have g3 := g2.below hb3; have hg3 := hg.below hb3) | (go_at_call 60; (with_reducible refine (rest24_any wd h4 h16 h3).mono ?_); rintro e w4 ⟨A4, c4, rfl, hr4, hb4⟩; have hB4 := below_then2 hB3 hb4; have g4 := g3.below hb4; have hd4 := hd3.below hb4; have hg4 := hg3.below hb4) | (go_at_call 61; (with_reducible refine (clean_any hd4 g4 hrA.out).mono ?_); rw [hA]; rintro e w5 ⟨rfl, rfl⟩) | (go_at_call 61; (with_reducible refine (clean_any hr4 g4 hrB.out).mono ?_); rw [hB]; rintro e w5 ⟨rfl, rfl⟩))
    go_ret2
    have e : readsL wd l b = (sel (restP l) (wd - 3)) := by unfold readsL deltaL restL goodL; rw [if_neg hll2.out]; simp [hA, hB]
    rw [e]
    exact ⟨_, _, rfl, hr4.mono fun _ _ _ => trivial, hB4⟩
  · exact absurd ht h1.1

set_option maxRecDepth 100000 in
set_option maxHeartbeats 4000000 in
theorem rreads_b2 (h : Ints p w A n c l) (g : Bools q w B wd d b) (h4 : 4 ≤ wd) (h16 : wd ≤ 16) (ht : TouchOk wd n l) (hl : ¬ (goodL wd b).length < wd - 3) (h0 : ¬ (n = 0)) (hA : cleanB (sel (deltaP wd l) wd) b = true) (hB : cleanB (sel (restP l) (wd - 3)) b = true) (lab : ¬ ((sel (deltaP wd l) wd).length ≤ (sel (restP l) (wd - 3)).length))  : Calls Try.prog 58 #[.int .i64 (wd : Int), .slice A n c, .slice B wd d] w (ReadsPost w (readsL wd l b)) := by
  have hwide : wideB (wd : Int) = true := by unfold wideB; simp; omega
  have hcnt : ¬ (((sel (goodP b) wd).length : Int) < (wd : Int) - 3) := by unfold goodL at hl; omega
  have hwl : (wd : Int) - 3 = ((wd - 3 : Nat) : Int) := by omega
  have hll := Lib.hid h.len
  have hrA : ∀ j, j < (sel (deltaP wd l) wd).length → 0 ≤ nti (sel (deltaP wd l) wd) j ∧ nti (sel (deltaP wd l) wd) j < wd := fun j hj => sel_range _ _ j hj
  have hrB : ∀ j, j < (sel (restP l) (wd - 3)).length → 0 ≤ nti (sel (restP l) (wd - 3)) j ∧ nti (sel (restP l) (wd - 3)) j < wd := fun j hj => by have := sel_range (restP l) (wd - 3) j hj; omega
  replace hrA := Lib.hid hrA
  replace hrB := Lib.hid hrB
  replace hwl := Lib.hid hwl
  have hz : ¬ ((n : Int) = 0) := by omega
  have hll2 : ¬ l.length = 0 := by rw [hll.out]; exact h0
  replace hll2 := Lib.hid hll2
  have qab : decide (((sel (deltaP wd l) wd).length : Int) ≤ ((sel (restP l) (wd - 3)).length : Int)) = false := by simp; omega
  have qab2 : ¬ (((sel (deltaP wd l) wd).length : Int) ≤ ((sel (restP l) (wd - 3)).length : Int)) := by omega
  go_enter Try.func58, Try.ntmps58
  go_wp2_with (go_at_call 104; (with_reducible refine (wide24_any (wd : Int) _).mono ?_); rw [hwide]; rintro e w' ⟨rfl, rfl⟩)
  refine rd0 h h4 h16 (fun x6 x7 x8 x24 x25 x26 x27 x28 x29 x30 x31 x32 x33 x34 x35 x36 x37 x38 x39 x40 x41 x42 x43 x44 x45 x46 x47 x48 x49 x50 x51 x52 x53 x54 x55 x56 x57 x58 x59 w1 h1 => ?_) (fun x8 x24 x25 x26 x27 x28 x29 x30 x31 x32 x33 x34 x35 x36 x37 x38 x39 x40 x41 x42 x43 x44 x45 x46 x47 x48 x49 x50 x51 x52 x53 x54 x55 x56 x57 x58 x59 w1 h1 => ?_)
  · obtain ⟨_, nd, rfl⟩ := h1
    go_wp2
    refine rd2 (g.drewN nd) h4 h16 (fun x9 x10 x60 x61 x62 x63 x64 x65 x66 x67 x68 x69 x70 x71 x72 x73 w2 h2 => ?_)
    obtain ⟨A9, c9, rfl, hg, hb2⟩ := h2
    have hB2 : Below w.heap.size w w2 := below_then2 (below_drewN (Below.refl _ _) nd) hb2
    have h2' := (h.drewN nd).below hb2
    have g2 := (g.drewN nd).below hb2
    have hcap : (wd : Int) - 3 ≤ (c9 : Int) := by (have h1 := hg.row.le; have hl' := hl; unfold goodL at hl'; omega)
    go_wp2_with (first | (go_at_call 59; (with_reducible refine (delta24_any wd h4 h16 h2').mono ?_); rintro e w3 ⟨A3, c3, rfl, hd3, hb3⟩; have hB3 := below_then2 hB2 hb3; have h3 := h2'.below hb3; have g3 := g2.below hb3; have hg3 := hg.below hb3) | (go_at_call 60; (with_reducible refine (rest24_any wd h4 h16 h3).mono ?_); rintro e w4 ⟨A4, c4, rfl, hr4, hb4⟩; have hB4 := below_then2 hB3 hb4; have g4 := g3.below hb4; have hd4 := hd3.below hb4; have hg4 := hg3.below hb4) | (go_at_call 61; (with_reducible refine (clean_any hd4 g4 hrA.out).mono ?_); rw [hA]; rintro e w5 ⟨rfl, rfl⟩) | (go_at_call 61; (with_reducible refine (clean_any hr4 g4 hrB.out).mono ?_); rw [hB]; rintro e w5 ⟨rfl, rfl⟩))
    go_ret2
    have e : readsL wd l b = (sel (restP l) (wd - 3)) := by unfold readsL deltaL restL goodL; rw [if_neg hll2.out]; simp [hA, hB, lab]
    rw [e]
    exact ⟨_, _, rfl, hr4.mono fun _ _ _ => trivial, hB4⟩
  · exact absurd ht h1.1

set_option maxRecDepth 100000 in
set_option maxHeartbeats 4000000 in
theorem rreads_b3 (h : Ints p w A n c l) (g : Bools q w B wd d b) (h4 : 4 ≤ wd) (h16 : wd ≤ 16) (ht : TouchOk wd n l) (hl : ¬ (goodL wd b).length < wd - 3) (h0 : ¬ (n = 0)) (hA : cleanB (sel (deltaP wd l) wd) b = true) (hB : cleanB (sel (restP l) (wd - 3)) b = true) (lab : ((sel (deltaP wd l) wd).length ≤ (sel (restP l) (wd - 3)).length)) (la : ¬ ((sel (deltaP wd l) wd).length ≤ wd - 3))  : Calls Try.prog 58 #[.int .i64 (wd : Int), .slice A n c, .slice B wd d] w (ReadsPost w (readsL wd l b)) := by
  have hwide : wideB (wd : Int) = true := by unfold wideB; simp; omega
  have hcnt : ¬ (((sel (goodP b) wd).length : Int) < (wd : Int) - 3) := by unfold goodL at hl; omega
  have hwl : (wd : Int) - 3 = ((wd - 3 : Nat) : Int) := by omega
  have hll := Lib.hid h.len
  have hrA : ∀ j, j < (sel (deltaP wd l) wd).length → 0 ≤ nti (sel (deltaP wd l) wd) j ∧ nti (sel (deltaP wd l) wd) j < wd := fun j hj => sel_range _ _ j hj
  have hrB : ∀ j, j < (sel (restP l) (wd - 3)).length → 0 ≤ nti (sel (restP l) (wd - 3)) j ∧ nti (sel (restP l) (wd - 3)) j < wd := fun j hj => by have := sel_range (restP l) (wd - 3) j hj; omega
  replace hrA := Lib.hid hrA
  replace hrB := Lib.hid hrB
  replace hwl := Lib.hid hwl
  have hz : ¬ ((n : Int) = 0) := by omega
  have hll2 : ¬ l.length = 0 := by rw [hll.out]; exact h0
  replace hll2 := Lib.hid hll2
  have qab : decide (((sel (deltaP wd l) wd).length : Int) ≤ ((sel (restP l) (wd - 3)).length : Int)) = true := by simp; omega
  have qab2 : (((sel (deltaP wd l) wd).length : Int) ≤ ((sel (restP l) (wd - 3)).length : Int)) := by omega
  have qa : decide (((sel (deltaP wd l) wd).length : Int) ≤ (wd : Int) - 3) = false := by simp; omega
  have qa2 : ¬ (((sel (deltaP wd l) wd).length : Int) ≤ (wd : Int) - 3) := by omega
  go_enter Try.func58, Try.ntmps58
  go_wp2_with (go_at_call 104; (with_reducible refine (wide24_any (wd : Int) _).mono ?_); rw [hwide]; rintro e w' ⟨rfl, rfl⟩)
  refine rd0 h h4 h16 (fun x6 x7 x8 x24 x25 x26 x27 x28 x29 x30 x31 x32 x33 x34 x35 x36 x37 x38 x39 x40 x41 x42 x43 x44 x45 x46 x47 x48 x49 x50 x51 x52 x53 x54 x55 x56 x57 x58 x59 w1 h1 => ?_) (fun x8 x24 x25 x26 x27 x28 x29 x30 x31 x32 x33 x34 x35 x36 x37 x38 x39 x40 x41 x42 x43 x44 x45 x46 x47 x48 x49 x50 x51 x52 x53 x54 x55 x56 x57 x58 x59 w1 h1 => ?_)
  · obtain ⟨_, nd, rfl⟩ := h1
    go_wp2
    refine rd2 (g.drewN nd) h4 h16 (fun x9 x10 x60 x61 x62 x63 x64 x65 x66 x67 x68 x69 x70 x71 x72 x73 w2 h2 => ?_)
    obtain ⟨A9, c9, rfl, hg, hb2⟩ := h2
    have hB2 : Below w.heap.size w w2 := below_then2 (below_drewN (Below.refl _ _) nd) hb2
    have h2' := (h.drewN nd).below hb2
    have g2 := (g.drewN nd).below hb2
    have hcap : (wd : Int) - 3 ≤ (c9 : Int) := by (have h1 := hg.row.le; have hl' := hl; unfold goodL at hl'; omega)
    go_wp2_with (first | (go_at_call 59; (with_reducible refine (delta24_any wd h4 h16 h2').mono ?_); rintro e w3 ⟨A3, c3, rfl, hd3, hb3⟩; have hB3 := below_then2 hB2 hb3; have h3 := h2'.below hb3; have g3 := g2.below hb3; have hg3 := hg.below hb3) | (go_at_call 60; (with_reducible refine (rest24_any wd h4 h16 h3).mono ?_); rintro e w4 ⟨A4, c4, rfl, hr4, hb4⟩; have hB4 := below_then2 hB3 hb4; have g4 := g3.below hb4; have hd4 := hd3.below hb4; have hg4 := hg3.below hb4) | (go_at_call 61; (with_reducible refine (clean_any hd4 g4 hrA.out).mono ?_); rw [hA]; rintro e w5 ⟨rfl, rfl⟩) | (go_at_call 61; (with_reducible refine (clean_any hr4 g4 hrB.out).mono ?_); rw [hB]; rintro e w5 ⟨rfl, rfl⟩))
    go_ret2
    have e : readsL wd l b = (sel (restP l) (wd - 3)) := by unfold readsL deltaL restL goodL; rw [if_neg hll2.out]; simp [hA, hB, lab, la]
    rw [e]
    exact ⟨_, _, rfl, hr4.mono fun _ _ _ => trivial, hB4⟩
  · exact absurd ht h1.1

set_option maxRecDepth 100000 in
set_option maxHeartbeats 4000000 in
theorem rreads_g1 (h : Ints p w A n c l) (g : Bools q w B wd d b) (h4 : 4 ≤ wd) (h16 : wd ≤ 16) (ht : TouchOk wd n l) (hl : ¬ (goodL wd b).length < wd - 3) (h0 : ¬ (n = 0)) (hA : cleanB (sel (deltaP wd l) wd) b = false) (hB : cleanB (sel (restP l) (wd - 3)) b = false)  : Calls Try.prog 58 #[.int .i64 (wd : Int), .slice A n c, .slice B wd d] w (ReadsPost w (readsL wd l b)) := by
  have hwide : wideB (wd : Int) = true := by unfold wideB; simp; omega
  have hcnt : ¬ (((sel (goodP b) wd).length : Int) < (wd : Int) - 3) := by unfold goodL at hl; omega
  have hwl : (wd : Int) - 3 = ((wd - 3 : Nat) : Int) := by omega
  have hll := Lib.hid h.len
  have hrA : ∀ j, j < (sel (deltaP wd l) wd).length → 0 ≤ nti (sel (deltaP wd l) wd) j ∧ nti (sel (deltaP wd l) wd) j < wd := fun j hj => sel_range _ _ j hj
  have hrB : ∀ j, j < (sel (restP l) (wd - 3)).length → 0 ≤ nti (sel (restP l) (wd - 3)) j ∧ nti (sel (restP l) (wd - 3)) j < wd := fun j hj => by have := sel_range (restP l) (wd - 3) j hj; omega
  replace hrA := Lib.hid hrA
  replace hrB := Lib.hid hrB
  replace hwl := Lib.hid hwl
  have hz : ¬ ((n : Int) = 0) := by omega
  have hll2 : ¬ l.length = 0 := by rw [hll.out]; exact h0
  replace hll2 := Lib.hid hll2
  have hw4 : (0 : Int) ≤ (wd : Int) - 3 := by omega
  have hw5 : (wd : Int) - 3 ≤ ((sel (goodP b) wd).length : Int) := by unfold goodL at hl; omega
  have hw6 : ((wd : Int) - 3).toNat = wd - 3 := by omega
  go_enter Try.func58, Try.ntmps58
  go_wp2_with (go_at_call 104; (with_reducible refine (wide24_any (wd : Int) _).mono ?_); rw [hwide]; rintro e w' ⟨rfl, rfl⟩)
  refine rd0 h h4 h16 (fun x6 x7 x8 x24 x25 x26 x27 x28 x29 x30 x31 x32 x33 x34 x35 x36 x37 x38 x39 x40 x41 x42 x43 x44 x45 x46 x47 x48 x49 x50 x51 x52 x53 x54 x55 x56 x57 x58 x59 w1 h1 => ?_) (fun x8 x24 x25 x26 x27 x28 x29 x30 x31 x32 x33 x34 x35 x36 x37 x38 x39 x40 x41 x42 x43 x44 x45 x46 x47 x48 x49 x50 x51 x52 x53 x54 x55 x56 x57 x58 x59 w1 h1 => ?_)
  · obtain ⟨_, nd, rfl⟩ := h1
    go_wp2
    refine rd2 (g.drewN nd) h4 h16 (fun x9 x10 x60 x61 x62 x63 x64 x65 x66 x67 x68 x69 x70 x71 x72 x73 w2 h2 => ?_)
    obtain ⟨A9, c9, rfl, hg, hb2⟩ := h2
    have hB2 : Below w.heap.size w w2 := below_then2 (below_drewN (Below.refl _ _) nd) hb2
    have h2' := (h.drewN nd).below hb2
    have g2 := (g.drewN nd).below hb2
    have hcap : (wd : Int) - 3 ≤ (c9 : Int) := by (have h1 := hg.row.le; have hl' := hl; unfold goodL at hl'; omega)
    go_wp2_with (first | (go_at_call 59; (with_reducible refine (delta24_any wd h4 h16 h2').mono ?_); rintro e w3 ⟨A3, c3, rfl, hd3, hb3⟩; have hB3 := below_then2 hB2 hb3; have h3 := h2'.below hb3; have g3 := g2.below hb3; have hg3 := hg.below hb3) | (go_at_call 60; (with_reducible refine (rest24_any wd h4 h16 h3).mono ?_); rintro e w4 ⟨A4, c4, rfl, hr4, hb4⟩; have hB4 := below_then2 hB3 hb4; have g4 := g3.below hb4; have hd4 := hd3.below hb4; have hg4 := hg3.below hb4) | (go_at_call 61; (with_reducible refine (clean_any hd4 g4 hrA.out).mono ?_); rw [hA]; rintro e w5 ⟨rfl, rfl⟩) | (go_at_call 61; (with_reducible refine (clean_any hr4 g4 hrB.out).mono ?_); rw [hB]; rintro e w5 ⟨rfl, rfl⟩))
    go_ret2
    have e : readsL wd l b = ((sel (goodP b) wd).take (wd - 3)) := by unfold readsL deltaL restL goodL; rw [if_neg hll2.out]; simp [hA, hB]
    rw [e]
    have hpre := hg4.pre (k := wd - 3) (by unfold goodL at hl; omega)
    have hpl : ((sel (goodP b) wd).take (wd - 3)).length = wd - 3 := hpre.len
    unfold ReadsPost
    rw [hpl]
    exact ⟨_, _, rfl, hpre.mono fun _ _ _ => trivial, hB4⟩
  · exact absurd ht h1.1

set_option maxRecDepth 100000 in
set_option maxHeartbeats 4000000 in
theorem rreads_g2 (h : Ints p w A n c l) (g : Bools q w B wd d b) (h4 : 4 ≤ wd) (h16 : wd ≤ 16) (ht : TouchOk wd n l) (hl : ¬ (goodL wd b).length < wd - 3) (h0 : ¬ (n = 0)) (hA : cleanB (sel (deltaP wd l) wd) b = true) (hB : cleanB (sel (restP l) (wd - 3)) b = false) (la : ¬ ((sel (deltaP wd l) wd).length ≤ wd - 3))  : Calls Try.prog 58 #[.int .i64 (wd : Int), .slice A n c, .slice B wd d] w (ReadsPost w (readsL wd l b)) := by
  have hwide : wideB (wd : Int) = true := by unfold wideB; simp; omega
  have hcnt : ¬ (((sel (goodP b) wd).length : Int) < (wd : Int) - 3) := by unfold goodL at hl; omega
  have hwl : (wd : Int) - 3 = ((wd - 3 : Nat) : Int) := by omega
  have hll := Lib.hid h.len
  have hrA : ∀ j, j < (sel (deltaP wd l) wd).length → 0 ≤ nti (sel (deltaP wd l) wd) j ∧ nti (sel (deltaP wd l) wd) j < wd := fun j hj => sel_range _ _ j hj
  have hrB : ∀ j, j < (sel (restP l) (wd - 3)).length → 0 ≤ nti (sel (restP l) (wd - 3)) j ∧ nti (sel (restP l) (wd - 3)) j < wd := fun j hj => by have := sel_range (restP l) (wd - 3) j hj; omega
  replace hrA := Lib.hid hrA
  replace hrB := Lib.hid hrB
  replace hwl := Lib.hid hwl
  have hz : ¬ ((n : Int) = 0) := by omega
  have hll2 : ¬ l.length = 0 := by rw [hll.out]; exact h0
  replace hll2 := Lib.hid hll2
  have qa : decide (((sel (deltaP wd l) wd).length : Int) ≤ (wd : Int) - 3) = false := by simp; omega
  have qa2 : ¬ (((sel (deltaP wd l) wd).length : Int) ≤ (wd : Int) - 3) := by omega
  have hw4 : (0 : Int) ≤ (wd : Int) - 3 := by omega
  have hw5 : (wd : Int) - 3 ≤ ((sel (goodP b) wd).length : Int) := by unfold goodL at hl; omega
  have hw6 : ((wd : Int) - 3).toNat = wd - 3 := by omega
  go_enter Try.func58, Try.ntmps58
  go_wp2_with (go_at_call 104; (with_reducible refine (wide24_any (wd : Int) _).mono ?_); rw [hwide]; rintro e w' ⟨rfl, rfl⟩)
  refine rd0 h h4 h16 (fun x6 x7 x8 x24 x25 x26 x27 x28 x29 x30 x31 x32 x33 x34 x35 x36 x37 x38 x39 x40 x41 x42 x43 x44 x45 x46 x47 x48 x49 x50 x51 x52 x53 x54 x55 x56 x57 x58 x59 w1 h1 => ?_) (fun x8 x24 x25 x26 x27 x28 x29 x30 x31 x32 x33 x34 x35 x36 x37 x38 x39 x40 x41 x42 x43 x44 x45 x46 x47 x48 x49 x50 x51 x52 x53 x54 x55 x56 x57 x58 x59 w1 h1 => ?_)
  · obtain ⟨_, nd, rfl⟩ := h1
    go_wp2
    refine rd2 (g.drewN nd) h4 h16 (fun x9 x10 x60 x61 x62 x63 x64 x65 x66 x67 x68 x69 x70 x71 x72 x73 w2 h2 => ?_)
    obtain ⟨A9, c9, rfl, hg, hb2⟩ := h2
    have hB2 : Below w.heap.size w w2 := below_then2 (below_drewN (Below.refl _ _) nd) hb2
    have h2' := (h.drewN nd).below hb2
    have g2 := (g.drewN nd).below hb2
    have hcap : (wd : Int) - 3 ≤ (c9 : Int) := by (have h1 := hg.row.le; have hl' := hl; unfold goodL at hl'; omega)
    go_wp2_with (first | (go_at_call 59; (with_reducible refine (delta24_any wd h4 h16 h2').mono ?_); rintro e w3 ⟨A3, c3, rfl, hd3, hb3⟩; have hB3 := below_then2 hB2 hb3; have h3 := h2'.below hb3; have g3 := g2.below hb3; have hg3 := hg.below hb3) | (go_at_call 60; (with_reducible refine (rest24_any wd h4 h16 h3).mono ?_); rintro e w4 ⟨A4, c4, rfl, hr4, hb4⟩; have hB4 := below_then2 hB3 hb4; have g4 := g3.below hb4; have hd4 := hd3.below hb4; have hg4 := hg3.below hb4) | (go_at_call 61; (with_reducible refine (clean_any hd4 g4 hrA.out).mono ?_); rw [hA]; rintro e w5 ⟨rfl, rfl⟩) | (go_at_call 61; (with_reducible refine (clean_any hr4 g4 hrB.out).mono ?_); rw [hB]; rintro e w5 ⟨rfl, rfl⟩))
    go_ret2
    have e : readsL wd l b = ((sel (goodP b) wd).take (wd - 3)) := by unfold readsL deltaL restL goodL; rw [if_neg hll2.out]; simp [hA, hB, la]
    rw [e]
    have hpre := hg4.pre (k := wd - 3) (by unfold goodL at hl; omega)
    have hpl : ((sel (goodP b) wd).take (wd - 3)).length = wd - 3 := hpre.len
    unfold ReadsPost
    rw [hpl]
    exact ⟨_, _, rfl, hpre.mono fun _ _ _ => trivial, hB4⟩
  · exact absurd ht h1.1

set_option maxRecDepth 100000 in
set_option maxHeartbeats 4000000 in
theorem rreads_any (h : Ints p w A n c l) (g : Bools q w B wd d b) (h4 : 4 ≤ wd) (h16 : wd ≤ 16) (ht : TouchOk wd n l) (hl : ¬ (goodL wd b).length < wd - 3) : Calls Try.prog 58 #[.int .i64 (wd : Int), .slice A n c, .slice B wd d] w (ReadsPost w (readsL wd l b)) := by
  by_cases h0 : n = 0
  · exact rreads_none h g h4 h16 ht hl h0 rfl rfl
  cases hA : cleanB (sel (deltaP wd l) wd) b with
  | false =>
    cases hB : cleanB (sel (restP l) (wd - 3)) b with
    | false => exact rreads_g1 h g h4 h16 ht hl h0 hA hB
    | true => exact rreads_b1 h g h4 h16 ht hl h0 hA hB
  | true =>
    cases hB : cleanB (sel (restP l) (wd - 3)) b with
    | false =>
      by_cases la : (sel (deltaP wd l) wd).length ≤ wd - 3
      · exact rreads_a1 h g h4 h16 ht hl h0 hA hB la
      · exact rreads_g2 h g h4 h16 ht hl h0 hA hB la
    | true =>
      by_cases lab : (sel (deltaP wd l) wd).length ≤ (sel (restP l) (wd - 3)).length
      · by_cases la : (sel (deltaP wd l) wd).length ≤ wd - 3
        · exact rreads_a2 h g h4 h16 ht hl h0 hA hB lab la
        · exact rreads_b3 h g h4 h16 ht hl h0 hA hB lab la
      · exact rreads_b2 h g h4 h16 ht hl h0 hA hB lab

set_option maxRecDepth 100000 in
set_option maxHeartbeats 4000000 in
theorem rreads_arg {z : Int} (h : Ints p w A n c l) (g : Bools q w B m d b) (hbad : ¬ (wideB z = true ∧ (m : Int) = z)) : Calls Try.prog 58 #[.int .i64 z, .slice A n c, .slice B m d] w fun e w' => e = .returned (.tuple #[.slice none 0 0, .int .i64 1]) ∧ w = w' := by
  cases hwide : wideB z with
  | false =>
    go_enter Try.func58, Try.ntmps58
    go_wp2_with (go_at_call 104; (with_reducible refine (wide24_any z _).mono ?_); rw [hwide]; rintro e w' ⟨rfl, rfl⟩)
    go_ret2
    exact ⟨rfl, rfl⟩
  | true =>
    have hne : ((m : Int) != z) = true := by simp; exact fun e => hbad ⟨hwide, e⟩
    replace hbad := Lib.hid hbad
    go_enter Try.func58, Try.ntmps58
    go_wp2_with (go_at_call 104; (with_reducible refine (wide24_any z _).mono ?_); rw [hwide]; rintro e w' ⟨rfl, rfl⟩)
    go_ret2
    exact ⟨rfl, rfl⟩
end
end Go.Proofs.Ytifhjigkljdkmaa
