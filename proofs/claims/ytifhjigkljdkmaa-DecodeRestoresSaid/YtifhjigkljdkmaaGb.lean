/- Contracts of chapter 24: parts of tegularef24.Reads. -/
import Derived.Test.YtifhjigkljdkmaaGa
import Derived.Test.YtifhjigkljdkmaaOd
namespace Go.Proofs.Ytifhjigkljdkmaa
open Go.RowKit
open Gf (F)
set_option linter.unusedSimpArgs false
set_option linter.unusedVariables false
/-- The touched pieces are data pieces, in increasing order. -/
def TouchOk (wd : Nat) (n : Nat) (l : List Int) : Prop := ∀ j, j < n → 0 ≤ nti l j ∧ nti l j < (wd : Int) - 3 ∧ (0 < j → nti l (j - 1) < nti l j)
def goodP (b : List Bool) (i : Nat) : Bool := !ntb b i
set_option maxRecDepth 100000 in
set_option maxHeartbeats 2000000 in
theorem rd2 {Q : Exit → Act → World → Prop} {p : Nat → Prop} {w3 : World} {A : Option Addr} {c wd : Nat} {b : List Bool} (h : Bools p w3 A wd c b) (h4 : 4 ≤ wd) (h16 : wd ≤ 16)
    {u1 u3 u4 u5 u6 u7 u8 u11 u12 u13 u14 u15 u16 u17 u18 u19 u20 u21 u22 u23 u24 u25 u26 u27 u28 u29 u30 u31 u32 u33 u34 u35 u36 u37 u38 u39 u40 u41 u42 u43 u44 u45 u46 u47 u48 u49 u50 u51 u52 u53 u54 u55 u56 u57 u58 u59 u60 u61 u62 u63 u64 u65 u66 u67 u68 u69 u70 u71 u72 u73 u74 u75 u76 u77 u78 u79 u80 u81 u82 u83 u84 u85 u86 u87 u88 u89 u90 u91 u92 u93 u94 u95 u96 u97 u98 u99 u100 u101 u102 u103 u104 u105 u106 u107 u108 u109 u110 u111 u112 u113 u114 u115 u116 u117 u118 u119 u120 u121 u122 : Value}
    (hK : ∀ (x9 x10 x60 x61 x62 x63 x64 x65 x66 x67 x68 x69 x70 x71 x72 x73 : Value) (w' : World), (∃ (A' : Option Addr) (c' : Nat), x9 = .slice A' (sel (goodP b) wd).length c' ∧ Ints (fun b => w3.heap.size ≤ b) w' A' (sel (goodP b) wd).length c' (sel (goodP b) wd) ∧ Below w3.heap.size w3 w') → Q (.exit 2) ⟨List.toArray ((.int .i64 (wd : Int)) :: (u1) :: (.slice A wd c) :: (u3) :: (u4) :: (u5) :: (u6) :: (u7) :: (u8) :: (x9) :: (x10) :: (u11) :: (u12) :: (u13) :: (u14) :: (u15) :: (u16) :: (u17) :: (u18) :: (u19) :: (u20) :: (u21) :: (u22) :: (u23) :: (u24) :: (u25) :: (u26) :: (u27) :: (u28) :: (u29) :: (u30) :: (u31) :: (u32) :: (u33) :: (u34) :: (u35) :: (u36) :: (u37) :: (u38) :: (u39) :: (u40) :: (u41) :: (u42) :: (u43) :: (u44) :: (u45) :: (u46) :: (u47) :: (u48) :: (u49) :: (u50) :: (u51) :: (u52) :: (u53) :: (u54) :: (u55) :: (u56) :: (u57) :: (u58) :: (u59) :: (x60) :: (x61) :: (x62) :: (x63) :: (x64) :: (x65) :: (x66) :: (x67) :: (x68) :: (x69) :: (x70) :: (x71) :: (x72) :: (x73) :: (u74) :: (u75) :: (u76) :: (u77) :: (u78) :: (u79) :: (u80) :: (u81) :: (u82) :: (u83) :: (u84) :: (u85) :: (u86) :: (u87) :: (u88) :: (u89) :: (u90) :: (u91) :: (u92) :: (u93) :: (u94) :: (u95) :: (u96) :: (u97) :: (u98) :: (u99) :: (u100) :: (u101) :: (u102) :: (u103) :: (u104) :: (u105) :: (u106) :: (u107) :: (u108) :: (u109) :: (u110) :: (u111) :: (u112) :: (u113) :: (u114) :: (u115) :: (u116) :: (u117) :: (u118) :: (u119) :: (u120) :: (u121) :: (u122) :: []), []⟩ w') :
    (piece Try.f58 [1, 1, 1, 1, 0, 1, 0]).wp Try.prog Q ⟨List.toArray ((.int .i64 (wd : Int)) :: u1 :: (.slice A wd c) :: u3 :: u4 :: u5 :: u6 :: u7 :: u8 :: (.slice none 0 0) :: (.int .i64 0) :: u11 :: u12 :: u13 :: u14 :: u15 :: u16 :: u17 :: u18 :: u19 :: u20 :: u21 :: u22 :: u23 :: u24 :: u25 :: u26 :: u27 :: u28 :: u29 :: u30 :: u31 :: u32 :: u33 :: u34 :: u35 :: u36 :: u37 :: u38 :: u39 :: u40 :: u41 :: u42 :: u43 :: u44 :: u45 :: u46 :: u47 :: u48 :: u49 :: u50 :: u51 :: u52 :: u53 :: u54 :: u55 :: u56 :: u57 :: u58 :: u59 :: u60 :: u61 :: u62 :: u63 :: u64 :: u65 :: u66 :: u67 :: u68 :: u69 :: u70 :: u71 :: u72 :: u73 :: u74 :: u75 :: u76 :: u77 :: u78 :: u79 :: u80 :: u81 :: u82 :: u83 :: u84 :: u85 :: u86 :: u87 :: u88 :: u89 :: u90 :: u91 :: u92 :: u93 :: u94 :: u95 :: u96 :: u97 :: u98 :: u99 :: u100 :: u101 :: u102 :: u103 :: u104 :: u105 :: u106 :: u107 :: u108 :: u109 :: u110 :: u111 :: u112 :: u113 :: u114 :: u115 :: u116 :: u117 :: u118 :: u119 :: u120 :: u121 :: u122 :: []), []⟩ w3 := by
  conv => arg 2; whnf
  go_loopw [9, 10] (fun v x wr => ∃ i : Nat, i ≤ wd ∧ x = .int .i64 i ∧ wr.ownsRow w3.heap.size 3 1 v (sel (goodP b) i).length ((sel (goodP b) i).map fun n => Value.int .i64 n) ∧ Below w3.heap.size w3 wr) (fun _ x _ => wd - (intOf x).toNat)
  case atStart => exact ⟨0, by omega, rfl, World.ownsRow_nil _ _ _ _, Below.refl _ _⟩
  case round =>
    obtain ⟨i, hi, rfl, hown, hbw⟩ := hrel
    have hsz := hbw.size
    have hlen := sel_len (goodP b) i
    by_cases hlt : i < wd
    · obtain ⟨b1, o1, rfl, _, hlt1, hc⟩ := h.row.at_ (by omega)
      have e0 : wr.cell? ⟨b1, o1 + i, none⟩ = some (.bool (ntb b i)) := (hbw.cell (by exact hlt1)).trans (hc i hlt)
      clear hc
      have d1 : (0 : Int) ≤ (i : Int) := Int.natCast_nonneg _
      have d2 : (i : Int) < (wd : Int) := by omega
      cases hP : goodP b i with
      | true =>
        have hb : ntb b i = false := by unfold goodP at hP; simpa using hP
        have e1 := sel_yes hP
        have e2 := congrArg List.length e1
        rw [List.length_append] at e2
        rw [hb] at e0
        replace e1 := Lib.hid e1
        replace e2 := Lib.hid e2
        replace hb := Lib.hid hb
        go_wp2_with (at_builtin; refine wpl_append1 rfl (s := .tmp 70) (x := .tmp 72) rfl Try.underlying29 info3 rfl rfl hown rfl rfl (by unfold maxLen; omega) (by omega) (by omega) ?_; intro v2 w2 hown2 hgr2 hne2)
        go_roundw
        case rel => exact ⟨i + 1, by omega, by go_num, by rw [e2.out, e1.out, ints_step]; exact hown2, hbw.grown hgr2 hsz (own_ge hown)⟩
        case measure => simp [intOf]; omega
      | false =>
        have hb : ntb b i = true := by unfold goodP at hP; simpa using hP
        have e1 := sel_no hP
        rw [hb] at e0
        replace e1 := Lib.hid e1
        replace hb := Lib.hid hb
        go_wp2
        go_roundw
        case rel => exact ⟨i + 1, by omega, by go_num, by rw [e1.out]; exact hown, hbw⟩
        case measure => simp [intOf]; omega
    · obtain rfl : i = wd := by omega
      obtain ⟨A', c', rfl, hints⟩ := own_ints hown
      go_wp2
      exact ⟨A', c', rfl, hints.mono fun _ _ h => h.1, hbw⟩
set_option maxRecDepth 100000 in
set_option maxHeartbeats 2000000 in
theorem rd0 {Q : Exit → Act → World → Prop} {p : Nat → Prop} {w3 : World} {A : Option Addr} {n c wd : Nat} {l : List Int} (h : Ints p w3 A n c l) (h4 : 4 ≤ wd) (h16 : wd ≤ 16)
    {u2 u3 u4 u5 u6 u7 u9 u10 u11 u12 u13 u14 u15 u16 u17 u18 u19 u20 u21 u22 u23 u24 u25 u26 u27 u28 u29 u30 u31 u32 u33 u34 u35 u36 u37 u38 u39 u40 u41 u42 u43 u44 u45 u46 u47 u48 u49 u50 u51 u52 u53 u54 u55 u56 u57 u58 u59 u60 u61 u62 u63 u64 u65 u66 u67 u68 u69 u70 u71 u72 u73 u74 u75 u76 u77 u78 u79 u80 u81 u82 u83 u84 u85 u86 u87 u88 u89 u90 u91 u92 u93 u94 u95 u96 u97 u98 u99 u100 u101 u102 u103 u104 u105 u106 u107 u108 u109 u110 u111 u112 u113 u114 u115 u116 u117 u118 u119 u120 u121 u122 : Value}
    (hK : ∀ (x6 x7 x8 x24 x25 x26 x27 x28 x29 x30 x31 x32 x33 x34 x35 x36 x37 x38 x39 x40 x41 x42 x43 x44 x45 x46 x47 x48 x49 x50 x51 x52 x53 x54 x55 x56 x57 x58 x59 : Value) (w' : World), (TouchOk wd n l ∧ ∃ nd, w' = w3.drewN nd) → Q (.exit 0) ⟨List.toArray ((.int .i64 (wd : Int)) :: (.slice A n c) :: (u2) :: (u3) :: (u4) :: (u5) :: (x6) :: (x7) :: (x8) :: (u9) :: (u10) :: (u11) :: (u12) :: (u13) :: (u14) :: (u15) :: (u16) :: (u17) :: (u18) :: (u19) :: (u20) :: (u21) :: (u22) :: (u23) :: (x24) :: (x25) :: (x26) :: (x27) :: (x28) :: (x29) :: (x30) :: (x31) :: (x32) :: (x33) :: (x34) :: (x35) :: (x36) :: (x37) :: (x38) :: (x39) :: (x40) :: (x41) :: (x42) :: (x43) :: (x44) :: (x45) :: (x46) :: (x47) :: (x48) :: (x49) :: (x50) :: (x51) :: (x52) :: (x53) :: (x54) :: (x55) :: (x56) :: (x57) :: (x58) :: (x59) :: (u60) :: (u61) :: (u62) :: (u63) :: (u64) :: (u65) :: (u66) :: (u67) :: (u68) :: (u69) :: (u70) :: (u71) :: (u72) :: (u73) :: (u74) :: (u75) :: (u76) :: (u77) :: (u78) :: (u79) :: (u80) :: (u81) :: (u82) :: (u83) :: (u84) :: (u85) :: (u86) :: (u87) :: (u88) :: (u89) :: (u90) :: (u91) :: (u92) :: (u93) :: (u94) :: (u95) :: (u96) :: (u97) :: (u98) :: (u99) :: (u100) :: (u101) :: (u102) :: (u103) :: (u104) :: (u105) :: (u106) :: (u107) :: (u108) :: (u109) :: (u110) :: (u111) :: (u112) :: (u113) :: (u114) :: (u115) :: (u116) :: (u117) :: (u118) :: (u119) :: (u120) :: (u121) :: (u122) :: []), []⟩ w')
    (hR : ∀ (x8 x24 x25 x26 x27 x28 x29 x30 x31 x32 x33 x34 x35 x36 x37 x38 x39 x40 x41 x42 x43 x44 x45 x46 x47 x48 x49 x50 x51 x52 x53 x54 x55 x56 x57 x58 x59 : Value) (w' : World), (¬ TouchOk wd n l ∧ ∃ nd, w' = w3.drewN nd) → Q .ret ⟨List.toArray ((.int .i64 (wd : Int)) :: (.slice A n c) :: (u2) :: (u3) :: (u4) :: (u5) :: (.slice none 0 0) :: (.int .i64 1) :: (x8) :: (u9) :: (u10) :: (u11) :: (u12) :: (u13) :: (u14) :: (u15) :: (u16) :: (u17) :: (u18) :: (u19) :: (u20) :: (u21) :: (u22) :: (u23) :: (x24) :: (x25) :: (x26) :: (x27) :: (x28) :: (x29) :: (x30) :: (x31) :: (x32) :: (x33) :: (x34) :: (x35) :: (x36) :: (x37) :: (x38) :: (x39) :: (x40) :: (x41) :: (x42) :: (x43) :: (x44) :: (x45) :: (x46) :: (x47) :: (x48) :: (x49) :: (x50) :: (x51) :: (x52) :: (x53) :: (x54) :: (x55) :: (x56) :: (x57) :: (x58) :: (x59) :: (u60) :: (u61) :: (u62) :: (u63) :: (u64) :: (u65) :: (u66) :: (u67) :: (u68) :: (u69) :: (u70) :: (u71) :: (u72) :: (u73) :: (u74) :: (u75) :: (u76) :: (u77) :: (u78) :: (u79) :: (u80) :: (u81) :: (u82) :: (u83) :: (u84) :: (u85) :: (u86) :: (u87) :: (u88) :: (u89) :: (u90) :: (u91) :: (u92) :: (u93) :: (u94) :: (u95) :: (u96) :: (u97) :: (u98) :: (u99) :: (u100) :: (u101) :: (u102) :: (u103) :: (u104) :: (u105) :: (u106) :: (u107) :: (u108) :: (u109) :: (u110) :: (u111) :: (u112) :: (u113) :: (u114) :: (u115) :: (u116) :: (u117) :: (u118) :: (u119) :: (u120) :: (u121) :: (u122) :: []), []⟩ w') :
    (piece Try.f58 [1, 1, 0, 1, 0]).wp Try.prog Q ⟨List.toArray ((.int .i64 (wd : Int)) :: (.slice A n c) :: u2 :: u3 :: u4 :: u5 :: u6 :: u7 :: (.int .i64 0) :: u9 :: u10 :: u11 :: u12 :: u13 :: u14 :: u15 :: u16 :: u17 :: u18 :: u19 :: u20 :: u21 :: u22 :: u23 :: u24 :: u25 :: u26 :: u27 :: u28 :: u29 :: u30 :: u31 :: u32 :: u33 :: u34 :: u35 :: u36 :: u37 :: u38 :: u39 :: u40 :: u41 :: u42 :: u43 :: u44 :: u45 :: u46 :: u47 :: u48 :: u49 :: u50 :: u51 :: u52 :: u53 :: u54 :: u55 :: u56 :: u57 :: u58 :: u59 :: u60 :: u61 :: u62 :: u63 :: u64 :: u65 :: u66 :: u67 :: u68 :: u69 :: u70 :: u71 :: u72 :: u73 :: u74 :: u75 :: u76 :: u77 :: u78 :: u79 :: u80 :: u81 :: u82 :: u83 :: u84 :: u85 :: u86 :: u87 :: u88 :: u89 :: u90 :: u91 :: u92 :: u93 :: u94 :: u95 :: u96 :: u97 :: u98 :: u99 :: u100 :: u101 :: u102 :: u103 :: u104 :: u105 :: u106 :: u107 :: u108 :: u109 :: u110 :: u111 :: u112 :: u113 :: u114 :: u115 :: u116 :: u117 :: u118 :: u119 :: u120 :: u121 :: u122 :: []), []⟩ w3 := by
  conv => arg 2; whnf
  have hn := h.row.len
  have hw3 : IntKind.i64.wrap ((wd : Int) - 3) = (wd : Int) - 3 := IntWalk.i64_in _ (by omega)
  go_loopw [8] (fun x wr => ∃ i nd : Nat, i ≤ n ∧ x = .int .i64 i ∧ wr = w3.drewN nd ∧ ∀ j, j < i → 0 ≤ nti l j ∧ nti l j < (wd : Int) - 3 ∧ (0 < j → nti l (j - 1) < nti l j)) (fun x _ => n - (intOf x).toNat)
  case atStart => exact ⟨0, 0, by omega, rfl, rfl, fun j hj => absurd hj (Nat.not_lt_zero _)⟩
  case round =>
    obtain ⟨i, nd, hi, rfl, rfl, hall⟩ := hrel
    replace hall := Lib.hid hall
    by_cases hlt : i < n
    · obtain ⟨b1, o1, rfl, _, _, hc⟩ := h.row.at_ (by omega)
      have e1 := hc i hlt
      have hcp : ∀ t, t + 1 = i → w3.cell? ⟨b1, o1 + t, none⟩ = some (.int .i64 (nti l t)) := fun t ht => hc t (by omega)
      replace hcp := Lib.hid hcp
      clear hc
      have d1 : (0 : Int) ≤ (i : Int) := Int.natCast_nonneg _
      have d2 : (i : Int) < (n : Int) := by omega
      obtain ⟨z, hz⟩ : ∃ z, z = nti l i := ⟨_, rfl⟩
      rw [← hz] at e1
      replace hz := Lib.hid hz
      by_cases h1 : z < 0
      · have hno : ¬ TouchOk wd n l := fun ht => by have := (ht i hlt).1; rw [← hz.out] at this; omega
        have q1 : decide (z < 0) = true := by simp; omega
        go_wp2
        go_quiet (fail)
        go_wp2
        (try simp only [Exit.inBlock, Exit.then])
        exact ⟨hno, _, World.drewN_drewN ..⟩
      by_cases h2 : (wd : Int) - 3 ≤ z
      · have hno : ¬ TouchOk wd n l := fun ht => by have := (ht i hlt).2.1; rw [← hz.out] at this; omega
        have q1 : decide (z < 0) = false := by simp; omega
        have q2 : decide ((wd : Int) - 3 ≤ z) = true := by simp; omega
        go_wp2
        go_quiet (fail)
        go_wp2
        (try simp only [Exit.inBlock, Exit.then])
        exact ⟨hno, _, World.drewN_drewN ..⟩
      have q1 : decide (z < 0) = false := by simp; omega
      have q2 : decide ((wd : Int) - 3 ≤ z) = false := by simp; omega
      cases i with
      | zero =>
        have e0 : w3.cell? ⟨b1, o1, none⟩ = some (.int .i64 z) := e1
        have n0 : 0 < n := hlt
        have n1 : (0 : Int) < (n : Int) := by omega
        go_wp2
        go_quiet (fail)
        go_wp2
        go_roundw
        case rel => exact ⟨0 + 1, _, by omega, by go_num, rfl, fun j hj => by
          rcases Nat.lt_succ_iff_lt_or_eq.1 hj with hj | rfl
          · exact hall.out j hj
          · exact ⟨by rw [← hz.out]; omega, by rw [← hz.out]; omega, fun h => absurd h (Nat.lt_irrefl 0)⟩⟩
        case measure => simp [intOf]; omega
      | succ t =>
        have e2 := hcp.out t rfl
        obtain ⟨y, hy⟩ : ∃ y, y = nti l t := ⟨_, rfl⟩
        rw [← hy] at e2
        replace hy := Lib.hid hy
        have d3 : (0 : Int) ≤ (t : Int) := Int.natCast_nonneg _
        have d4 : (t : Int) < (n : Int) := by omega
        have d5 : (0 : Int) < ((t + 1 : Nat) : Int) := by omega
        have d6 : IntKind.i64.wrap (((t + 1 : Nat) : Int) - 1) = (t : Int) := by rw [IntWalk.i64_in _ (by omega)]; omega
        by_cases h3 : z ≤ y
        · have hno : ¬ TouchOk wd n l := fun ht => by
            have h6 := (ht (t + 1) hlt).2.2 (by omega)
            rw [Nat.add_sub_cancel, ← hz.out, ← hy.out] at h6
            omega
          have q3 : decide (z ≤ y) = true := by simp; omega
          go_wp2
          go_quiet (fail)
          go_wp2
          (try simp only [Exit.inBlock, Exit.then])
          exact ⟨hno, _, World.drewN_drewN ..⟩
        · have q3 : decide (z ≤ y) = false := by simp; omega
          go_wp2
          go_quiet (fail)
          go_wp2
          go_roundw
          case rel => exact ⟨t + 1 + 1, _, by omega, by go_num, rfl, fun j hj => by
            rcases Nat.lt_succ_iff_lt_or_eq.1 hj with hj | rfl
            · exact hall.out j hj
            · exact ⟨by rw [← hz.out]; omega, by rw [← hz.out]; omega, fun _ => by rw [Nat.add_sub_cancel, ← hz.out, ← hy.out]; omega⟩⟩
          case measure => simp [intOf]; omega
    · obtain rfl : i = n := by omega
      go_wp2
      apply hK
      exact ⟨hall.out, nd, rfl⟩
end Go.Proofs.Ytifhjigkljdkmaa
