/- group.Reads: its first loop. -/
import Derived.Test.YtifhjigkljdkmaaGh
namespace Go.Proofs.Ytifhjigkljdkmaa
open Go.RowKit
open Gf (F)
set_option linter.unusedSimpArgs false
set_option linter.unusedVariables false
set_option maxRecDepth 100000 in
set_option maxHeartbeats 2000000 in
theorem gr0 {Q : Exit → Act → World → Prop} {p : Nat → Prop} {w3 : World} {A : Option Addr} {n c wd : Nat} {l : List Int} (h : Ints p w3 A n c l) (h4 : 4 ≤ wd) (h16 : wd ≤ 16)
    {u2 u3 u4 u5 u6 u7 u8 u9 u10 u11 u12 u13 u14 u15 u16 u17 u18 u19 u20 u21 u22 u23 u24 u28 u29 u30 u31 u32 u33 u34 u35 u36 u37 u38 u39 u40 u41 u42 u43 u44 u45 u46 u47 u48 u49 u50 u51 u52 u53 u54 u55 u56 u57 u58 u59 u60 u61 u62 u63 u64 u65 u66 u67 u68 u69 u70 u71 u72 u73 u74 u75 u76 u77 u78 u79 u80 u81 u82 u83 u84 u85 u86 u87 u88 u89 : Value}
    (hK : ∀ (x6 x7 x8 x9 x27 x28 x29 x30 x31 x32 x33 x34 x35 x36 x37 x38 x39 x40 x41 x42 x43 x44 x45 x46 x47 x48 x49 x50 x51 x52 x53 : Value) (w' : World), (TouchOk wd n l ∧ w' = w3) → Q (.exit 0) ⟨List.toArray ((.int .i64 (wd : Int)) :: (.slice A n c) :: (u2) :: (u3) :: (u4) :: (u5) :: (x6) :: (x7) :: (x8) :: (x9) :: (u10) :: (u11) :: (u12) :: (u13) :: (u14) :: (u15) :: (u16) :: (u17) :: (u18) :: (u19) :: (u20) :: (u21) :: (u22) :: (u23) :: (u24) :: (.slice A n c) :: (.int .i64 (n : Int)) :: (x27) :: (x28) :: (x29) :: (x30) :: (x31) :: (x32) :: (x33) :: (x34) :: (x35) :: (x36) :: (x37) :: (x38) :: (x39) :: (x40) :: (x41) :: (x42) :: (x43) :: (x44) :: (x45) :: (x46) :: (x47) :: (x48) :: (x49) :: (x50) :: (x51) :: (x52) :: (x53) :: (u54) :: (u55) :: (u56) :: (u57) :: (u58) :: (u59) :: (u60) :: (u61) :: (u62) :: (u63) :: (u64) :: (u65) :: (u66) :: (u67) :: (u68) :: (u69) :: (u70) :: (u71) :: (u72) :: (u73) :: (u74) :: (u75) :: (u76) :: (u77) :: (u78) :: (u79) :: (u80) :: (u81) :: (u82) :: (u83) :: (u84) :: (u85) :: (u86) :: (u87) :: (u88) :: (u89) :: []), []⟩ w')
    (hR : ∀ (x8 x9 x27 x28 x29 x30 x31 x32 x33 x34 x35 x36 x37 x38 x39 x40 x41 x42 x43 x44 x45 x46 x47 x48 x49 x50 x51 x52 x53 : Value) (w' : World), (¬ TouchOk wd n l ∧ w' = w3) → Q .ret ⟨List.toArray ((.int .i64 (wd : Int)) :: (.slice A n c) :: (u2) :: (u3) :: (u4) :: (u5) :: (.slice none 0 0) :: (.int .i64 1) :: (x8) :: (x9) :: (u10) :: (u11) :: (u12) :: (u13) :: (u14) :: (u15) :: (u16) :: (u17) :: (u18) :: (u19) :: (u20) :: (u21) :: (u22) :: (u23) :: (u24) :: (.slice A n c) :: (.int .i64 (n : Int)) :: (x27) :: (x28) :: (x29) :: (x30) :: (x31) :: (x32) :: (x33) :: (x34) :: (x35) :: (x36) :: (x37) :: (x38) :: (x39) :: (x40) :: (x41) :: (x42) :: (x43) :: (x44) :: (x45) :: (x46) :: (x47) :: (x48) :: (x49) :: (x50) :: (x51) :: (x52) :: (x53) :: (u54) :: (u55) :: (u56) :: (u57) :: (u58) :: (u59) :: (u60) :: (u61) :: (u62) :: (u63) :: (u64) :: (u65) :: (u66) :: (u67) :: (u68) :: (u69) :: (u70) :: (u71) :: (u72) :: (u73) :: (u74) :: (u75) :: (u76) :: (u77) :: (u78) :: (u79) :: (u80) :: (u81) :: (u82) :: (u83) :: (u84) :: (u85) :: (u86) :: (u87) :: (u88) :: (u89) :: []), []⟩ w') :
    (piece Try.f57 [1, 1, 0, 1, 0]).wp Try.prog Q ⟨List.toArray ((.int .i64 (wd : Int)) :: (.slice A n c) :: u2 :: u3 :: u4 :: u5 :: u6 :: u7 :: u8 :: u9 :: u10 :: u11 :: u12 :: u13 :: u14 :: u15 :: u16 :: u17 :: u18 :: u19 :: u20 :: u21 :: u22 :: u23 :: u24 :: (.slice A n c) :: (.int .i64 (n : Int)) :: (.int .i64 0) :: u28 :: u29 :: u30 :: u31 :: u32 :: u33 :: u34 :: u35 :: u36 :: u37 :: u38 :: u39 :: u40 :: u41 :: u42 :: u43 :: u44 :: u45 :: u46 :: u47 :: u48 :: u49 :: u50 :: u51 :: u52 :: u53 :: u54 :: u55 :: u56 :: u57 :: u58 :: u59 :: u60 :: u61 :: u62 :: u63 :: u64 :: u65 :: u66 :: u67 :: u68 :: u69 :: u70 :: u71 :: u72 :: u73 :: u74 :: u75 :: u76 :: u77 :: u78 :: u79 :: u80 :: u81 :: u82 :: u83 :: u84 :: u85 :: u86 :: u87 :: u88 :: u89 :: []), []⟩ w3 := by
  conv => arg 2; whnf
  have hn := h.row.len
  go_loop [27] (fun x => ∃ i : Nat, i ≤ n ∧ x = .int .i64 i ∧ ∀ j, j < i → 0 ≤ nti l j ∧ nti l j < (wd : Int) - 3 ∧ (0 < j → nti l (j - 1) < nti l j)) (fun x => n - (intOf x).toNat)
  case atStart => exact ⟨0, by omega, rfl, fun j hj => absurd hj (Nat.not_lt_zero _)⟩
  case round =>
    obtain ⟨i, hi, rfl, hall⟩ := hrel
    replace hall := Lib.hid hall
    by_cases hlt : i < n
    · obtain ⟨b1, o1, rfl, _, _, hc⟩ := h.row.at_ (by omega)
      have e1 := hc i hlt
      have hcp : ∀ t, t + 1 = i → w3.cell? ⟨b1, o1 + t, none⟩ = some (.int .i64 (nti l t)) := fun t ht => hc t (by omega)
      replace hcp := Lib.hid hcp
      clear hc
      have d1 : (0 : Int) ≤ (i : Int) := Int.natCast_nonneg _
      have d2 : (i : Int) < (n : Int) := by omega
      obtain ⟨z, hz⟩ : ∃ z, z = nti l i := ⟨_, rfl⟩
      rw [← hz] at e1
      replace hz := Lib.hid hz
      by_cases h1 : z < 0
      · have hno : ¬ TouchOk wd n l := fun ht => by have := (ht i hlt).1; rw [← hz.out] at this; omega
        go_wp2
        (try simp only [Exit.inBlock, Exit.then])
        all_goals (first | exact ⟨hno, rfl⟩ | (apply hR; exact ⟨hno, rfl⟩))
      by_cases h2 : (wd : Int) - 3 ≤ z
      · have hno : ¬ TouchOk wd n l := fun ht => by have := (ht i hlt).2.1; rw [← hz.out] at this; omega
        go_wp2
        (try simp only [Exit.inBlock, Exit.then])
        all_goals (first | exact ⟨hno, rfl⟩ | (apply hR; exact ⟨hno, rfl⟩))
      cases i with
      | zero =>
        have e0 : w3.cell? ⟨b1, o1, none⟩ = some (.int .i64 z) := e1
        have n0 : 0 < n := hlt
        have n1 : (0 : Int) < (n : Int) := by omega
        go_wp2
        go_round
        case rel => exact ⟨0 + 1, by omega, by go_num, fun j hj => by
          rcases Nat.lt_succ_iff_lt_or_eq.1 hj with hj | rfl
          · exact hall.out j hj
          · exact ⟨by rw [← hz.out]; omega, by rw [← hz.out]; omega, fun h => absurd h (Nat.lt_irrefl 0)⟩⟩
        case measure => simp [intOf]; omega
      | succ t =>
        have e2 := hcp.out t rfl
        obtain ⟨y, hy⟩ : ∃ y, y = nti l t := ⟨_, rfl⟩
        rw [← hy] at e2
        replace hy := Lib.hid hy
        have d3 : (0 : Int) ≤ (t : Int) := Int.natCast_nonneg _
        have d4 : (t : Int) < (n : Int) := by omega
        have d5 : (0 : Int) < ((t + 1 : Nat) : Int) := by omega
        by_cases h3 : z ≤ y
        · have hno : ¬ TouchOk wd n l := fun ht => by
            have h6 := (ht (t + 1) hlt).2.2 (by omega)
            rw [Nat.add_sub_cancel, ← hz.out, ← hy.out] at h6
            omega
          go_wp2
          (try simp only [Exit.inBlock, Exit.then])
          all_goals (first | exact ⟨hno, rfl⟩ | (apply hR; exact ⟨hno, rfl⟩))
        · skip
          go_wp2
          go_round
          case rel => exact ⟨t + 1 + 1, by omega, by go_num, fun j hj => by
            rcases Nat.lt_succ_iff_lt_or_eq.1 hj with hj | rfl
            · exact hall.out j hj
            · exact ⟨by rw [← hz.out]; omega, by rw [← hz.out]; omega, fun _ => by rw [Nat.add_sub_cancel, ← hz.out, ← hy.out]; omega⟩⟩
          case measure => simp [intOf]; omega
    · obtain rfl : i = n := by omega
      go_wp2
      first | exact ⟨hall.out, rfl⟩ | (apply hK; exact ⟨hall.out, rfl⟩)
end Go.Proofs.Ytifhjigkljdkmaa
