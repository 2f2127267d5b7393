/- group.Reads: its loop over the three methods, and the whole. -/
import Derived.Test.YtifhjigkljdkmaaGj
import Derived.Laws.EntriesVeiled
import Derived.Laws.ResultCell
import Derived.Outline
namespace Go.Proofs.Ytifhjigkljdkmaa
open Go.RowKit
open Gf (F)
set_option linter.unusedSimpArgs false
set_option linter.unusedVariables false
set_option maxRecDepth 100000 in
set_option maxHeartbeats 1000000 in
theorem methods_any (w : World) : Calls Try.prog 110 #[] w fun e w' => e = .returned (.agg #[.func (.func 122) #[] #[], .func (.func 123) #[] #[], .func (.func 136) #[] #[]]) ∧ Below w.heap.size w w' := by
  go_enter Try.func110, Try.ntmps110
  go_wp2
  exact bodyPost_ret (v := .agg #[.func (.func 122) #[] #[], .func (.func 123) #[] #[], .func (.func 136) #[] #[]]) (results_cell_row Try.results110 _ _ w.heap.size 146 #[.func (.func 122) #[] #[], .func (.func 123) #[] #[], .func (.func 136) #[] #[]] (0, 0) _ rfl (heap_alloc_new w _) Try.underlying146 rfl (by kernel_rfl)) rfl ⟨rfl, (Below.refl _ _).alloc (Nat.le_refl _) _⟩
/-- What the loop's two variables say of the best list so far. -/
def BestIs (w : World) (s : Option (List Int)) (v f : Value) : Prop :=
  match s with
  | none => v = .slice none 0 0 ∧ f = .bool false
  | some r => f = .bool true ∧ ∃ A c, v = .slice A r.length c ∧ Ints (fun _ => True) w A r.length c r
def best1 (wd : Nat) (l : List Int) (b : List Bool) : Option (List Int) := better (cleanB (deltaL wd l) b) (deltaL wd l) none
def best2 (wd : Nat) (l : List Int) (b : List Bool) : Option (List Int) := better (cleanB (restL wd l) b) (restL wd l) (best1 wd l b)
def MethAt (w : World) (wd : Nat) (l : List Int) (b : List Bool) (v f x : Value) : Prop :=
  (x = .int .i64 0 ∧ BestIs w none v f) ∨ (x = .int .i64 1 ∧ BestIs w (best1 wd l b) v f) ∨ (x = .int .i64 2 ∧ BestIs w (best2 wd l b) v f) ∨ (x = .int .i64 3 ∧ BestIs w (bestL wd l b) v f)
theorem better_no {l : List Int} {s : Option (List Int)} : better false l s = s := by cases s <;> rfl
theorem better_new {l : List Int} : better true l none = some l := rfl
theorem better_yes {l r : List Int} (h : l.length < r.length) : better true l (some r) = some l := by simp [better, h]
theorem better_keep {l r : List Int} (h : ¬ l.length < r.length) : better true l (some r) = some r := by simp [better, h]
theorem BestIs.below {w w' : World} {s : Option (List Int)} {v f : Value} (h : BestIs w s v f) (hb : Below w.heap.size w w') : BestIs w' s v f := by
  cases s with
  | none => exact h
  | some r =>
    obtain ⟨h1, A, c, h2, h3⟩ := h
    exact ⟨h1, A, c, h2, h3.below hb⟩
theorem sel_rest {wd : Nat} (h4 : 4 ≤ wd) (l : List Int) : sel (rest2P wd l) wd = restL wd l := rest_same h4 l
set_option maxRecDepth 100000 in
set_option maxHeartbeats 4000000 in
theorem gr2 {Q : Exit → Act → World → Prop} {p q : Nat → Prop} {w3 : World} {A B : Option Addr} {n c d wd gb : Nat} {l : List Int} {b : List Bool} (h : Ints p w3 A n c l) (g : Bools q w3 B wd d b) (h4 : 4 ≤ wd) (h16 : wd ≤ 16) (hg : wd - 3 ≤ (goodL wd b).length) (hbox : w3.cell? ⟨gb, 0, none⟩ = some (.slice B wd d)) (hgb : gb < w3.heap.size)
    {u2 u3 u4 u6 u7 u8 u9 u12 u13 u14 u15 u16 u17 u18 u19 u20 u21 u22 u23 u24 u25 u26 u27 u28 u29 u30 u31 u32 u33 u34 u35 u36 u37 u38 u39 u40 u41 u42 u43 u44 u45 u46 u47 u48 u49 u50 u51 u52 u53 u54 u55 u56 u57 u58 u59 u60 u61 u64 u65 u66 u67 u68 u69 u70 u71 u72 u73 u74 u75 u76 u77 u78 u79 u80 u81 u82 u83 u84 u85 u86 u87 u88 u89 : Value}
    (hK : ∀ (x10 x11 x13 x14 x15 x63 x64 x65 x66 x67 x68 x69 x70 x71 x72 x73 x74 x75 x76 x77 x78 x79 x80 x81 x82 x83 x84 x85 x86 x87 x88 : Value) (w' : World), (BestIs w' (bestL wd l b) x10 x11 ∧ Below w3.heap.size w3 w') → Q (.exit 2) ⟨List.toArray ((.int .i64 (wd : Int)) :: (.slice A n c) :: (u2) :: (u3) :: (u4) :: (.pointer (some ⟨gb, 0, none⟩)) :: (u6) :: (u7) :: (u8) :: (u9) :: (x10) :: (x11) :: (u12) :: (x13) :: (x14) :: (x15) :: (u16) :: (u17) :: (u18) :: (u19) :: (u20) :: (u21) :: (u22) :: (u23) :: (u24) :: (u25) :: (u26) :: (u27) :: (u28) :: (u29) :: (u30) :: (u31) :: (u32) :: (u33) :: (u34) :: (u35) :: (u36) :: (u37) :: (u38) :: (u39) :: (u40) :: (u41) :: (u42) :: (u43) :: (u44) :: (u45) :: (u46) :: (u47) :: (u48) :: (u49) :: (u50) :: (u51) :: (u52) :: (u53) :: (u54) :: (u55) :: (u56) :: (u57) :: (u58) :: (u59) :: (u60) :: (u61) :: (.agg #[.func (.func 122) #[] #[], .func (.func 123) #[] #[], .func (.func 136) #[] #[]]) :: (x63) :: (x64) :: (x65) :: (x66) :: (x67) :: (x68) :: (x69) :: (x70) :: (x71) :: (x72) :: (x73) :: (x74) :: (x75) :: (x76) :: (x77) :: (x78) :: (x79) :: (x80) :: (x81) :: (x82) :: (x83) :: (x84) :: (x85) :: (x86) :: (x87) :: (x88) :: (u89) :: []), []⟩ w') :
    (piece Try.f57 [1, 1, 1, 1, 1, 1, 1, 0, 1, 0]).wp Try.prog Q ⟨List.toArray ((.int .i64 (wd : Int)) :: (.slice A n c) :: u2 :: u3 :: u4 :: (.pointer (some ⟨gb, 0, none⟩)) :: u6 :: u7 :: u8 :: u9 :: (.slice none 0 0) :: (.bool false) :: u12 :: u13 :: u14 :: u15 :: u16 :: u17 :: u18 :: u19 :: u20 :: u21 :: u22 :: u23 :: u24 :: u25 :: u26 :: u27 :: u28 :: u29 :: u30 :: u31 :: u32 :: u33 :: u34 :: u35 :: u36 :: u37 :: u38 :: u39 :: u40 :: u41 :: u42 :: u43 :: u44 :: u45 :: u46 :: u47 :: u48 :: u49 :: u50 :: u51 :: u52 :: u53 :: u54 :: u55 :: u56 :: u57 :: u58 :: u59 :: u60 :: u61 :: (.agg #[.func (.func 122) #[] #[], .func (.func 123) #[] #[], .func (.func 136) #[] #[]]) :: (.int .i64 0) :: u64 :: u65 :: u66 :: u67 :: u68 :: u69 :: u70 :: u71 :: u72 :: u73 :: u74 :: u75 :: u76 :: u77 :: u78 :: u79 :: u80 :: u81 :: u82 :: u83 :: u84 :: u85 :: u86 :: u87 :: u88 :: u89 :: []), []⟩ w3 := by
  conv => arg 2; whnf
  have i0 : ∀ w, (Instr.index 146 (.agg #[.func (.func 122) #[] #[], .func (.func 123) #[] #[], .func (.func 136) #[] #[]]) (.int .i64 0)).run Try.prog w = .ok (.agg #[.func (.func 122) #[] #[]]) w := fun _ => by kernel_rfl
  have i1 : ∀ w, (Instr.index 146 (.agg #[.func (.func 122) #[] #[], .func (.func 123) #[] #[], .func (.func 136) #[] #[]]) (.int .i64 1)).run Try.prog w = .ok (.agg #[.func (.func 123) #[] #[]]) w := fun _ => by kernel_rfl
  have i2 : ∀ w, (Instr.index 146 (.agg #[.func (.func 122) #[] #[], .func (.func 123) #[] #[], .func (.func 136) #[] #[]]) (.int .i64 2)).run Try.prog w = .ok (.agg #[.func (.func 136) #[] #[]]) w := fun _ => by kernel_rfl
  go_loopw [10, 11, 63] (fun v f x wr => MethAt wr wd l b v f x ∧ Below w3.heap.size w3 wr) (fun _ _ x _ => 3 - (intOf x).toNat)
  case atStart => exact ⟨.inl ⟨rfl, rfl, rfl⟩, Below.refl _ _⟩
  case round =>
    obtain ⟨hat, hbw⟩ := hrel
    have hsz := hbw.size
    rcases hat with ⟨rfl, hst⟩ | ⟨rfl, hst⟩ | ⟨rfl, hst⟩ | ⟨rfl, hst⟩
    · have hz : wr.heap.size < (wr.alloc (.cells #[.func (.func 122) #[] #[]] 145)).heap.size := by simp
      have hba : Below wr.heap.size wr (wr.alloc (.cells #[.func (.func 122) #[] #[]] 145)) := (Below.refl _ _).alloc (Nat.le_refl _) _
      have e5 : (wr.alloc (.cells #[.func (.func 122) #[] #[]] 145)).cell? ⟨gb, 0, none⟩ = some (.slice B wd d) := (hba.cell (p := ⟨gb, 0, none⟩) (by have := hbw.size; simp; omega)).trans ((hbw.cell (p := ⟨gb, 0, none⟩) hgb).trans hbox)
      have h1 := (h.below hbw).below hba
      have g1 := (g.below hbw).below hba
      have hB0 := below_then2 hbw hba
      have hm := gdelta_any h4 h16 h1 g1
      obtain ⟨L, hL⟩ : ∃ L, L = sel (deltaP wd l) wd := ⟨_, rfl⟩
      rw [← hL] at hm
      obtain ⟨ok, hok⟩ : ∃ ok, ok = cleanB (sel (deltaP wd l) wd) b := ⟨_, rfl⟩
      rw [← hL] at hok
      rw [← hok] at hm
      cases ok with
      | false =>
        have hs : Hid (best1 wd l b = none) := by unfold best1 deltaL; rw [← hL, ← hok]; exact better_no
        replace hL := Lib.hid hL
        replace hok := Lib.hid hok
        replace hst := Lib.hid hst
        obtain ⟨rfl, rfl⟩ := hst.out
        go_wp2_with (go_at_call 122; (with_reducible refine hm.mono ?_); rintro e w2 ⟨A2, c2, rfl, hi2, hb2⟩; have hB2 := below_then2 hB0 hb2; have hw2 := below_then2 hba hb2)
        go_roundw
        case rel => exact ⟨.inr (.inl ⟨rfl, by rw [hs.out]; exact ⟨rfl, rfl⟩⟩), hB2⟩
        case measure => simp [intOf]
      | true =>
        replace hL := Lib.hid hL
        replace hok := Lib.hid hok
        have hs : Hid (best1 wd l b = some L) := by unfold best1 deltaL; rw [← hL.out, ← hok.out]; exact better_new
        replace hst := Lib.hid hst
        obtain ⟨rfl, rfl⟩ := hst.out
        go_wp2_with (go_at_call 122; (with_reducible refine hm.mono ?_); rintro e w2 ⟨A2, c2, rfl, hi2, hb2⟩; have hB2 := below_then2 hB0 hb2; have hw2 := below_then2 hba hb2)
        go_roundw
        case rel => exact ⟨.inr (.inl ⟨rfl, by rw [hs.out]; exact ⟨rfl, _, _, rfl, hi2.mono fun _ _ _ => trivial⟩⟩), hB2⟩
        case measure => simp [intOf]
    · have hz : wr.heap.size < (wr.alloc (.cells #[.func (.func 123) #[] #[]] 145)).heap.size := by simp
      have hba : Below wr.heap.size wr (wr.alloc (.cells #[.func (.func 123) #[] #[]] 145)) := (Below.refl _ _).alloc (Nat.le_refl _) _
      have e5 : (wr.alloc (.cells #[.func (.func 123) #[] #[]] 145)).cell? ⟨gb, 0, none⟩ = some (.slice B wd d) := (hba.cell (p := ⟨gb, 0, none⟩) (by have := hbw.size; simp; omega)).trans ((hbw.cell (p := ⟨gb, 0, none⟩) hgb).trans hbox)
      have h1 := (h.below hbw).below hba
      have g1 := (g.below hbw).below hba
      have hB0 := below_then2 hbw hba
      have hm := grest_any h4 h16 h1 g1
      obtain ⟨L, hL⟩ : ∃ L, L = restL wd l := ⟨_, rfl⟩
      rw [sel_rest h4, ← hL] at hm
      obtain ⟨ok, hok⟩ : ∃ ok, ok = cleanB (restL wd l) b := ⟨_, rfl⟩
      rw [← hL] at hok
      rw [← hok] at hm
      cases ok with
      | false =>
        have hs : Hid (best2 wd l b = best1 wd l b) := by unfold best2; rw [← hL, ← hok]; exact better_no
        replace hL := Lib.hid hL
        replace hok := Lib.hid hok
        replace hst := Lib.hid hst
        go_wp2_with (go_at_call 123; (with_reducible refine hm.mono ?_); rintro e w2 ⟨A2, c2, rfl, hi2, hb2⟩; have hB2 := below_then2 hB0 hb2; have hw2 := below_then2 hba hb2)
        go_roundw
        case rel => exact ⟨.inr (.inr (.inl ⟨rfl, by rw [hs.out]; exact hst.out.below hw2⟩)), hB2⟩
        case measure => simp [intOf]
      | true =>
        cases hprev : best1 wd l b with
        | none =>
          rw [hprev] at hst
          obtain ⟨rfl, rfl⟩ := hst
          replace hL := Lib.hid hL
          replace hok := Lib.hid hok
          have hs : Hid (best2 wd l b = some L) := by unfold best2; rw [← hL.out, ← hok.out]; rw [hprev]; exact better_new
          replace hprev := Lib.hid hprev
          go_wp2_with (go_at_call 123; (with_reducible refine hm.mono ?_); rintro e w2 ⟨A2, c2, rfl, hi2, hb2⟩; have hB2 := below_then2 hB0 hb2; have hw2 := below_then2 hba hb2)
          go_roundw
          case rel => exact ⟨.inr (.inr (.inl ⟨rfl, by rw [hs.out]; exact ⟨rfl, _, _, rfl, hi2.mono fun _ _ _ => trivial⟩⟩)), hB2⟩
          case measure => simp [intOf]
        | some r =>
          rw [hprev] at hst
          obtain ⟨rfl, A3, c3, rfl, hi3⟩ := hst
          have hr63 := hi3.row.len
          by_cases hlen : L.length < r.length
          · have hlen2 : (L.length : Int) < (r.length : Int) := by omega
            replace hL := Lib.hid hL
            replace hok := Lib.hid hok
            have hs : Hid (best2 wd l b = some L) := by unfold best2; rw [← hL.out, ← hok.out]; rw [hprev]; exact better_yes hlen
            replace hprev := Lib.hid hprev
            go_wp2_with (go_at_call 123; (with_reducible refine hm.mono ?_); rintro e w2 ⟨A2, c2, rfl, hi2, hb2⟩; have hB2 := below_then2 hB0 hb2; have hw2 := below_then2 hba hb2)
            go_roundw
            case rel => exact ⟨.inr (.inr (.inl ⟨rfl, by rw [hs.out]; exact ⟨rfl, _, _, rfl, hi2.mono fun _ _ _ => trivial⟩⟩)), hB2⟩
            case measure => simp [intOf]
          · have hlen2 : ¬ ((L.length : Int) < (r.length : Int)) := by omega
            replace hL := Lib.hid hL
            replace hok := Lib.hid hok
            have hs : Hid (best2 wd l b = some r) := by unfold best2; rw [← hL.out, ← hok.out]; rw [hprev]; exact better_keep hlen
            replace hprev := Lib.hid hprev
            go_wp2_with (go_at_call 123; (with_reducible refine hm.mono ?_); rintro e w2 ⟨A2, c2, rfl, hi2, hb2⟩; have hB2 := below_then2 hB0 hb2; have hw2 := below_then2 hba hb2)
            go_roundw
            case rel => exact ⟨.inr (.inr (.inl ⟨rfl, by rw [hs.out]; exact ⟨rfl, _, _, rfl, hi3.below hw2⟩⟩)), hB2⟩
            case measure => simp [intOf]
    · have hz : wr.heap.size < (wr.alloc (.cells #[.func (.func 136) #[] #[]] 145)).heap.size := by simp
      have hba : Below wr.heap.size wr (wr.alloc (.cells #[.func (.func 136) #[] #[]] 145)) := (Below.refl _ _).alloc (Nat.le_refl _) _
      have e5 : (wr.alloc (.cells #[.func (.func 136) #[] #[]] 145)).cell? ⟨gb, 0, none⟩ = some (.slice B wd d) := (hba.cell (p := ⟨gb, 0, none⟩) (by have := hbw.size; simp; omega)).trans ((hbw.cell (p := ⟨gb, 0, none⟩) hgb).trans hbox)
      have h1 := (h.below hbw).below hba
      have g1 := (g.below hbw).below hba
      have hB0 := below_then2 hbw hba
      have hm := gfirst_any (A := A) (n := n) (c := c) h4 h16 g1 hg
      obtain ⟨L, hL⟩ : ∃ L, L = (goodL wd b).take (wd - 3) := ⟨_, rfl⟩
      have hl2 : L.length = wd - 3 := by rw [hL, List.length_take]; omega
      rw [← hL, ← hl2] at hm
      replace hl2 := Lib.hid hl2
      cases hprev : best2 wd l b with
      | none =>
        rw [hprev] at hst
        obtain ⟨rfl, rfl⟩ := hst
        replace hL := Lib.hid hL
        have hs : Hid (bestL wd l b = some L) := by unfold bestL; rw [← hL.out]; show better true L (best2 wd l b) = _; rw [hprev]; exact better_new
        replace hprev := Lib.hid hprev
        go_wp2_with (go_at_call 136; (with_reducible refine hm.mono ?_); rintro e w2 ⟨A2, c2, rfl, hi2, hb2⟩; have hB2 := below_then2 hB0 hb2; have hw2 := below_then2 hba hb2)
        go_roundw
        case rel => exact ⟨.inr (.inr (.inr ⟨rfl, by rw [hs.out]; exact ⟨rfl, _, _, rfl, hi2.mono fun _ _ _ => trivial⟩⟩)), hB2⟩
        case measure => simp [intOf]
      | some r =>
        rw [hprev] at hst
        obtain ⟨rfl, A3, c3, rfl, hi3⟩ := hst
        have hr63 := hi3.row.len
        by_cases hlen : L.length < r.length
        · have hlen2 : (L.length : Int) < (r.length : Int) := by omega
          replace hL := Lib.hid hL
          have hs : Hid (bestL wd l b = some L) := by unfold bestL; rw [← hL.out]; show better true L (best2 wd l b) = _; rw [hprev]; exact better_yes hlen
          replace hprev := Lib.hid hprev
          go_wp2_with (go_at_call 136; (with_reducible refine hm.mono ?_); rintro e w2 ⟨A2, c2, rfl, hi2, hb2⟩; have hB2 := below_then2 hB0 hb2; have hw2 := below_then2 hba hb2)
          go_roundw
          case rel => exact ⟨.inr (.inr (.inr ⟨rfl, by rw [hs.out]; exact ⟨rfl, _, _, rfl, hi2.mono fun _ _ _ => trivial⟩⟩)), hB2⟩
          case measure => simp [intOf]
        · have hlen2 : ¬ ((L.length : Int) < (r.length : Int)) := by omega
          replace hL := Lib.hid hL
          have hs : Hid (bestL wd l b = some r) := by unfold bestL; rw [← hL.out]; show better true L (best2 wd l b) = _; rw [hprev]; exact better_keep hlen
          replace hprev := Lib.hid hprev
          go_wp2_with (go_at_call 136; (with_reducible refine hm.mono ?_); rintro e w2 ⟨A2, c2, rfl, hi2, hb2⟩; have hB2 := below_then2 hB0 hb2; have hw2 := below_then2 hba hb2)
          go_roundw
          case rel => exact ⟨.inr (.inr (.inr ⟨rfl, by rw [hs.out]; exact ⟨rfl, _, _, rfl, hi3.below hw2⟩⟩)), hB2⟩
          case measure => simp [intOf]
    · go_wp2
      exact ⟨hst, hbw⟩
end Go.Proofs.Ytifhjigkljdkmaa
