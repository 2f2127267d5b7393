import Derived.Test.YtifhjigkljdkmaaM5
import Derived.Test.YtifhjigkljdkmaaM6
import Derived.Test.YtifhjigkljdkmaaOd
namespace Go.Proofs.Ytifhjigkljdkmaa
open Go.RowKit
open Gf (F)
set_option linter.unusedSimpArgs false
set_option linter.unusedVariables false
set_option maxRecDepth 100000 in
set_option maxHeartbeats 1000000 in
theorem add0 {Q : Exit → Act → World → Prop} {w w3 : World} {q q3 : Nat → Prop} {gB m k c c3 c4 : Nat} {A A3 A4 : Option Addr} {S : Nat → Option Addr} {D : Nat → Nat} {B : List (List F)} {x : List F} (hred : Red m B) (hm : m ≤ 4096) (hk : k ≤ 4096) (hb : Mat q w A4 k c4 S m D B) (hl : Row q3 w A3 k c3 (fun j => .int .i64 (leadN (mrow B j) : Int))) (hf : w.cell? ⟨gB, 1, none⟩ = some (.slice A3 k c3)) (hx : Byt (fun b => w.heap.size ≤ b) w3 A m c x) (hb3 : Below w.heap.size w w3)
    {u2 u3 u4 u5 u6 u7 u8 u9 u10 u11 u12 u13 u14 u15 u16 u20 u21 u22 u23 u24 u25 u26 u27 u28 u29 u30 u31 u32 u33 u34 u35 u36 u37 u38 u39 u40 u41 u42 u43 u44 u45 u46 u47 u48 u49 u50 u51 u52 u53 u54 u55 u56 u57 u58 u59 u60 u61 u62 u63 u64 u65 u66 u67 u68 u69 u70 u71 u72 u73 u74 u75 u76 u77 u78 u79 u80 u81 u82 u83 u84 u85 u86 u87 u88 u89 u90 u91 u92 u93 u94 u95 u96 u97 u98 u99 u100 u101 u102 u103 u104 u105 u106 u107 u108 : Value}
    (hK : ∀ (x1 x5 x6 x19 x20 x21 x22 x23 x24 x25 x26 x27 x28 x29 x30 x31 x32 x33 x34 x35 x36 x37 x38 x39 x40 : Value) (w' : World), (∃ (A' : Option Addr) (c' : Nat), x1 = .slice A' m c' ∧ Byt (fun b => w.heap.size ≤ b) w' A' m c' (redR B x) ∧ Below w.heap.size w w') → Q (.exit 0) ⟨List.toArray ((.pointer (some ⟨gB, 0, none⟩)) :: (x1) :: (u2) :: (u3) :: (u4) :: (x5) :: (x6) :: (u7) :: (u8) :: (u9) :: (u10) :: (u11) :: (u12) :: (u13) :: (u14) :: (u15) :: (u16) :: (.slice A4 k c4) :: (.int .i64 (k : Int)) :: (x19) :: (x20) :: (x21) :: (x22) :: (x23) :: (x24) :: (x25) :: (x26) :: (x27) :: (x28) :: (x29) :: (x30) :: (x31) :: (x32) :: (x33) :: (x34) :: (x35) :: (x36) :: (x37) :: (x38) :: (x39) :: (x40) :: (u41) :: (u42) :: (u43) :: (u44) :: (u45) :: (u46) :: (u47) :: (u48) :: (u49) :: (u50) :: (u51) :: (u52) :: (u53) :: (u54) :: (u55) :: (u56) :: (u57) :: (u58) :: (u59) :: (u60) :: (u61) :: (u62) :: (u63) :: (u64) :: (u65) :: (u66) :: (u67) :: (u68) :: (u69) :: (u70) :: (u71) :: (u72) :: (u73) :: (u74) :: (u75) :: (u76) :: (u77) :: (u78) :: (u79) :: (u80) :: (u81) :: (u82) :: (u83) :: (u84) :: (u85) :: (u86) :: (u87) :: (u88) :: (u89) :: (u90) :: (u91) :: (u92) :: (u93) :: (u94) :: (u95) :: (u96) :: (u97) :: (u98) :: (u99) :: (u100) :: (u101) :: (u102) :: (u103) :: (u104) :: (u105) :: (u106) :: (u107) :: (u108) :: []), []⟩ w') :
    (piece Try.f132 [1, 1, 0, 1, 0]).wp Try.prog Q ⟨List.toArray ((.pointer (some ⟨gB, 0, none⟩)) :: (.slice A m c) :: u2 :: u3 :: u4 :: u5 :: u6 :: u7 :: u8 :: u9 :: u10 :: u11 :: u12 :: u13 :: u14 :: u15 :: u16 :: (.slice A4 k c4) :: (.int .i64 (k : Int)) :: (.int .i64 0) :: u20 :: u21 :: u22 :: u23 :: u24 :: u25 :: u26 :: u27 :: u28 :: u29 :: u30 :: u31 :: u32 :: u33 :: u34 :: u35 :: u36 :: u37 :: u38 :: u39 :: u40 :: u41 :: u42 :: u43 :: u44 :: u45 :: u46 :: u47 :: u48 :: u49 :: u50 :: u51 :: u52 :: u53 :: u54 :: u55 :: u56 :: u57 :: u58 :: u59 :: u60 :: u61 :: u62 :: u63 :: u64 :: u65 :: u66 :: u67 :: u68 :: u69 :: u70 :: u71 :: u72 :: u73 :: u74 :: u75 :: u76 :: u77 :: u78 :: u79 :: u80 :: u81 :: u82 :: u83 :: u84 :: u85 :: u86 :: u87 :: u88 :: u89 :: u90 :: u91 :: u92 :: u93 :: u94 :: u95 :: u96 :: u97 :: u98 :: u99 :: u100 :: u101 :: u102 :: u103 :: u104 :: u105 :: u106 :: u107 :: u108 :: []), []⟩ w3 := by
  conv => arg 2; whnf
  have hgB : gB < w.heap.size := World.block_lt_of_cell? _ _ hf
  obtain ⟨wo, rfl⟩ : ∃ wo : World, wo = w3 := ⟨_, rfl⟩
  go_loopw [1, 19] (fun v x0 wr => ∃ (n : Nat) (A' : Option Addr) (c' : Nat), n ≤ k ∧ x0 = .int .i64 n ∧ v = .slice A' m c' ∧ Byt (fun b => w.heap.size ≤ b) wr A' m c' (redR (B.take n) x) ∧ Below w.heap.size w wr) (fun _ x0 _ => k - (intOf x0).toNat)
  case atStart => exact ⟨0, A, c, by omega, rfl, rfl, hx, hb3⟩
  case round =>
    clear hx hb3
    obtain ⟨n, A', c', hn, rfl, rfl, hcur, hbw⟩ := hrel
    by_cases hlt : n < k
    · obtain ⟨b2, o2, rfl, _, hlt2, hc2⟩ := hb.row.at_ (by omega)
      have f1 : wr.cell? ⟨b2, o2 + n, none⟩ = some (.slice (S n) m (D n)) := (hbw.cell (by exact hlt2)).trans (hc2 n hlt)
      obtain ⟨b5, o5, rfl, _, hlt5, hc5⟩ := hl.at_ (by omega)
      have f5 : wr.cell? ⟨b5, o5 + n, none⟩ = some (.int .i64 (leadN (mrow B n) : Int)) := (hbw.cell (by exact hlt5)).trans (hc5 n hlt)
      have f6 : wr.cell? ⟨gB, 1, none⟩ = some (.slice (some ⟨b5, o5, none⟩) k c3) := (hbw.cell (by exact hgB)).trans hf
      clear hc2 hc5
      have hnb : n < B.length := by rw [hb.len]; exact hlt
      have hl1 := hred.lead n hnb
      have hrow := (hb.rows n hlt).below hbw
      have hstep := redR_succ (x := x) hnb
      obtain ⟨t, ht⟩ : ∃ t, t = leadN (mrow B n) := ⟨_, rfl⟩
      rw [← ht] at hl1 f5 hstep
      replace hstep := Lib.hid hstep
      replace ht := Lib.hid ht
      obtain ⟨b3, o3, rfl, _, hlt3, hc3⟩ := hcur.at_ (by omega)
      have f2 := hc3 t hl1
      clear hc3
      have hsz := hbw.size
      have c1 : (0 : Int) ≤ (n : Int) := Int.natCast_nonneg _
      have c2' : (n : Int) < (k : Int) := by omega
      have c3' : (0 : Int) ≤ (t : Int) := Int.natCast_nonneg _
      have c4' : (t : Int) < (m : Int) := by omega
      go_upto_region 5 with fail
      go_wp2_with (go_at_call 91; refine (fused_any _ _ hcur hrow (by omega)).mono ?_; rintro e w5 ⟨g5, rfl, hg5, hrow5, hb5⟩)
      go_roundw
      case rel => exact ⟨n + 1, _, _, by omega, by go_num, rfl, by rw [hstep.out]; exact Byt.of_rowIs hrow5 (fuse_length _ hcur.len hrow.len) (Nat.le_trans hsz hg5) (max_of (by omega)), below_then hbw hsz hb5⟩
      case measure => simp [intOf]; omega
    · obtain rfl : n = k := by omega
      rw [List.take_of_length_le (by rw [hb.len]; exact Nat.le_refl _)] at hcur
      go_wp2
      exact ⟨A', c', rfl, hcur, hbw⟩
set_option maxRecDepth 100000 in
set_option maxHeartbeats 1000000 in
theorem add15 {Q : Exit → Act → World → Prop} {w3 : World} {gB g4 m k c c4 t r b7 o7 cr : Nat} {q : Nat → Prop} {p : Nat → Prop} {A : Option Addr} {x y : List F} (hm : m ≤ 4096) (ht : t < m) (hrk : r < k) (hf0 : w3.cell? ⟨gB, 0, none⟩ = some (.slice (some ⟨g4, 0, none⟩) k c4)) (hf4 : w3.cell? ⟨g4, r, none⟩ = some (.slice (some ⟨b7, o7, none⟩) m cr)) (hz4 : w3.frozen? ⟨g4, r, none⟩ = false) (hy : Byt q w3 (some ⟨b7, o7, none⟩) m cr y) (hx : Byt p w3 A m c x)
    {u2 u3 u4 u5 u6 u8 u9 u12 u13 u14 u15 u16 u17 u18 u19 u20 u21 u22 u23 u24 u25 u26 u27 u28 u29 u30 u31 u32 u33 u34 u35 u36 u37 u38 u39 u40 u41 u42 u43 u44 u45 u46 u47 u48 u49 u50 u51 u52 u53 u54 u55 u56 u57 u58 u59 u60 u61 u62 u63 u64 u65 u66 u67 u68 u69 u70 u71 u72 u73 u74 u75 u76 u77 u78 u79 u80 u81 u82 u83 u84 u85 u86 u87 u88 u89 u90 u91 u92 u93 u94 u95 u96 u97 u98 u99 u100 u101 u102 u103 u104 u105 u106 u107 u108 : Value}
    (hK : ∀ (x72 x73 x74 x75 x76 x77 x78 x79 x80 x81 x82 x83 x84 x85 x86 x87 : Value) (w' : World), (∃ (w5 : World) (g5 : Nat), w' = w5.setCell ⟨g4, r, none⟩ (.slice (some ⟨g5, 0, none⟩) m m) ∧ w3.heap.size ≤ g5 ∧ Below w3.heap.size w3 w5 ∧ w5.rowIs g5 5 m (bytes (fuse y x (nth y t)))) → Q .normal ⟨List.toArray ((.pointer (some ⟨gB, 0, none⟩)) :: (.slice A m c) :: (u2) :: (u3) :: (u4) :: (u5) :: (u6) :: (.int .i64 (t : Int)) :: (u8) :: (u9) :: (.int .i64 (r : Int)) :: (.slice (some ⟨b7, o7, none⟩) m cr) :: (u12) :: (u13) :: (u14) :: (u15) :: (u16) :: (u17) :: (u18) :: (u19) :: (u20) :: (u21) :: (u22) :: (u23) :: (u24) :: (u25) :: (u26) :: (u27) :: (u28) :: (u29) :: (u30) :: (u31) :: (u32) :: (u33) :: (u34) :: (u35) :: (u36) :: (u37) :: (u38) :: (u39) :: (u40) :: (u41) :: (u42) :: (u43) :: (u44) :: (u45) :: (u46) :: (u47) :: (u48) :: (u49) :: (u50) :: (u51) :: (u52) :: (u53) :: (u54) :: (u55) :: (u56) :: (u57) :: (u58) :: (u59) :: (u60) :: (u61) :: (u62) :: (u63) :: (u64) :: (u65) :: (u66) :: (u67) :: (u68) :: (u69) :: (u70) :: (u71) :: (x72) :: (x73) :: (x74) :: (x75) :: (x76) :: (x77) :: (x78) :: (x79) :: (x80) :: (x81) :: (x82) :: (x83) :: (x84) :: (x85) :: (x86) :: (x87) :: (u88) :: (u89) :: (u90) :: (u91) :: (u92) :: (u93) :: (u94) :: (u95) :: (u96) :: (u97) :: (u98) :: (u99) :: (u100) :: (u101) :: (u102) :: (u103) :: (u104) :: (u105) :: (u106) :: (u107) :: (u108) :: []), []⟩ w') :
    (piece Try.f132 [1, 1, 1, 1, 1, 1, 1, 0, 1, 0, 0, 1, 1, 0, 0, 1]).wp Try.prog Q ⟨List.toArray ((.pointer (some ⟨gB, 0, none⟩)) :: (.slice A m c) :: u2 :: u3 :: u4 :: u5 :: u6 :: (.int .i64 (t : Int)) :: u8 :: u9 :: (.int .i64 (r : Int)) :: (.slice (some ⟨b7, o7, none⟩) m cr) :: u12 :: u13 :: u14 :: u15 :: u16 :: u17 :: u18 :: u19 :: u20 :: u21 :: u22 :: u23 :: u24 :: u25 :: u26 :: u27 :: u28 :: u29 :: u30 :: u31 :: u32 :: u33 :: u34 :: u35 :: u36 :: u37 :: u38 :: u39 :: u40 :: u41 :: u42 :: u43 :: u44 :: u45 :: u46 :: u47 :: u48 :: u49 :: u50 :: u51 :: u52 :: u53 :: u54 :: u55 :: u56 :: u57 :: u58 :: u59 :: u60 :: u61 :: u62 :: u63 :: u64 :: u65 :: u66 :: u67 :: u68 :: u69 :: u70 :: u71 :: u72 :: u73 :: u74 :: u75 :: u76 :: u77 :: u78 :: u79 :: u80 :: u81 :: u82 :: u83 :: u84 :: u85 :: u86 :: u87 :: u88 :: u89 :: u90 :: u91 :: u92 :: u93 :: u94 :: u95 :: u96 :: u97 :: u98 :: u99 :: u100 :: u101 :: u102 :: u103 :: u104 :: u105 :: u106 :: u107 :: u108 :: []), []⟩ w3 := by
  conv => arg 2; whnf
  refine wp_region_noPanic ?_
  obtain ⟨b6, o6, e6, _, hlt6, hc6⟩ := hy.at_ (by omega)
  cases e6
  have t3 := hc6 t ht
  have hg4 : g4 < w3.heap.size := World.block_lt_of_cell? _ _ hf4
  have hgB : gB < w3.heap.size := World.block_lt_of_cell? _ _ hf0
  have d1 : (0 : Int) ≤ (t : Int) := Int.natCast_nonneg _
  have d2 : (t : Int) < (m : Int) := by omega
  have d3 : (0 : Int) ≤ (r : Int) := Int.natCast_nonneg _
  have d4 : (r : Int) < (k : Int) := by omega
  replace hc6 := Lib.hid hc6
  refine AnyE.region (fun w' => w'.cell? ⟨gB, 0, none⟩ = some (.slice (some ⟨g4, 0, none⟩) k c4) ∧ w'.cell? ⟨b7, o7 + t, none⟩ = some (.int .u8 ((nth y t).toNat : Int))) 16 (by kernel_rfl) ?_
  have hH := (And.intro hf0 t3)
  refine AnyE.take0 0 (v := ?_) rfl (by decide) (by kernel_rfl) (by kernel_rfl) (by kernel_rfl) (by kernel_rfl) (fun _ _ _ h => h) (by rfl) (fun _ => hH) ?_ ?_
  rotate_left; · (intro w; go_simp; try with_reducible rfl)
  (try simp only [Act.put, List.setIfInBounds_toArray, List.set_cons_zero, List.set_cons_succ])
  refine AnyE.take0 1 (v := ?_) rfl (by decide) (by kernel_rfl) (by kernel_rfl) (by kernel_rfl) (by kernel_rfl) (fun _ _ _ h => h) (by rfl) (fun _ => hH) ?_ ?_
  rotate_left; · (intro w; go_simp; try with_reducible rfl)
  (try simp only [Act.put, List.setIfInBounds_toArray, List.set_cons_zero, List.set_cons_succ])
  refine AnyE.take0 2 (v := ?_) rfl (by decide) (by kernel_rfl) (by kernel_rfl) (by kernel_rfl) (by kernel_rfl) (fun _ _ _ h => h) (by rfl) (fun _ => hH) ?_ ?_
  rotate_left; · (intro w; go_simp; try with_reducible rfl)
  (try simp only [Act.put, List.setIfInBounds_toArray, List.set_cons_zero, List.set_cons_succ])
  refine AnyE.take 3 [3] (v := ?_) rfl (by decide) (by kernel_rfl) (by kernel_rfl) (by kernel_rfl) (by kernel_rfl) (by kernel_rfl) (by kernel_rfl) (fun _ _ _ h => h) (by rfl) hH ?_ ?_
  rotate_left; · (intro w hSw; (try dsimp only at hSw); go_simp; try with_reducible rfl)
  (try simp only [Act.put, List.setIfInBounds_toArray, List.set_cons_zero, List.set_cons_succ])
  refine AnyE.take0 4 (v := ?_) rfl (by decide) (by kernel_rfl) (by kernel_rfl) (by kernel_rfl) (by kernel_rfl) (fun _ _ _ h => h) (by rfl) (fun _ => hH) ?_ ?_
  rotate_left; · (intro w; go_simp; try with_reducible rfl)
  (try simp only [Act.put, List.setIfInBounds_toArray, List.set_cons_zero, List.set_cons_succ])
  refine AnyE.take0 5 (v := ?_) rfl (by decide) (by kernel_rfl) (by kernel_rfl) (by kernel_rfl) (by kernel_rfl) (fun _ _ _ h => h) (by rfl) (fun _ => hH) ?_ ?_
  rotate_left; · (intro w; go_simp; try with_reducible rfl)
  (try simp only [Act.put, List.setIfInBounds_toArray, List.set_cons_zero, List.set_cons_succ])
  refine AnyE.take0 6 (v := ?_) rfl (by decide) (by kernel_rfl) (by kernel_rfl) (by kernel_rfl) (by kernel_rfl) (fun _ _ _ h => h) (by rfl) (fun _ => hH) ?_ ?_
  rotate_left; · (intro w; go_simp; try with_reducible rfl)
  (try simp only [Act.put, List.setIfInBounds_toArray, List.set_cons_zero, List.set_cons_succ])
  refine AnyE.take0 7 (v := ?_) rfl (by decide) (by kernel_rfl) (by kernel_rfl) (by kernel_rfl) (by kernel_rfl) (fun _ _ _ h => h) (by rfl) (fun _ => hH) ?_ ?_
  rotate_left; · (intro w; go_simp; try with_reducible rfl)
  (try simp only [Act.put, List.setIfInBounds_toArray, List.set_cons_zero, List.set_cons_succ])
  refine AnyE.take0 8 (v := ?_) rfl (by decide) (by kernel_rfl) (by kernel_rfl) (by kernel_rfl) (by kernel_rfl) (fun _ _ _ h => h) (by rfl) (fun _ => hH) ?_ ?_
  rotate_left; · (intro w; go_simp; try with_reducible rfl)
  (try simp only [Act.put, List.setIfInBounds_toArray, List.set_cons_zero, List.set_cons_succ])
  refine AnyE.take0 9 (v := ?_) rfl (by decide) (by kernel_rfl) (by kernel_rfl) (by kernel_rfl) (by kernel_rfl) (fun _ _ _ h => h) (by rfl) (fun _ => hH) ?_ ?_
  rotate_left; · (intro w; go_simp; try with_reducible rfl)
  (try simp only [Act.put, List.setIfInBounds_toArray, List.set_cons_zero, List.set_cons_succ])
  refine AnyE.take 10 [10] (v := ?_) rfl (by decide) (by kernel_rfl) (by kernel_rfl) (by kernel_rfl) (by kernel_rfl) (by kernel_rfl) (by kernel_rfl) (fun _ _ _ h => h) (by rfl) hH ?_ ?_
  rotate_left; · (intro w hSw; (try dsimp only at hSw); go_simp; try with_reducible rfl)
  (try simp only [Act.put, List.setIfInBounds_toArray, List.set_cons_zero, List.set_cons_succ])
  refine AnyE.one 11 rfl (by kernel_rfl) (fun K hK => ?_)
  (go_simp; go_at_call 91; refine (fused_any _ _ hy.drew hx.drew (by omega)).mono ?_; rintro e w5 ⟨g5, rfl, hg5, hrow5, hb5⟩; go_wp2_with fail; have m4 := (hb5.cell (p := ⟨g4, r, none⟩) hg4).trans hf4; have m5 := (hb5.frozen (p := ⟨g4, r, none⟩) hg4).trans hz4)
  refine hK.out _ _ (fun _ => (And.intro ((hb5.cell (p := ⟨gB, 0, none⟩) hgB).trans hf0) ((hb5.cell (p := ⟨b7, o7 + t, none⟩) hlt6).trans t3))) ?_
  clear hK K
  (try simp only [Act.put, List.setIfInBounds_toArray, List.set_cons_zero, List.set_cons_succ])
  replace hH := (And.intro ((hb5.cell (p := ⟨gB, 0, none⟩) hgB).trans hf0) ((hb5.cell (p := ⟨b7, o7 + t, none⟩) hlt6).trans t3))
  refine AnyE.take0 12 (v := ?_) rfl (by decide) (by kernel_rfl) (by kernel_rfl) (by kernel_rfl) (by kernel_rfl) (fun _ _ _ h => h) (by rfl) (fun _ => hH) ?_ ?_
  rotate_left; · (intro w; go_simp; try with_reducible rfl)
  (try simp only [Act.put, List.setIfInBounds_toArray, List.set_cons_zero, List.set_cons_succ])
  refine AnyE.take0 13 (v := ?_) rfl (by decide) (by kernel_rfl) (by kernel_rfl) (by kernel_rfl) (by kernel_rfl) (fun _ _ _ h => h) (by rfl) (fun _ => hH) ?_ ?_
  rotate_left; · (intro w; go_simp; try with_reducible rfl)
  (try simp only [Act.put, List.setIfInBounds_toArray, List.set_cons_zero, List.set_cons_succ])
  refine AnyE.take0 14 (v := ?_) rfl (by decide) (by kernel_rfl) (by kernel_rfl) (by kernel_rfl) (by kernel_rfl) (fun _ _ _ h => h) (by rfl) (fun _ => hH) ?_ ?_
  rotate_left; · (intro w; go_simp; try with_reducible rfl)
  (try simp only [Act.put, List.setIfInBounds_toArray, List.set_cons_zero, List.set_cons_succ])
  refine AnyE.take0 15 (v := ?_) rfl (by decide) (by kernel_rfl) (by kernel_rfl) (by kernel_rfl) (by kernel_rfl) (fun _ _ _ h => h) (by rfl) (fun _ => hH) ?_ ?_
  rotate_left; · (intro w; go_simp; try with_reducible rfl)
  (try simp only [Act.put, List.setIfInBounds_toArray, List.set_cons_zero, List.set_cons_succ])
  refine AnyE.one 16 rfl (by kernel_rfl) (fun K hK => ?_)
  go_simp
  refine hK.out _ _ (fun e => Bool.noConfusion (show true = false from e)) ?_
  clear hK K
  (try simp only [Act.put, List.setIfInBounds_toArray, List.set_cons_zero, List.set_cons_succ])
  refine AnyE.done (by kernel_rfl) ?_ _
  exact NoPanic.normal (hK _ _ _ _ _ _ _ _ _ _ _ _ _ _ _ _ _ ⟨w5, g5, rfl, hg5, ⟨hb5.os, hb5.tape, hb5.output, hb5.size, hb5.block⟩, hrow5⟩)
/-! ### The basis under construction: a struct in block gB, its rows and their leads slices of the call's own -/
structure BasG (E : Nat → Prop) (w : World) (N gB : Nat) (v3 v4 : Value) (k : Nat) (ls : List Nat) (R : Nat → Option Addr) (L C : Nat → Nat) (f : Nat → List F) : Prop where
  f0 : w.cell? ⟨gB, 0, none⟩ = some v4
  z0 : w.frozen? ⟨gB, 0, none⟩ = false
  f1 : w.cell? ⟨gB, 1, none⟩ = some v3
  z1 : w.frozen? ⟨gB, 1, none⟩ = false
  lo : N ≤ gB
  n3 : some gB ≠ v3.ownBlock
  n4 : some gB ≠ v4.ownBlock
  lead : w.ownsRow N 3 1 v3 k (ls.map fun (n : Nat) => Value.int .i64 (n : Int))
  rows : OwnA w N (fun b => E b ∧ some b ≠ v3.ownBlock) v4 k R L C f
  nE : ¬ E gB
section
variable {E : Nat → Prop} {w w' : World} {N gB : Nat} {v3 v4 : Value} {k : Nat} {ls : List Nat} {R : Nat → Option Addr} {L C : Nat → Nat} {f g : Nat → List F}
theorem BasG.lt (h : BasG E w N gB v3 v4 k ls R L C f) : gB < w.heap.size := World.block_lt_of_cell? _ _ h.f0
theorem BasG.below (h : BasG E w N gB v3 v4 k ls R L C f) (b : Below w.heap.size w w') : BasG E w' N gB v3 v4 k ls R L C f :=
  ⟨(b.cell (by exact h.lt)).trans h.f0, (b.frozen (by exact h.lt)).trans h.z0, (b.cell (by exact h.lt)).trans h.f1, (b.frozen (by exact h.lt)).trans h.z1, h.lo, h.n3, h.n4, own_below h.lead b, h.rows.below b, h.nE⟩
theorem BasG.drew (h : BasG E w N gB v3 v4 k ls R L C f) : BasG E w.drew N gB v3 v4 k ls R L C f := ⟨h.f0, h.z0, h.f1, h.z1, h.lo, h.n3, h.n4, h.lead.drew, h.rows.drew, h.nE⟩
theorem BasG.congr (h : BasG E w N gB v3 v4 k ls R L C f) (e : ∀ i, i < k → f i = g i) : BasG E w N gB v3 v4 k ls R L C g := ⟨h.f0, h.z0, h.f1, h.z1, h.lo, h.n3, h.n4, h.lead, h.rows.congr e, h.nE⟩
theorem BasG.store {A : Option Addr} {l c g4 cap : Nat} {fl : List F} (h : BasG E w N gB v3 (.slice (some ⟨g4, 0, none⟩) k cap) k ls R L C f) (hrow : Byt (fun b => (E b ∧ some b ≠ v3.ownBlock) ∧ some b ≠ some g4) w A l c fl) (j : Nat) :
    BasG E (w.setCell ⟨g4, j, none⟩ (.slice A l c)) N gB v3 (.slice (some ⟨g4, 0, none⟩) k cap) k ls (fun i => if i = j then A else R i) (fun i => if i = j then l else L i) (fun i => if i = j then c else C i) (fun i => if i = j then fl else f i) := by
  have hne : gB ≠ g4 := fun e => h.n4 (by rw [e]; rfl)
  exact ⟨cell_set_ne hne h.f0, by simp [h.z0], cell_set_ne hne h.f1, by simp [h.z1], h.lo, h.n3, h.n4, own_other_cell h.lead (own_types h.lead h.rows.own (by omega)) j _, h.rows.store hrow j, h.nE⟩
end
set_option maxRecDepth 100000 in
set_option maxHeartbeats 1000000 in
theorem add2 {Q : Exit → Act → World → Prop} {E : Nat → Prop} {w w3 : World} {N gB m k c c4 t : Nat} {v3 : Value} {A A4 : Option Addr} {ls : List Nat} {R : Nat → Option Addr} {L C : Nat → Nat} {B : List (List F)} {y : List F} (hm : m ≤ 4096) (hk : k ≤ 4096) (ht : t < m) (hB : Red m B) (hkB : B.length = k) (h0 : BasG E w N gB v3 (.slice A4 k c4) k ls R L C (mrow B)) (hb3 : Below w.heap.size w w3) (hN : N ≤ w.heap.size) (hE : ∀ b, w.heap.size ≤ b → E b) (hx : Byt (fun b => w.heap.size ≤ b) w3 A m c y)
    {u2 u3 u4 u5 u6 u8 u9 u10 u11 u12 u13 u14 u15 u16 u17 u18 u19 u20 u21 u22 u23 u24 u25 u26 u27 u28 u29 u30 u31 u32 u33 u34 u35 u36 u37 u38 u39 u40 u41 u42 u43 u44 u45 u46 u47 u48 u49 u50 u51 u52 u53 u54 u55 u56 u57 u58 u59 u60 u61 u62 u63 u64 u68 u69 u70 u71 u72 u73 u74 u75 u76 u77 u78 u79 u80 u81 u82 u83 u84 u85 u86 u87 u88 u89 u90 u91 u92 u93 u94 u95 u96 u97 u98 u99 u100 u101 u102 u103 u104 u105 u106 u107 u108 : Value}
    (hK : ∀ (x10 x11 x67 x68 x69 x70 x71 x72 x73 x74 x75 x76 x77 x78 x79 x80 x81 x82 x83 x84 x85 x86 x87 x88 : Value) (w' : World), (∃ (R' : Nat → Option Addr) (L' C' : Nat → Nat), BasG E w' N gB v3 (.slice A4 k c4) k ls R' L' C' (elimP B y t k) ∧ Byt (fun b => w.heap.size ≤ b) w' A m c y ∧ Below N w w' ∧ Keeps (fun b => b ≠ gB ∧ some b ≠ v3.ownBlock ∧ some b ≠ (Value.slice A4 k c4).ownBlock) w w') → Q (.exit 2) ⟨List.toArray ((.pointer (some ⟨gB, 0, none⟩)) :: (.slice A m c) :: (u2) :: (u3) :: (u4) :: (u5) :: (u6) :: (.int .i64 (t : Int)) :: (u8) :: (u9) :: (x10) :: (x11) :: (u12) :: (u13) :: (u14) :: (u15) :: (u16) :: (u17) :: (u18) :: (u19) :: (u20) :: (u21) :: (u22) :: (u23) :: (u24) :: (u25) :: (u26) :: (u27) :: (u28) :: (u29) :: (u30) :: (u31) :: (u32) :: (u33) :: (u34) :: (u35) :: (u36) :: (u37) :: (u38) :: (u39) :: (u40) :: (u41) :: (u42) :: (u43) :: (u44) :: (u45) :: (u46) :: (u47) :: (u48) :: (u49) :: (u50) :: (u51) :: (u52) :: (u53) :: (u54) :: (u55) :: (u56) :: (u57) :: (u58) :: (u59) :: (u60) :: (u61) :: (u62) :: (u63) :: (u64) :: (.slice A4 k c4) :: (.int .i64 (k : Int)) :: (x67) :: (x68) :: (x69) :: (x70) :: (x71) :: (x72) :: (x73) :: (x74) :: (x75) :: (x76) :: (x77) :: (x78) :: (x79) :: (x80) :: (x81) :: (x82) :: (x83) :: (x84) :: (x85) :: (x86) :: (x87) :: (x88) :: (u89) :: (u90) :: (u91) :: (u92) :: (u93) :: (u94) :: (u95) :: (u96) :: (u97) :: (u98) :: (u99) :: (u100) :: (u101) :: (u102) :: (u103) :: (u104) :: (u105) :: (u106) :: (u107) :: (u108) :: []), []⟩ w') :
    (piece Try.f132 [1, 1, 1, 1, 1, 1, 1, 0, 1, 0]).wp Try.prog Q ⟨List.toArray ((.pointer (some ⟨gB, 0, none⟩)) :: (.slice A m c) :: u2 :: u3 :: u4 :: u5 :: u6 :: (.int .i64 (t : Int)) :: u8 :: u9 :: u10 :: u11 :: u12 :: u13 :: u14 :: u15 :: u16 :: u17 :: u18 :: u19 :: u20 :: u21 :: u22 :: u23 :: u24 :: u25 :: u26 :: u27 :: u28 :: u29 :: u30 :: u31 :: u32 :: u33 :: u34 :: u35 :: u36 :: u37 :: u38 :: u39 :: u40 :: u41 :: u42 :: u43 :: u44 :: u45 :: u46 :: u47 :: u48 :: u49 :: u50 :: u51 :: u52 :: u53 :: u54 :: u55 :: u56 :: u57 :: u58 :: u59 :: u60 :: u61 :: u62 :: u63 :: u64 :: (.slice A4 k c4) :: (.int .i64 (k : Int)) :: (.int .i64 0) :: u68 :: u69 :: u70 :: u71 :: u72 :: u73 :: u74 :: u75 :: u76 :: u77 :: u78 :: u79 :: u80 :: u81 :: u82 :: u83 :: u84 :: u85 :: u86 :: u87 :: u88 :: u89 :: u90 :: u91 :: u92 :: u93 :: u94 :: u95 :: u96 :: u97 :: u98 :: u99 :: u100 :: u101 :: u102 :: u103 :: u104 :: u105 :: u106 :: u107 :: u108 :: []), []⟩ w3 := by
  conv => arg 2; whnf
  obtain ⟨wo, rfl⟩ : ∃ wo : World, wo = w3 := ⟨_, rfl⟩
  have hgB := h0.lt
  go_loopw [67] (fun x0 wr => ∃ (r : Nat) (R' : Nat → Option Addr) (L' C' : Nat → Nat), r ≤ k ∧ x0 = .int .i64 r ∧ BasG E wr N gB v3 (.slice A4 k c4) k ls R' L' C' (elimP B y t r) ∧ Byt (fun b => w.heap.size ≤ b) wr A m c y ∧ Below N w wr ∧ Keeps (fun b => b ≠ gB ∧ some b ≠ v3.ownBlock ∧ some b ≠ (Value.slice A4 k c4).ownBlock) w wr) (fun x0 _ => k - (intOf x0).toNat)
  case atStart => exact ⟨0, R, L, C, by omega, rfl, (h0.below hb3).congr fun i _ => by unfold elimP; rw [if_neg (Nat.not_lt_zero _)], hx, hb3.mono hN, Keeps.below hb3⟩
  case round =>
    clear hx hb3
    obtain ⟨r, R', L', C', hr, rfl, hB', hx, hbN, hkp⟩ := hrel
    by_cases hlt : r < k
    · obtain ⟨g4, rfl, hg4, hg4l⟩ := own_head h0.rows.own (by omega)
      have q1 := hB'.rows.row r hlt
      have hLm : L' r = m := by rw [← q1.len]; exact elimP_len hB hx.len (by omega)
      rw [hLm] at q1
      have f4 : wr.cell? ⟨g4, r, none⟩ = some (.slice (R' r) (L' r) (C' r)) := own_cell hB'.rows.own hlt
      rw [hLm] at f4
      have f4' := hB'.rows.own.frozenAt r
      obtain ⟨b7, o7, e7, _⟩ := q1.at_ (by omega)
      rw [e7] at f4 q1
      replace e7 := Lib.hid e7
      replace hLm := Lib.hid hLm
      have d1 : (0 : Int) ≤ (r : Int) := Int.natCast_nonneg _
      have d2 : (r : Int) < (k : Int) := by omega
      have hwr := hkp.size
      go_upto_region 15 with fail
      refine add15 hm ht hlt hB'.f0 f4 f4' q1 hx (fun y72 y73 y74 y75 y76 y77 y78 y79 y80 y81 y82 y83 y84 y85 y86 y87 w5 h5 => ?_)
      obtain ⟨w4, g5, rfl, hg5, hb5, hrow5⟩ := h5
      have hBb := hB'.below hb5
      have hy5 : Byt (fun b => (E b ∧ some b ≠ v3.ownBlock) ∧ some b ≠ some g4) w4 (some ⟨g5, 0, none⟩) m m (fuse (elimP B y t r r) y (nth (elimP B y t r r) t)) := Byt.of_rowIs hrow5 (fuse_length _ q1.len hx.len) ⟨⟨hE _ (Nat.le_trans hwr hg5), own_new_ne hB'.lead hg5⟩, by simp; omega⟩ (max_of (by omega))
      go_wp2
      go_roundw
      case rel => exact ⟨r + 1, _, _, _, by omega, by go_num, (hBb.store hy5 r).congr fun j _ => elimP_step .., (hx.below hb5).keep (Keeps.setCell (by simp only; omega) _), (below_then hbN (Nat.le_trans hN hwr) hb5).setCell (p := ⟨g4, r, none⟩) hg4 _, (hkp.trans (Keeps.below hb5)).trans (Keeps.setCell (fun h => h.2.2 rfl) _)⟩
      case measure => simp [intOf]; omega
    · obtain rfl : r = k := by omega
      go_wp2
      exact ⟨R', L', C', hB', hx, hbN, hkp⟩
/-- One of two may come up. -/
theorem AnyE.two {P : Program} {ops : Array Oper} {Q : Exit → Act → World → Prop} {md : Region.Mode} {S : World → Prop} {z : Nat} (i j : Nat) {o o' : Oper} {n : Nat} {l : Array Bool} {a : Act} {w : World} (ho : ops[i]? = some o) (ho' : ops[j]? = some o') (hr : Region.ready md ops l = [i, j])
    (h : ∀ K : Act → World → Prop, Shut (∀ a' w', ((l.setIfInBounds i true).getD z false = false → S w') → AnyE P md ops Q S z n (l.setIfInBounds i true) a' w' → K a' w') → if Region.wanted o (yielded ops a.tmps) = true then Oper.wp P o a w K Q else K (a.put o.dst undef) w)
    (h' : ∀ K : Act → World → Prop, Shut (∀ a' w', ((l.setIfInBounds j true).getD z false = false → S w') → AnyE P md ops Q S z n (l.setIfInBounds j true) a' w' → K a' w') → if Region.wanted o' (yielded ops a.tmps) = true then Oper.wp P o' a w K Q else K (a.put o'.dst undef) w) :
    AnyE P md ops Q S z (n + 1) l a w :=
  ⟨fun e => (by rw [hr] at e; cases e), fun x hx => by
    rw [hr] at hx
    rcases List.mem_cons.1 hx with rfl | hx
    · exact wpOp_step ho fun K' hK => h K' fun a' w' hs ha => hK a' w' ⟨hs, ha⟩
    · obtain rfl := List.mem_singleton.1 hx
      exact wpOp_step ho' fun K' hK => h' K' fun a' w' hs ha => hK a' w' ⟨hs, ha⟩⟩
/-- Between the appends and the stores: w0 the world ahead, v3c, v4c the slices as they are now, the fields still the old ones. -/
structure BasM (E : Nat → Prop) (w0 w : World) (N gB : Nat) (v3 v4 v3c v4c : Value) (k3 k4 : Nat) (ls : List Nat) (R : Nat → Option Addr) (L C : Nat → Nat) (f : Nat → List F) (A : Option Addr) (m c : Nat) (y : List F) : Prop where
  f0 : w.cell? ⟨gB, 0, none⟩ = some v4
  z0 : w.frozen? ⟨gB, 0, none⟩ = false
  f1 : w.cell? ⟨gB, 1, none⟩ = some v3
  z1 : w.frozen? ⟨gB, 1, none⟩ = false
  lo : N ≤ gB
  n3 : some gB ≠ v3c.ownBlock
  n4 : some gB ≠ v4c.ownBlock
  lead : w.ownsRow N 3 1 v3c k3 (ls.map fun (n : Nat) => Value.int .i64 (n : Int))
  rows : OwnA w N (fun b => E b ∧ some b ≠ v3c.ownBlock) v4c k4 R L C f
  y : Byt (fun b => (E b ∧ some b ≠ v3c.ownBlock) ∧ some b ≠ v4c.ownBlock) w A m c y
  below : Below N w0 w
  keeps : Keeps (fun b => b ≠ gB ∧ some b ≠ v3.ownBlock ∧ some b ≠ v4.ownBlock) w0 w
  size : w0.heap.size ≤ w.heap.size
  o3 : ∀ b, b < w0.heap.size → some b ≠ v3.ownBlock → some b ≠ v3c.ownBlock
  o4 : ∀ b, b < w0.heap.size → some b ≠ v4.ownBlock → some b ≠ v4c.ownBlock
  hN : N ≤ w0.heap.size
  nE : ¬ E gB
section
variable {E : Nat → Prop} {w0 w w' : World} {N gB : Nat} {v3 v4 v3c v4c : Value} {k k3 k4 : Nat} {ls : List Nat} {R : Nat → Option Addr} {L C : Nat → Nat} {f g : Nat → List F} {A : Option Addr} {m c : Nat} {y : List F}
theorem BasG.mid (h : BasG E w N gB v3 v4 k ls R L C f) (hy : Byt (fun b => (E b ∧ some b ≠ v3.ownBlock) ∧ some b ≠ v4.ownBlock) w A m c y) (hN : N ≤ w.heap.size) : BasM E w w.drew N gB v3 v4 v3 v4 k k ls R L C f A m c y :=
  ⟨h.f0, h.z0, h.f1, h.z1, h.lo, h.n3, h.n4, h.lead.drew, h.rows.drew, hy.drew, (Below.refl _ _).drew, (Keeps.refl _ _).drew, Nat.le_refl _, fun _ _ h => h, fun _ _ h => h, hN, h.nE⟩
theorem BasM.lt (h : BasM E w0 w N gB v3 v4 v3c v4c k3 k4 ls R L C f A m c y) : gB < w.heap.size := World.block_lt_of_cell? _ _ h.f0
theorem BasM.alloc (h : BasM E w0 w N gB v3 v4 v3c v4c k3 k4 ls R L C f A m c y) (b : Below w.heap.size w w') : BasM E w0 w' N gB v3 v4 v3c v4c k3 k4 ls R L C f A m c y :=
  ⟨(b.cell (by exact h.lt)).trans h.f0, (b.frozen (by exact h.lt)).trans h.z0, (b.cell (by exact h.lt)).trans h.f1, (b.frozen (by exact h.lt)).trans h.z1, h.lo, h.n3, h.n4, own_below h.lead b, h.rows.below b, h.y.below b,
    below_then h.below (Nat.le_trans h.hN h.size) b, h.keeps.trans (Keeps.below b), Nat.le_trans h.size b.size, h.o3, h.o4, h.hN, h.nE⟩
theorem BasM.app4 {v' : Value} (h : BasM E w0 w N gB v3 v4 v3c v4 k3 k4 ls R L C f A m c y) (own' : w'.ownsRow N 28 1 v' (k4 + 1) (((List.range k4).map fun i => .slice (R i) (L i) (C i)) ++ [.slice A m c])) (hgr : w.grownBy w' v4.ownBlock) (hne : v'.ownBlock = v4.ownBlock ∨ v'.ownBlock = some w.heap.size) :
    BasM E w0 w' N gB v3 v4 v3c v' k3 (k4 + 1) ls (fun i => if i = k4 then A else R i) (fun i => if i = k4 then m else L i) (fun i => if i = k4 then c else C i) (fun i => if i = k4 then y else f i) A m c y := by
  have hx : ∀ b, b < w.heap.size → some b ≠ v4.ownBlock → some b ≠ v'.ownBlock := fun b hb hn => by
    rcases hne with e | e <;> rw [e]
    · exact hn
    · simp; omega
  have kp : Keeps (fun b => some b ≠ v4.ownBlock) w w' := Keeps.grown hgr (fun g e h => h e.symm)
  refine ⟨hgr.cell h.f0 h.n4, (World.frozen?_of_block (w := w) (hgr.block gB h.lt h.n4)).trans h.z0, hgr.cell h.f1 h.n4, (World.frozen?_of_block (w := w) (hgr.block gB h.lt h.n4)).trans h.z1, h.lo, h.n3, hx gB h.lt h.n4, h.lead.kept hgr (own_types h.lead h.rows.own (by omega)), h.rows.push h.y own' hgr hx, ?_, ?_, ?_, ?_, h.o3, ?_, h.hN, h.nE⟩
  · exact ((h.y.mono (q := fun b => b < w.heap.size ∧ (E b ∧ some b ≠ v3c.ownBlock) ∧ some b ≠ v4.ownBlock) fun b hb hp => ⟨hb, hp⟩).keep (kp.mono fun b hb => hb.2.2)).mono fun b _ hp => ⟨hp.2.1, hx b hp.1 hp.2.2⟩
  · exact h.below.grown hgr (Nat.le_trans h.hN h.size) (own_ge h.rows.own)
  · exact h.keeps.trans (Keeps.grown hgr (fun g e h => h.2.2 e.symm))
  · exact Nat.le_trans h.size hgr.size
  · exact fun b hb hn => hx b (Nat.lt_of_lt_of_le hb h.size) hn
theorem BasM.app3 {v' : Value} {t : Nat} (h : BasM E w0 w N gB v3 v4 v3 v4c k3 k4 ls R L C f A m c y) (own' : w'.ownsRow N 3 1 v' (k3 + 1) ((ls.map fun (n : Nat) => Value.int .i64 (n : Int)) ++ [.int .i64 (t : Int)])) (hgr : w.grownBy w' v3.ownBlock) (hne : v'.ownBlock = v3.ownBlock ∨ v'.ownBlock = some w.heap.size) :
    BasM E w0 w' N gB v3 v4 v' v4c (k3 + 1) k4 (ls ++ [t]) R L C f A m c y := by
  have hx : ∀ b, b < w.heap.size → some b ≠ v3.ownBlock → some b ≠ v'.ownBlock := fun b hb hn => by
    rcases hne with e | e <;> rw [e]
    · exact hn
    · simp; omega
  have kp : Keeps (fun b => some b ≠ v3.ownBlock) w w' := Keeps.grown hgr (fun g e h => h e.symm)
  have hrow := ((h.rows.mono (q' := fun b => (E b ∧ some b ≠ v3.ownBlock) ∧ some b ≠ v'.ownBlock) fun b hb hp => ⟨hp, hx b hb hp.2⟩).other hgr (fun b hp => hp.1.2) (own_types h.rows.own h.lead (by omega))).mono (q' := fun b => E b ∧ some b ≠ v'.ownBlock) fun b _ hp => ⟨hp.1.1, hp.2⟩
  refine ⟨hgr.cell h.f0 h.n3, (World.frozen?_of_block (w := w) (hgr.block gB h.lt h.n3)).trans h.z0, hgr.cell h.f1 h.n3, (World.frozen?_of_block (w := w) (hgr.block gB h.lt h.n3)).trans h.z1, h.lo, hx gB h.lt h.n3, h.n4, by rw [List.map_append]; exact own', hrow, ?_, ?_, ?_, ?_, ?_, h.o4, h.hN, h.nE⟩
  · exact ((h.y.mono (q := fun b => b < w.heap.size ∧ (E b ∧ some b ≠ v3.ownBlock) ∧ some b ≠ v4c.ownBlock) fun b hb hp => ⟨hb, hp⟩).keep (kp.mono fun b hb => hb.2.1.2)).mono fun b _ hp => ⟨⟨hp.2.1.1, hx b hp.1 hp.2.1.2⟩, hp.2.2⟩
  · exact h.below.grown hgr (Nat.le_trans h.hN h.size) (own_ge h.lead)
  · exact h.keeps.trans (Keeps.grown hgr (fun g e h => h.2.1 e.symm))
  · exact Nat.le_trans h.size hgr.size
  · exact fun b hb hn => hx b (Nat.lt_of_lt_of_le hb h.size) hn
/-- The two stores. -/
theorem BasM.done (h : BasM E w0 w N gB v3 v4 v3c v4c k k ls R L C f A m c y) :
    BasG E ((w.setCell ⟨gB, 0, none⟩ v4c).setCell ⟨gB, 1, none⟩ v3c) N gB v3c v4c k ls R L C f ∧ Below N w0 ((w.setCell ⟨gB, 0, none⟩ v4c).setCell ⟨gB, 1, none⟩ v3c) ∧
      Keeps (fun b => b ≠ gB ∧ some b ≠ v3.ownBlock ∧ some b ≠ v4.ownBlock) w0 ((w.setCell ⟨gB, 0, none⟩ v4c).setCell ⟨gB, 1, none⟩ v3c) := by
  have kp : Keeps (fun b => b ≠ gB) w ((w.setCell ⟨gB, 0, none⟩ v4c).setCell ⟨gB, 1, none⟩ v3c) := (Keeps.setCell (by simp) _).trans (Keeps.setCell (by simp) _)
  refine ⟨⟨?_, by simp [h.z0], ?_, by simp [h.z1], h.lo, h.n3, h.n4, ?_, ⟨?_, fun i hi => ((h.rows.row i hi).keep (kp.mono fun b hb e => h.nE (e ▸ hb.1.1)))⟩, h.nE⟩, (h.below.setCell (p := ⟨gB, 0, none⟩) h.lo _).setCell (p := ⟨gB, 1, none⟩) h.lo _, h.keeps.trans (kp.mono fun b hb => hb.1)⟩
  · exact (World.cell?_setCell_other _ _ _ _ (by simp)).trans (World.cell?_setCell_same _ _ _ h.f0)
  · exact World.cell?_setCell_same _ _ _ ((World.cell?_setCell_other _ _ _ _ (by simp)).trans h.f1)
  · exact own_other_cell (own_other_cell h.lead (.inr h.n3.symm) 0 _) (.inr h.n3.symm) 1 _
  · exact own_other_cell (own_other_cell h.rows.own (.inr h.n4.symm) 0 _) (.inr h.n4.symm) 1 _
end
set_option maxRecDepth 100000 in
set_option maxHeartbeats 2000000 in
theorem add17 {Q : Exit → Act → World → Prop} {E : Nat → Prop} {w3 : World} {N gB m k c t : Nat} {v3 v4 : Value} {A : Option Addr} {ls : List Nat} {R : Nat → Option Addr} {L C : Nat → Nat} {f : Nat → List F} {y : List F} (hk : k ≤ 4096) (h0 : BasG E w3 N gB v3 v4 k ls R L C f) (hy : Byt (fun b => (E b ∧ some b ≠ v3.ownBlock) ∧ some b ≠ v4.ownBlock) w3 A m c y) (hN : N ≤ w3.heap.size)
    {u2 u3 u4 u5 u6 u8 u9 u10 u11 u12 u13 u14 u15 u16 u17 u18 u19 u20 u21 u22 u23 u24 u25 u26 u27 u28 u29 u30 u31 u32 u33 u34 u35 u36 u37 u38 u39 u40 u41 u42 u43 u44 u45 u46 u47 u48 u49 u50 u51 u52 u53 u54 u55 u56 u57 u58 u59 u60 u61 u62 u63 u64 u65 u66 u67 u68 u69 u70 u71 u72 u73 u74 u75 u76 u77 u78 u79 u80 u81 u82 u83 u84 u85 u86 u87 u88 u89 u90 u91 u92 u93 u94 u95 u96 u97 u98 u99 u100 u101 u102 u103 u104 u105 u106 u107 u108 : Value}
    (hK : ∀ (x89 x90 x91 x92 x93 x94 x95 x96 x97 x98 x99 x100 x101 x102 x103 x104 x105 x106 x107 x108 : Value) (w' : World), (∃ (v3' v4' : Value) (R' : Nat → Option Addr) (L' C' : Nat → Nat), BasG E w' N gB v3' v4' (k + 1) (ls ++ [t]) R' L' C' (fun i => if i = k then y else f i) ∧ Below N w3 w' ∧ Keeps (fun b => b ≠ gB ∧ some b ≠ v3.ownBlock ∧ some b ≠ v4.ownBlock) w3 w' ∧ (∀ b, b < w3.heap.size → some b ≠ v3.ownBlock → some b ≠ v3'.ownBlock) ∧ (∀ b, b < w3.heap.size → some b ≠ v4.ownBlock → some b ≠ v4'.ownBlock)) → Q .normal ⟨List.toArray ((.pointer (some ⟨gB, 0, none⟩)) :: (.slice A m c) :: (u2) :: (u3) :: (u4) :: (u5) :: (u6) :: (.int .i64 (t : Int)) :: (u8) :: (u9) :: (u10) :: (u11) :: (u12) :: (u13) :: (u14) :: (u15) :: (u16) :: (u17) :: (u18) :: (u19) :: (u20) :: (u21) :: (u22) :: (u23) :: (u24) :: (u25) :: (u26) :: (u27) :: (u28) :: (u29) :: (u30) :: (u31) :: (u32) :: (u33) :: (u34) :: (u35) :: (u36) :: (u37) :: (u38) :: (u39) :: (u40) :: (u41) :: (u42) :: (u43) :: (u44) :: (u45) :: (u46) :: (u47) :: (u48) :: (u49) :: (u50) :: (u51) :: (u52) :: (u53) :: (u54) :: (u55) :: (u56) :: (u57) :: (u58) :: (u59) :: (u60) :: (u61) :: (u62) :: (u63) :: (u64) :: (u65) :: (u66) :: (u67) :: (u68) :: (u69) :: (u70) :: (u71) :: (u72) :: (u73) :: (u74) :: (u75) :: (u76) :: (u77) :: (u78) :: (u79) :: (u80) :: (u81) :: (u82) :: (u83) :: (u84) :: (u85) :: (u86) :: (u87) :: (u88) :: (x89) :: (x90) :: (x91) :: (x92) :: (x93) :: (x94) :: (x95) :: (x96) :: (x97) :: (x98) :: (x99) :: (x100) :: (x101) :: (x102) :: (x103) :: (x104) :: (x105) :: (x106) :: (x107) :: (x108) :: []), []⟩ w') :
    (piece Try.f132 [1, 1, 1, 1, 1, 1, 1, 1, 0]).wp Try.prog Q ⟨List.toArray ((.pointer (some ⟨gB, 0, none⟩)) :: (.slice A m c) :: u2 :: u3 :: u4 :: u5 :: u6 :: (.int .i64 (t : Int)) :: u8 :: u9 :: u10 :: u11 :: u12 :: u13 :: u14 :: u15 :: u16 :: u17 :: u18 :: u19 :: u20 :: u21 :: u22 :: u23 :: u24 :: u25 :: u26 :: u27 :: u28 :: u29 :: u30 :: u31 :: u32 :: u33 :: u34 :: u35 :: u36 :: u37 :: u38 :: u39 :: u40 :: u41 :: u42 :: u43 :: u44 :: u45 :: u46 :: u47 :: u48 :: u49 :: u50 :: u51 :: u52 :: u53 :: u54 :: u55 :: u56 :: u57 :: u58 :: u59 :: u60 :: u61 :: u62 :: u63 :: u64 :: u65 :: u66 :: u67 :: u68 :: u69 :: u70 :: u71 :: u72 :: u73 :: u74 :: u75 :: u76 :: u77 :: u78 :: u79 :: u80 :: u81 :: u82 :: u83 :: u84 :: u85 :: u86 :: u87 :: u88 :: u89 :: u90 :: u91 :: u92 :: u93 :: u94 :: u95 :: u96 :: u97 :: u98 :: u99 :: u100 :: u101 :: u102 :: u103 :: u104 :: u105 :: u106 :: u107 :: u108 :: []), []⟩ w3 := by
  conv => arg 2; whnf
  refine wp_region_noPanic ?_
  obtain ⟨A4, c4, rfl, _⟩ := own_slice h0.rows.own
  obtain ⟨A3, c3, rfl, _⟩ := own_slice h0.lead
  have hM := h0.mid hy hN
  refine AnyE.region (fun w' => w'.cell? ⟨gB, 0, none⟩ = some (.slice A4 k c4) ∧ w'.cell? ⟨gB, 1, none⟩ = some (.slice A3 k c3)) 18 (by kernel_rfl) ?_
  have hH := And.intro hM.f0 hM.f1
  generalize w3.drew = W at hM hH ⊢
  clear h0 hy hN
  refine AnyE.take0 0 (v := ?_) rfl (by decide) (by kernel_rfl) (by kernel_rfl) (by kernel_rfl) (by kernel_rfl) (fun _ _ _ h => h) (by rfl) (fun _ => hH) ?_ ?_
  rotate_left; · (intro w; go_simp; try with_reducible rfl)
  (try simp only [Act.put, List.setIfInBounds_toArray, List.set_cons_zero, List.set_cons_succ])
  refine AnyE.take0 1 (v := ?_) rfl (by decide) (by kernel_rfl) (by kernel_rfl) (by kernel_rfl) (by kernel_rfl) (fun _ _ _ h => h) (by rfl) (fun _ => hH) ?_ ?_
  rotate_left; · (intro w; go_simp; try with_reducible rfl)
  (try simp only [Act.put, List.setIfInBounds_toArray, List.set_cons_zero, List.set_cons_succ])
  refine AnyE.take0 2 (v := ?_) rfl (by decide) (by kernel_rfl) (by kernel_rfl) (by kernel_rfl) (by kernel_rfl) (fun _ _ _ h => h) (by rfl) (fun _ => hH) ?_ ?_
  rotate_left; · (intro w; go_simp; try with_reducible rfl)
  (try simp only [Act.put, List.setIfInBounds_toArray, List.set_cons_zero, List.set_cons_succ])
  refine AnyE.take0 3 (v := ?_) rfl (by decide) (by kernel_rfl) (by kernel_rfl) (by kernel_rfl) (by kernel_rfl) (fun _ _ _ h => h) (by rfl) (fun _ => hH) ?_ ?_
  rotate_left; · (intro w; go_simp; try with_reducible rfl)
  (try simp only [Act.put, List.setIfInBounds_toArray, List.set_cons_zero, List.set_cons_succ])
  refine AnyE.take0 4 (v := ?_) rfl (by decide) (by kernel_rfl) (by kernel_rfl) (by kernel_rfl) (by kernel_rfl) (fun _ _ _ h => h) (by rfl) (fun _ => hH) ?_ ?_
  rotate_left; · (intro w; go_simp; try with_reducible rfl)
  (try simp only [Act.put, List.setIfInBounds_toArray, List.set_cons_zero, List.set_cons_succ])
  refine AnyE.take 5 [5] (v := ?_) rfl (by decide) (by kernel_rfl) (by kernel_rfl) (by kernel_rfl) (by kernel_rfl) (by kernel_rfl) (by kernel_rfl) (fun _ _ _ h => h) (by rfl) hH ?_ ?_
  rotate_left; · (intro w hSw; (try dsimp only at hSw); go_simp; try with_reducible rfl)
  (try simp only [Act.put, List.setIfInBounds_toArray, List.set_cons_zero, List.set_cons_succ])
  refine AnyE.take0 6 (v := ?_) rfl (by decide) (by kernel_rfl) (by kernel_rfl) (by kernel_rfl) (by kernel_rfl) (fun _ _ _ h => h) (by rfl) (fun _ => hH) ?_ ?_
  rotate_left; · (intro w; go_simp; try with_reducible rfl)
  (try simp only [Act.put, List.setIfInBounds_toArray, List.set_cons_zero, List.set_cons_succ])
  refine AnyE.take0 9 (v := ?_) rfl (by decide) (by kernel_rfl) (by kernel_rfl) (by kernel_rfl) (by kernel_rfl) (fun _ _ _ h => h) (by rfl) (fun _ => hH) ?_ ?_
  rotate_left; · (intro w; go_simp; try with_reducible rfl)
  (try simp only [Act.put, List.setIfInBounds_toArray, List.set_cons_zero, List.set_cons_succ])
  refine AnyE.take0 10 (v := ?_) rfl (by decide) (by kernel_rfl) (by kernel_rfl) (by kernel_rfl) (by kernel_rfl) (fun _ _ _ h => h) (by rfl) (fun _ => hH) ?_ ?_
  rotate_left; · (intro w; go_simp; try with_reducible rfl)
  (try simp only [Act.put, List.setIfInBounds_toArray, List.set_cons_zero, List.set_cons_succ])
  refine AnyE.take0 11 (v := ?_) rfl (by decide) (by kernel_rfl) (by kernel_rfl) (by kernel_rfl) (by kernel_rfl) (fun _ _ _ h => h) (by rfl) (fun _ => hH) ?_ ?_
  rotate_left; · (intro w; go_simp; try with_reducible rfl)
  (try simp only [Act.put, List.setIfInBounds_toArray, List.set_cons_zero, List.set_cons_succ])
  refine AnyE.take 12 [12] (v := ?_) rfl (by decide) (by kernel_rfl) (by kernel_rfl) (by kernel_rfl) (by kernel_rfl) (by kernel_rfl) (by kernel_rfl) (fun _ _ _ h => h) (by rfl) hH ?_ ?_
  rotate_left; · (intro w hSw; (try dsimp only at hSw); go_simp; try with_reducible rfl)
  (try simp only [Act.put, List.setIfInBounds_toArray, List.set_cons_zero, List.set_cons_succ])
  refine AnyE.take0 13 (v := ?_) rfl (by decide) (by kernel_rfl) (by kernel_rfl) (by kernel_rfl) (by kernel_rfl) (fun _ _ _ h => h) (by rfl) (fun _ => hH) ?_ ?_
  rotate_left; · (intro w; go_simp; try with_reducible rfl)
  (try simp only [Act.put, List.setIfInBounds_toArray, List.set_cons_zero, List.set_cons_succ])
  refine AnyE.two 7 14 rfl rfl (by kernel_rfl) (fun K hK => ?_) (fun K hK => ?_)
  · have b7 := (Below.refl W.heap.size W).alloc (Nat.le_refl _) (.cells #[.slice A m c] 28)
    have o7 : Row (fun b => some b ≠ (Value.slice A4 k c4).ownBlock) _ _ 1 1 (fun _ => (.slice A m c : Value)) := (row_one (w := W) (.slice A m c) 28).mono (fun b _ h => by rw [h]; exact own_new_ne hM.rows.own (Nat.le_refl _))
    replace hM := hM.alloc b7
    go_simp
    refine hK.out _ _ (fun _ => And.intro hM.f0 hM.f1) ?_
    clear hK K
    (try simp only [Act.put, List.setIfInBounds_toArray, List.set_cons_zero, List.set_cons_succ])
    replace hH := And.intro hM.f0 hM.f1
    generalize hW7 : W.alloc (.cells #[.slice A m c] 28) = W7 at *
    refine AnyE.two 8 14 rfl rfl (by kernel_rfl) (fun K hK => ?_) (fun K hK => ?_)
    · (refine step_append_row (by rfl) (by rfl) Try.underlying22 info28 rfl (by rfl) hM.rows.own (by rfl) o7 (fun _ _ => rfl) (by unfold maxLen; omega) (by omega) (Nat.le_trans hM.hN hM.size) ?_; intro v8 W8 own8 hgr8 hne8)
      obtain ⟨A8, c8, rfl, _⟩ := own_slice own8
      replace hM := hM.app4 own8 hgr8 hne8
      refine hK.out _ _ (fun _ => And.intro hM.f0 hM.f1) ?_
      clear hK K
      (try simp only [Act.put, List.setIfInBounds_toArray, List.set_cons_zero, List.set_cons_succ])
      replace hH := And.intro hM.f0 hM.f1
      refine AnyE.one 14 rfl (by kernel_rfl) (fun K hK => ?_)
      have b14 := (Below.refl W8.heap.size W8).alloc (Nat.le_refl _) (.cells #[.int .i64 (t : Int)] 3)
      have o14 : Row (fun b => some b ≠ (Value.slice A8 (k + 1) c8).ownBlock) _ _ 1 1 (fun _ => (.int .i64 (t : Int) : Value)) := (row_one (w := W8) (.int .i64 (t : Int)) 3).mono (fun b _ h => by rw [h]; exact own_new_ne hM.rows.own (Nat.le_refl _))
      replace hM := hM.alloc b14
      go_simp
      refine hK.out _ _ (fun _ => And.intro hM.f0 hM.f1) ?_
      clear hK K
      (try simp only [Act.put, List.setIfInBounds_toArray, List.set_cons_zero, List.set_cons_succ])
      replace hH := And.intro hM.f0 hM.f1
      generalize hW14 : W8.alloc (.cells #[.int .i64 (t : Int)] 3) = W14 at *
      refine AnyE.one 15 rfl (by kernel_rfl) (fun K hK => ?_)
      (refine step_append_row (by rfl) (by rfl) Try.underlying29 info3 rfl (by rfl) hM.lead (by rfl) o14 (fun _ _ => rfl) (by unfold maxLen; omega) (by omega) (Nat.le_trans hM.hN hM.size) ?_; intro v15 W15 own15 hgr15 hne15)
      obtain ⟨A15, c15, rfl, _⟩ := own_slice own15
      replace hM := hM.app3 (t := t) own15 hgr15 hne15
      refine hK.out _ _ (fun _ => And.intro hM.f0 hM.f1) ?_
      clear hK K
      (try simp only [Act.put, List.setIfInBounds_toArray, List.set_cons_zero, List.set_cons_succ])
      replace hH := And.intro hM.f0 hM.f1
      refine AnyE.take0 16 (v := ?_) rfl (by decide) (by kernel_rfl) (by kernel_rfl) (by kernel_rfl) (by kernel_rfl) (fun _ _ _ h => h) (by rfl) (fun _ => hH) ?_ ?_
      rotate_left; · (intro w; go_simp; try with_reducible rfl)
      (try simp only [Act.put, List.setIfInBounds_toArray, List.set_cons_zero, List.set_cons_succ])
      refine AnyE.take0 17 (v := ?_) rfl (by decide) (by kernel_rfl) (by kernel_rfl) (by kernel_rfl) (by kernel_rfl) (fun _ _ _ h => h) (by rfl) (fun _ => hH) ?_ ?_
      rotate_left; · (intro w; go_simp; try with_reducible rfl)
      (try simp only [Act.put, List.setIfInBounds_toArray, List.set_cons_zero, List.set_cons_succ])
      have s0 := hM.f0
      have s1 := hM.z0
      have s2 := hM.f1
      have s3 := hM.z1
      refine AnyE.one 18 rfl (by kernel_rfl) (fun K hK => ?_)
      go_simp
      refine hK.out _ _ (fun e => Bool.noConfusion (show true = false from e)) ?_
      clear hK K
      (try simp only [Act.put, List.setIfInBounds_toArray, List.set_cons_zero, List.set_cons_succ])
      refine AnyE.take0 19 (v := ?_) rfl (by decide) (by kernel_rfl) (by kernel_rfl) (by kernel_rfl) (by kernel_rfl) (fun _ _ _ h => h) (by rfl) (fun e => Bool.noConfusion (show true = false from e)) ?_ ?_
      rotate_left; · (intro w; go_simp; try with_reducible rfl)
      (try simp only [Act.put, List.setIfInBounds_toArray, List.set_cons_zero, List.set_cons_succ])
      refine AnyE.take0 20 (v := ?_) rfl (by decide) (by kernel_rfl) (by kernel_rfl) (by kernel_rfl) (by kernel_rfl) (fun _ _ _ h => h) (by rfl) (fun e => Bool.noConfusion (show true = false from e)) ?_ ?_
      rotate_left; · (intro w; go_simp; try with_reducible rfl)
      (try simp only [Act.put, List.setIfInBounds_toArray, List.set_cons_zero, List.set_cons_succ])
      refine AnyE.one 21 rfl (by kernel_rfl) (fun K hK => ?_)
      go_simp
      refine hK.out _ _ (fun e => Bool.noConfusion (show true = false from e)) ?_
      clear hK K
      (try simp only [Act.put, List.setIfInBounds_toArray, List.set_cons_zero, List.set_cons_succ])
      refine AnyE.done (by kernel_rfl) ?_ _
      obtain ⟨hBG, hbl, hkp⟩ := hM.done
      exact NoPanic.normal (hK _ _ _ _ _ _ _ _ _ _ _ _ _ _ _ _ _ _ _ _ _ ⟨_, _, _, _, _, hBG, hbl, hkp, hM.o3, hM.o4⟩)
    · have b14 := (Below.refl W7.heap.size W7).alloc (Nat.le_refl _) (.cells #[.int .i64 (t : Int)] 3)
      have o14 : Row (fun b => some b ≠ (Value.slice A4 k c4).ownBlock) _ _ 1 1 (fun _ => (.int .i64 (t : Int) : Value)) := (row_one (w := W7) (.int .i64 (t : Int)) 3).mono (fun b _ h => by rw [h]; exact own_new_ne hM.rows.own (Nat.le_refl _))
      replace hM := hM.alloc b14
      replace o7 := o7.below b14
      go_simp
      refine hK.out _ _ (fun _ => And.intro hM.f0 hM.f1) ?_
      clear hK K
      (try simp only [Act.put, List.setIfInBounds_toArray, List.set_cons_zero, List.set_cons_succ])
      replace hH := And.intro hM.f0 hM.f1
      generalize hW14 : W7.alloc (.cells #[.int .i64 (t : Int)] 3) = W14 at *
      refine AnyE.one 8 rfl (by kernel_rfl) (fun K hK => ?_)
      (refine step_append_row (by rfl) (by rfl) Try.underlying22 info28 rfl (by rfl) hM.rows.own (by rfl) o7 (fun _ _ => rfl) (by unfold maxLen; omega) (by omega) (Nat.le_trans hM.hN hM.size) ?_; intro v8 W8 own8 hgr8 hne8)
      obtain ⟨A8, c8, rfl, _⟩ := own_slice own8
      replace hM := hM.app4 own8 hgr8 hne8
      replace o14 := (o14.keep (Keeps.grown (p := fun b => some b ≠ (Value.slice A4 k c4).ownBlock) hgr8 (fun g e h => h e.symm)))
      refine hK.out _ _ (fun _ => And.intro hM.f0 hM.f1) ?_
      clear hK K
      (try simp only [Act.put, List.setIfInBounds_toArray, List.set_cons_zero, List.set_cons_succ])
      replace hH := And.intro hM.f0 hM.f1
      refine AnyE.one 15 rfl (by kernel_rfl) (fun K hK => ?_)
      (refine step_append_row (by rfl) (by rfl) Try.underlying29 info3 rfl (by rfl) hM.lead (by rfl) o14 (fun _ _ => rfl) (by unfold maxLen; omega) (by omega) (Nat.le_trans hM.hN hM.size) ?_; intro v15 W15 own15 hgr15 hne15)
      obtain ⟨A15, c15, rfl, _⟩ := own_slice own15
      replace hM := hM.app3 (t := t) own15 hgr15 hne15
      refine hK.out _ _ (fun _ => And.intro hM.f0 hM.f1) ?_
      clear hK K
      (try simp only [Act.put, List.setIfInBounds_toArray, List.set_cons_zero, List.set_cons_succ])
      replace hH := And.intro hM.f0 hM.f1
      refine AnyE.take0 16 (v := ?_) rfl (by decide) (by kernel_rfl) (by kernel_rfl) (by kernel_rfl) (by kernel_rfl) (fun _ _ _ h => h) (by rfl) (fun _ => hH) ?_ ?_
      rotate_left; · (intro w; go_simp; try with_reducible rfl)
      (try simp only [Act.put, List.setIfInBounds_toArray, List.set_cons_zero, List.set_cons_succ])
      refine AnyE.take0 17 (v := ?_) rfl (by decide) (by kernel_rfl) (by kernel_rfl) (by kernel_rfl) (by kernel_rfl) (fun _ _ _ h => h) (by rfl) (fun _ => hH) ?_ ?_
      rotate_left; · (intro w; go_simp; try with_reducible rfl)
      (try simp only [Act.put, List.setIfInBounds_toArray, List.set_cons_zero, List.set_cons_succ])
      have s0 := hM.f0
      have s1 := hM.z0
      have s2 := hM.f1
      have s3 := hM.z1
      refine AnyE.one 18 rfl (by kernel_rfl) (fun K hK => ?_)
      go_simp
      refine hK.out _ _ (fun e => Bool.noConfusion (show true = false from e)) ?_
      clear hK K
      (try simp only [Act.put, List.setIfInBounds_toArray, List.set_cons_zero, List.set_cons_succ])
      refine AnyE.take0 19 (v := ?_) rfl (by decide) (by kernel_rfl) (by kernel_rfl) (by kernel_rfl) (by kernel_rfl) (fun _ _ _ h => h) (by rfl) (fun e => Bool.noConfusion (show true = false from e)) ?_ ?_
      rotate_left; · (intro w; go_simp; try with_reducible rfl)
      (try simp only [Act.put, List.setIfInBounds_toArray, List.set_cons_zero, List.set_cons_succ])
      refine AnyE.take0 20 (v := ?_) rfl (by decide) (by kernel_rfl) (by kernel_rfl) (by kernel_rfl) (by kernel_rfl) (fun _ _ _ h => h) (by rfl) (fun e => Bool.noConfusion (show true = false from e)) ?_ ?_
      rotate_left; · (intro w; go_simp; try with_reducible rfl)
      (try simp only [Act.put, List.setIfInBounds_toArray, List.set_cons_zero, List.set_cons_succ])
      refine AnyE.one 21 rfl (by kernel_rfl) (fun K hK => ?_)
      go_simp
      refine hK.out _ _ (fun e => Bool.noConfusion (show true = false from e)) ?_
      clear hK K
      (try simp only [Act.put, List.setIfInBounds_toArray, List.set_cons_zero, List.set_cons_succ])
      refine AnyE.done (by kernel_rfl) ?_ _
      obtain ⟨hBG, hbl, hkp⟩ := hM.done
      exact NoPanic.normal (hK _ _ _ _ _ _ _ _ _ _ _ _ _ _ _ _ _ _ _ _ _ ⟨_, _, _, _, _, hBG, hbl, hkp, hM.o3, hM.o4⟩)
  · have b14 := (Below.refl W.heap.size W).alloc (Nat.le_refl _) (.cells #[.int .i64 (t : Int)] 3)
    have o14 : Row (fun b => some b ≠ (Value.slice A4 k c4).ownBlock) _ _ 1 1 (fun _ => (.int .i64 (t : Int) : Value)) := (row_one (w := W) (.int .i64 (t : Int)) 3).mono (fun b _ h => by rw [h]; exact own_new_ne hM.rows.own (Nat.le_refl _))
    replace hM := hM.alloc b14
    go_simp
    refine hK.out _ _ (fun _ => And.intro hM.f0 hM.f1) ?_
    clear hK K
    (try simp only [Act.put, List.setIfInBounds_toArray, List.set_cons_zero, List.set_cons_succ])
    replace hH := And.intro hM.f0 hM.f1
    generalize hW14 : W.alloc (.cells #[.int .i64 (t : Int)] 3) = W14 at *
    refine AnyE.one 7 rfl (by kernel_rfl) (fun K hK => ?_)
    have b7 := (Below.refl W14.heap.size W14).alloc (Nat.le_refl _) (.cells #[.slice A m c] 28)
    have o7 : Row (fun b => some b ≠ (Value.slice A4 k c4).ownBlock) _ _ 1 1 (fun _ => (.slice A m c : Value)) := (row_one (w := W14) (.slice A m c) 28).mono (fun b _ h => by rw [h]; exact own_new_ne hM.rows.own (Nat.le_refl _))
    replace hM := hM.alloc b7
    replace o14 := o14.below b7
    go_simp
    refine hK.out _ _ (fun _ => And.intro hM.f0 hM.f1) ?_
    clear hK K
    (try simp only [Act.put, List.setIfInBounds_toArray, List.set_cons_zero, List.set_cons_succ])
    replace hH := And.intro hM.f0 hM.f1
    generalize hW7 : W14.alloc (.cells #[.slice A m c] 28) = W7 at *
    refine AnyE.one 8 rfl (by kernel_rfl) (fun K hK => ?_)
    (refine step_append_row (by rfl) (by rfl) Try.underlying22 info28 rfl (by rfl) hM.rows.own (by rfl) o7 (fun _ _ => rfl) (by unfold maxLen; omega) (by omega) (Nat.le_trans hM.hN hM.size) ?_; intro v8 W8 own8 hgr8 hne8)
    obtain ⟨A8, c8, rfl, _⟩ := own_slice own8
    replace hM := hM.app4 own8 hgr8 hne8
    replace o14 := (o14.keep (Keeps.grown (p := fun b => some b ≠ (Value.slice A4 k c4).ownBlock) hgr8 (fun g e h => h e.symm)))
    refine hK.out _ _ (fun _ => And.intro hM.f0 hM.f1) ?_
    clear hK K
    (try simp only [Act.put, List.setIfInBounds_toArray, List.set_cons_zero, List.set_cons_succ])
    replace hH := And.intro hM.f0 hM.f1
    refine AnyE.one 15 rfl (by kernel_rfl) (fun K hK => ?_)
    (refine step_append_row (by rfl) (by rfl) Try.underlying29 info3 rfl (by rfl) hM.lead (by rfl) o14 (fun _ _ => rfl) (by unfold maxLen; omega) (by omega) (Nat.le_trans hM.hN hM.size) ?_; intro v15 W15 own15 hgr15 hne15)
    obtain ⟨A15, c15, rfl, _⟩ := own_slice own15
    replace hM := hM.app3 (t := t) own15 hgr15 hne15
    refine hK.out _ _ (fun _ => And.intro hM.f0 hM.f1) ?_
    clear hK K
    (try simp only [Act.put, List.setIfInBounds_toArray, List.set_cons_zero, List.set_cons_succ])
    replace hH := And.intro hM.f0 hM.f1
    refine AnyE.take0 16 (v := ?_) rfl (by decide) (by kernel_rfl) (by kernel_rfl) (by kernel_rfl) (by kernel_rfl) (fun _ _ _ h => h) (by rfl) (fun _ => hH) ?_ ?_
    rotate_left; · (intro w; go_simp; try with_reducible rfl)
    (try simp only [Act.put, List.setIfInBounds_toArray, List.set_cons_zero, List.set_cons_succ])
    refine AnyE.take0 17 (v := ?_) rfl (by decide) (by kernel_rfl) (by kernel_rfl) (by kernel_rfl) (by kernel_rfl) (fun _ _ _ h => h) (by rfl) (fun _ => hH) ?_ ?_
    rotate_left; · (intro w; go_simp; try with_reducible rfl)
    (try simp only [Act.put, List.setIfInBounds_toArray, List.set_cons_zero, List.set_cons_succ])
    have s0 := hM.f0
    have s1 := hM.z0
    have s2 := hM.f1
    have s3 := hM.z1
    refine AnyE.one 18 rfl (by kernel_rfl) (fun K hK => ?_)
    go_simp
    refine hK.out _ _ (fun e => Bool.noConfusion (show true = false from e)) ?_
    clear hK K
    (try simp only [Act.put, List.setIfInBounds_toArray, List.set_cons_zero, List.set_cons_succ])
    refine AnyE.take0 19 (v := ?_) rfl (by decide) (by kernel_rfl) (by kernel_rfl) (by kernel_rfl) (by kernel_rfl) (fun _ _ _ h => h) (by rfl) (fun e => Bool.noConfusion (show true = false from e)) ?_ ?_
    rotate_left; · (intro w; go_simp; try with_reducible rfl)
    (try simp only [Act.put, List.setIfInBounds_toArray, List.set_cons_zero, List.set_cons_succ])
    refine AnyE.take0 20 (v := ?_) rfl (by decide) (by kernel_rfl) (by kernel_rfl) (by kernel_rfl) (by kernel_rfl) (fun _ _ _ h => h) (by rfl) (fun e => Bool.noConfusion (show true = false from e)) ?_ ?_
    rotate_left; · (intro w; go_simp; try with_reducible rfl)
    (try simp only [Act.put, List.setIfInBounds_toArray, List.set_cons_zero, List.set_cons_succ])
    refine AnyE.one 21 rfl (by kernel_rfl) (fun K hK => ?_)
    go_simp
    refine hK.out _ _ (fun e => Bool.noConfusion (show true = false from e)) ?_
    clear hK K
    (try simp only [Act.put, List.setIfInBounds_toArray, List.set_cons_zero, List.set_cons_succ])
    refine AnyE.done (by kernel_rfl) ?_ _
    obtain ⟨hBG, hbl, hkp⟩ := hM.done
    exact NoPanic.normal (hK _ _ _ _ _ _ _ _ _ _ _ _ _ _ _ _ _ _ _ _ _ ⟨_, _, _, _, _, hBG, hbl, hkp, hM.o3, hM.o4⟩)
theorem leads_step {c : Nat} {B B' : List (List F)} (hB : Red c B) {x : List F} (hx : x.length = c) (h : addB B x = some B') : B'.map leadN = B.map leadN ++ [leadN (redR B x)] := by
  obtain ⟨_, h2, h3⟩ := addB_red hB hx h
  have hlast : leadN (mrow B' B.length) = leadN (redR B x) := by
    unfold addB at h
    by_cases hl : leadN (redR B x) < (redR B x).length
    case neg => rw [if_neg hl] at h; cases h
    rw [if_pos hl] at h
    cases h
    have := mrow_append_right (elimB B (norm (redR B x)) (leadN (redR B x))) (norm (redR B x))
    rw [elimB_length] at this
    rw [this, leadN_norm hl]
  apply List.ext_getElem (by simp [h2])
  intro i h4 h5
  rw [List.getElem_map, ← mrow_of_lt (by simpa using h4)]
  simp only [List.length_map] at h4
  by_cases e : i < B.length
  · rw [h3 i e, List.getElem_append_left (by simpa using e), List.getElem_map, ← mrow_of_lt e]
  · obtain rfl : i = B.length := by omega
    rw [hlast, List.getElem_append_right (by simp)]
    simp
section
variable {E : Nat → Prop} {w : World} {N gB m n c : Nat} {v3 v4 : Value} {p : Nat → Prop} {A : Option Addr} {x : List F} {B : List (List F)} {R : Nat → Option Addr} {L C : Nat → Nat}
def AddPost (E : Nat → Prop) (w : World) (N gB : Nat) (v3 v4 : Value) (B : List (List F)) (x : List F) (e : Ending) (w' : World) : Prop :=
  ∃ (v3' v4' : Value) (R' : Nat → Option Addr) (L' C' : Nat → Nat), e = .returned (.bool (addB B x).isSome) ∧ BasG E w' N gB v3' v4' ((addB B x).getD B).length (((addB B x).getD B).map leadN) R' L' C' (mrow ((addB B x).getD B)) ∧ Below N w w' ∧
    Keeps (fun b => b ≠ gB ∧ some b ≠ v3.ownBlock ∧ some b ≠ v4.ownBlock) w w' ∧ (∀ b, b < w.heap.size → some b ≠ v3.ownBlock → some b ≠ v3'.ownBlock) ∧ (∀ b, b < w.heap.size → some b ≠ v4.ownBlock → some b ≠ v4'.ownBlock)
set_option maxRecDepth 100000 in
set_option maxHeartbeats 2000000 in
theorem add_any (h : BasG E w N gB v3 v4 B.length (B.map leadN) R L C (mrow B)) (hred : Red m B) (hx : Byt p w A m c x) (hm : m ≤ 4096) (hk : B.length ≤ 4000) (hN : N ≤ w.heap.size) (hE : ∀ b, w.heap.size ≤ b → E b) :
    Calls Try.prog 132 #[.pointer (some ⟨gB, 0, none⟩), .slice A m c] w (AddPost E w N gB v3 v4 B x) := by
  obtain ⟨A4, c4, rfl, hrag⟩ := h.rows.rag rfl (fun _ _ => rfl)
  have hmat := hrag.mat hred.len
  obtain ⟨A3, c3, rfl, hl0⟩ := own_slice h.lead
  have hl := hl0.congr (g := fun j => .int .i64 (leadN (mrow B j) : Int)) fun j hj => by rw [List.getD_eq_getElem?_getD]; simp [hj, mrow_of_lt hj]
  have hgB := h.lt
  have hzl := (redR_all hred hx.len).1
  replace hrag := Lib.hid hrag
  replace hl0 := Lib.hid hl0
  go_enter Try.func132, Try.ntmps132
  go_wp2_with (go_at_call 92; refine (clone_any hx (by omega)).mono ?_; rintro e w1 ⟨A1, c1, rfl, hx1, hb1⟩; have f0 := (hb1.cell (p := ⟨gB, 0, none⟩) hgB).trans h.f0)
  refine add0 (w := w) hred hm (by omega) hmat hl h.f1 hx1 hb1 (fun x1 x5 x6 x19 x20 x21 x22 x23 x24 x25 x26 x27 x28 x29 x30 x31 x32 x33 x34 x35 x36 x37 x38 x39 x40 w2 h2 => ?_)
  obtain ⟨A2, c2, rfl, hz, hb2⟩ := h2
  by_cases hlt : leadN (redR B x) < (redR B x).length
  case neg =>
    have hlz : lead (redR B x) = -1 := by unfold lead; rw [if_neg hlt]
    have hadd : addB B x = none := by unfold addB; rw [if_neg hlt]
    replace hlz := Lib.hid hlz
    replace hadd := Lib.hid hadd
    go_wp2_with (go_at_call 146; refine (index_any hz).mono ?_; rintro e w' ⟨rfl, rfl⟩; rw [hlz.out])
    go_ret
    refine ⟨_, _, R, L, C, by rw [hadd.out]; rfl, by rw [hadd.out]; exact h.below hb2, hb2.mono hN, Keeps.below hb2, fun _ _ h => h, fun _ _ h => h⟩
  case pos =>
    have hlz : lead (redR B x) = (leadN (redR B x) : Int) := lead_leadN hlt
    have hadd : addB B x = some (elimB B (norm (redR B x)) (leadN (redR B x)) ++ [norm (redR B x)]) := by unfold addB; rw [if_pos hlt]
    have hls := leads_step hred hx.len hadd
    have hnz := (leadN_lt hlt).1
    have hnorm : norm (redR B x) = fuse (zeroL (redR B x).length) (redR B x) (Gf.inv (nth (redR B x) (leadN (redR B x)))) := rfl
    rw [hzl] at hnorm hlt
    have hyl : (norm (redR B x)).length = m := by rw [norm_length, hzl]
    replace hlz := Lib.hid hlz
    replace hadd := Lib.hid hadd
    replace hls := Lib.hid hls
    replace hnorm := Lib.hid hnorm
    replace hzl := Lib.hid hzl
    generalize norm (redR B x) = y at *
    generalize leadN (redR B x) = t at *
    generalize redR B x = z at *
    replace hnz := Lib.hid hnz
    obtain ⟨b5, o5, rfl, _, hlt5, hc5⟩ := hz.at_ (by omega)
    have f5 := hc5 t hlt
    replace hc5 := Lib.hid hc5
    have d1 : (0 : Int) ≤ (t : Int) := Int.natCast_nonneg _
    have d2 : (t : Int) < (m : Int) := by omega
    clear hx1 hb1 f0
    go_wp2_with (first | (go_at_call 146; go_loud (refine (index_any hz).mono ?_; rintro e w3 ⟨rfl, rfl⟩; rw [hlz.out])) | (go_at_call 90; go_loud (refine (inv_any _ hnz.out _).mono ?_; rintro e w3 ⟨rfl, rfl⟩)) | (at_make; refine wpl_make rfl rfl Try.underlying28 info5 rfl rfl rfl (by omega) (by omega) ?_; intro w4 g4 hrow4 hb4 hg4; have hz4 := hz.below hb4; have m3 : Byt (fun _ => True) w4 (some ⟨g4, 0, none⟩) m m (zeroL m) := Byt.of_rowIs (hrow4.congr fun j _ => by rw [nth_zeroL]; rfl) (zeroL_length _) trivial (max_of (by omega))) | (go_at_call 91; refine (fused_any _ _ m3 hz4 (by omega)).mono ?_; rintro e w5 ⟨g5, rfl, hg5, hrow5, hb5⟩; have hb25 := below_then2 hb2 (below_then2 hb4 hb5); have f0 := (hb25.cell (p := ⟨gB, 0, none⟩) hgB).trans h.f0))
    have hy5 : Byt (fun b => w.heap.size ≤ b) w5 (some ⟨g5, 0, none⟩) m m y := by
      rw [hnorm.out]
      exact Byt.of_rowIs hrow5 (fuse_length _ (zeroL_length _) hz4.len) (Nat.le_trans (Nat.le_trans hb2.size hb4.size) hg5) (max_of (by omega))
    refine add2 (w := w) hm (by omega) hlt hred rfl h hb25 hN hE hy5 (fun x10 x11 x67 x68 x69 x70 x71 x72 x73 x74 x75 x76 x77 x78 x79 x80 x81 x82 x83 x84 x85 x86 x87 x88 w6 h6 => ?_)
    obtain ⟨R6, L6, C6, hB6, hy6, hbN6, hk6⟩ := h6
    have hy7 := hy6.mono (q := fun b => (E b ∧ some b ≠ (Value.slice A3 B.length c3).ownBlock) ∧ some b ≠ (Value.slice A4 B.length c4).ownBlock) fun b _ hb => ⟨⟨hE _ hb, own_new_ne h.lead hb⟩, own_new_ne h.rows.own hb⟩
    have hN6 := Nat.le_trans hN hk6.size
    go_upto_region 17 with fail
    refine add17 (by omega) hB6 hy7 hN6 (fun x89 x90 x91 x92 x93 x94 x95 x96 x97 x98 x99 x100 x101 x102 x103 x104 x105 x106 x107 x108 w7 h7 => ?_)
    obtain ⟨v3', v4', R7, L7, C7, hB7, hbN7, hk7, ho3, ho4⟩ := h7
    go_wp2
    go_ret
    have e4 : elimB B y t ++ [y] = (addB B x).getD B := by rw [hadd.out]; rfl
    have el : B.length + 1 = ((addB B x).getD B).length := by rw [← e4]; simp [elimB_length]
    have el2 : B.map leadN ++ [t] = ((addB B x).getD B).map leadN := by rw [← e4]; exact hls.out.symm
    refine ⟨v3', v4', R7, L7, C7, by rw [hadd.out]; rfl, ?_, hbN6.trans hbN7, hk6.trans hk7, fun b hb => ho3 b (Nat.lt_of_lt_of_le hb hk6.size), fun b hb => ho4 b (Nat.lt_of_lt_of_le hb hk6.size)⟩
    rw [el2, el] at hB7
    exact hB7.congr fun j hj => by rw [← e4]; exact elimP_end (by rw [el]; exact hj)
end
end Go.Proofs.Ytifhjigkljdkmaa
