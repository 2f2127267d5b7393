import Derived.Test.YtifhjigkljdkmaaM7
namespace Go.Proofs.Ytifhjigkljdkmaa
open Go.RowKit
open Gf (F)
set_option linter.unusedSimpArgs false
set_option linter.unusedVariables false
set_option maxRecDepth 100000 in
set_option maxHeartbeats 1000000 in
theorem inv19 {Q : Exit → Act → World → Prop} {w w3 : World} {g gc i cc b3 o3 : Nat} {s2 : Nat → Nat → F} {R2 : Nat → Option Addr} {C2 : Nat → Nat} (hltc : cc < i) (r2 : i ≤ 64) (hs3 : OwnT w3 w.heap.size g R2 C2 i (2 * i) (fun k => mkr (2 * i) (s2 k))) (e3 : R2 cc = some ⟨b3, o3, none⟩) (hb3' : Below w.heap.size w w3) (hc3' : w3.cell? ⟨gc, 0, none⟩ = some (.int .i64 (cc : Int))) (hgcg : g < gc)
    {u0 u1 u2 u3 u6 u7 u9 u11 u12 u13 u14 u15 u16 u17 u18 u19 u20 u21 u22 u23 u24 u25 u26 u27 u28 u29 u30 u31 u32 u33 u34 u35 u36 u37 u38 u39 u40 u41 u42 u43 u44 u45 u46 u47 u48 u49 u50 u51 u52 u53 u54 u55 u56 u57 u58 u59 u60 u61 u62 u63 u64 u65 u66 u67 u68 u69 u70 u71 u72 u73 u74 u75 u76 u77 u78 u79 u80 u81 u82 u83 u84 u85 u86 u87 u88 u89 u90 u91 u92 u93 u94 u95 u96 u97 u98 u99 u100 u101 u102 u103 u104 u105 u106 u107 u108 u109 u110 u111 u112 u113 u114 u115 u116 u117 u118 u119 u120 u121 u122 u123 u124 u125 u126 u127 u128 u129 u130 u131 u132 u133 u134 u135 u136 u137 u138 u139 u140 u141 u142 u143 u144 u145 u146 u147 u148 u149 u150 u151 u152 u153 u154 u155 u156 u157 u158 u159 u160 : Value}
    (hK : ∀ (x95 x96 x97 x98 x99 x100 x101 x102 x103 x104 x105 x106 x107 x108 x109 : Value) (w' : World), (∃ (R3 : Nat → Option Addr) (C3 : Nat → Nat), OwnT w' w.heap.size g R3 C3 i (2 * i) (fun k => mkr (2 * i) (scaleS s2 cc k)) ∧ w'.cell? ⟨gc, 0, none⟩ = some (.int .i64 (cc : Int)) ∧ Below w.heap.size w w') → Q .normal ⟨List.toArray ((u0) :: (u1) :: (u2) :: (u3) :: (.int .i64 (i : Int)) :: (.slice (some ⟨g, 0, none⟩) i i) :: (u6) :: (u7) :: (.pointer (some ⟨gc, 0, none⟩)) :: (u9) :: (.int .u8 ((Gf.inv (s2 cc cc)).toNat : Int)) :: (u11) :: (u12) :: (u13) :: (u14) :: (u15) :: (u16) :: (u17) :: (u18) :: (u19) :: (u20) :: (u21) :: (u22) :: (u23) :: (u24) :: (u25) :: (u26) :: (u27) :: (u28) :: (u29) :: (u30) :: (u31) :: (u32) :: (u33) :: (u34) :: (u35) :: (u36) :: (u37) :: (u38) :: (u39) :: (u40) :: (u41) :: (u42) :: (u43) :: (u44) :: (u45) :: (u46) :: (u47) :: (u48) :: (u49) :: (u50) :: (u51) :: (u52) :: (u53) :: (u54) :: (u55) :: (u56) :: (u57) :: (u58) :: (u59) :: (u60) :: (u61) :: (u62) :: (u63) :: (u64) :: (u65) :: (u66) :: (u67) :: (u68) :: (u69) :: (u70) :: (u71) :: (u72) :: (u73) :: (u74) :: (u75) :: (u76) :: (u77) :: (u78) :: (u79) :: (u80) :: (u81) :: (u82) :: (u83) :: (u84) :: (u85) :: (u86) :: (u87) :: (u88) :: (u89) :: (u90) :: (u91) :: (u92) :: (u93) :: (u94) :: (x95) :: (x96) :: (x97) :: (x98) :: (x99) :: (x100) :: (x101) :: (x102) :: (x103) :: (x104) :: (x105) :: (x106) :: (x107) :: (x108) :: (x109) :: (u110) :: (u111) :: (u112) :: (u113) :: (u114) :: (u115) :: (u116) :: (u117) :: (u118) :: (u119) :: (u120) :: (u121) :: (u122) :: (u123) :: (u124) :: (u125) :: (u126) :: (u127) :: (u128) :: (u129) :: (u130) :: (u131) :: (u132) :: (u133) :: (u134) :: (u135) :: (u136) :: (u137) :: (u138) :: (u139) :: (u140) :: (u141) :: (u142) :: (u143) :: (u144) :: (u145) :: (u146) :: (u147) :: (u148) :: (u149) :: (u150) :: (u151) :: (u152) :: (u153) :: (u154) :: (u155) :: (u156) :: (u157) :: (u158) :: (u159) :: (u160) :: []), []⟩ w') :
    (piece Try.f29 [1, 1, 1, 1, 1, 0, 1, 0, 0, 1, 1, 0, 0, 1, 1, 1, 1, 1, 0]).wp Try.prog Q ⟨List.toArray (u0 :: u1 :: u2 :: u3 :: (.int .i64 (i : Int)) :: (.slice (some ⟨g, 0, none⟩) i i) :: u6 :: u7 :: (.pointer (some ⟨gc, 0, none⟩)) :: u9 :: (.int .u8 ((Gf.inv (s2 cc cc)).toNat : Int)) :: u11 :: u12 :: u13 :: u14 :: u15 :: u16 :: u17 :: u18 :: u19 :: u20 :: u21 :: u22 :: u23 :: u24 :: u25 :: u26 :: u27 :: u28 :: u29 :: u30 :: u31 :: u32 :: u33 :: u34 :: u35 :: u36 :: u37 :: u38 :: u39 :: u40 :: u41 :: u42 :: u43 :: u44 :: u45 :: u46 :: u47 :: u48 :: u49 :: u50 :: u51 :: u52 :: u53 :: u54 :: u55 :: u56 :: u57 :: u58 :: u59 :: u60 :: u61 :: u62 :: u63 :: u64 :: u65 :: u66 :: u67 :: u68 :: u69 :: u70 :: u71 :: u72 :: u73 :: u74 :: u75 :: u76 :: u77 :: u78 :: u79 :: u80 :: u81 :: u82 :: u83 :: u84 :: u85 :: u86 :: u87 :: u88 :: u89 :: u90 :: u91 :: u92 :: u93 :: u94 :: u95 :: u96 :: u97 :: u98 :: u99 :: u100 :: u101 :: u102 :: u103 :: u104 :: u105 :: u106 :: u107 :: u108 :: u109 :: u110 :: u111 :: u112 :: u113 :: u114 :: u115 :: u116 :: u117 :: u118 :: u119 :: u120 :: u121 :: u122 :: u123 :: u124 :: u125 :: u126 :: u127 :: u128 :: u129 :: u130 :: u131 :: u132 :: u133 :: u134 :: u135 :: u136 :: u137 :: u138 :: u139 :: u140 :: u141 :: u142 :: u143 :: u144 :: u145 :: u146 :: u147 :: u148 :: u149 :: u150 :: u151 :: u152 :: u153 :: u154 :: u155 :: u156 :: u157 :: u158 :: u159 :: u160 :: []), []⟩ w3 := by
  conv => arg 2; whnf
  refine wp_region_noPanic ?_
  have t1 := hs3.cell hltc
  rw [e3] at t1
  have q3 := hs3.row cc hltc
  rw [e3] at q3
  have hg3 : g < w3.heap.size := hs3.top.lt
  have hgc3 : gc < w3.heap.size := World.block_lt_of_cell? _ _ hc3'
  have hw2 : IntKind.i64.wrap (2 * (i : Int)) = 2 * (i : Int) := IntWalk.i64_in _ (by omega)
  have d1 : (0 : Int) ≤ (cc : Int) := Int.natCast_nonneg _
  have d2 : (cc : Int) < (i : Int) := by omega
  have hmk : ∀ W : World, (Instr.makeSlice 28 (.int .i64 (2 * (i : Int))) (.int .i64 (2 * (i : Int)))).run Try.prog W = .ok (.slice (some ⟨W.heap.size, 0, none⟩) (2 * i) (2 * i)) (W.alloc (.cells (madeCells #[.int .u8 0] (2 * i)) 5)) := by
    intro W
    rw [show (2 * (i : Int)) = ((2 * i : Nat) : Int) from by omega]
    exact run_make_row' 28 5 (.int .u8 0) 1 Try.underlying28 info5 rfl .i64 .i64 (2 * i) (by omega) (by omega) W
  have hb4 := (Below.refl w3.drew.heap.size w3.drew).alloc (Nat.le_refl _) (.cells (madeCells #[.int .u8 0] (2 * i)) 5)
  have m1 := (hb4.cell (p := ⟨gc, 0, none⟩) hgc3).trans hc3'
  have m2 := (hb4.cell (p := ⟨g, cc, none⟩) hg3).trans t1
  have m3 : Byt (fun _ => True) (w3.drew.alloc (.cells (madeCells #[.int .u8 0] (2 * i)) 5)) (some ⟨w3.drew.heap.size, 0, none⟩) (2 * i) (2 * i) (zeroL (2 * i)) := Byt.of_rowIs ((World.rowIs_made w3.drew (.int .u8 0) (2 * i) 5).congr fun j _ => by rw [nth_zeroL]; rfl) (zeroL_length _) trivial (max_of (by omega))
  have q4 := q3.drew.below hb4
  have hs4 := hs3.drew.below hb4
  have hsz4 := hb4.size
  refine AnyE.region (fun w' => w'.cell? ⟨gc, 0, none⟩ = some (.int .i64 (cc : Int)) ∧ w'.cell? ⟨g, cc, none⟩ = some (.slice (some ⟨b3, o3, none⟩) (2 * i) (C2 cc))) 15 (by kernel_rfl) ?_
  have hH := (show w3.drew.cell? ⟨gc, 0, none⟩ = some (.int .i64 (cc : Int)) ∧ w3.drew.cell? ⟨g, cc, none⟩ = some (.slice (some ⟨b3, o3, none⟩) (2 * i) (C2 cc)) from ⟨hc3', t1⟩)
  refine AnyE.take0 0 (v := ?_) rfl (by decide) (by kernel_rfl) (by kernel_rfl) (by kernel_rfl) (by kernel_rfl) (fun _ _ _ h => h) (by rfl) (fun _ => hH) ?_ ?_
  rotate_left; · (intro w; go_simp; try with_reducible rfl)
  (try simp only [Act.put, List.setIfInBounds_toArray, List.set_cons_zero, List.set_cons_succ])
  refine AnyE.take 1 [1] (v := ?_) rfl (by decide) (by kernel_rfl) (by kernel_rfl) (by kernel_rfl) (by kernel_rfl) (by kernel_rfl) (by kernel_rfl) (fun _ _ _ h => h) (by rfl) hH ?_ ?_
  rotate_left; · (intro w hSw; (try dsimp only at hSw); go_simp; try with_reducible rfl)
  (try simp only [Act.put, List.setIfInBounds_toArray, List.set_cons_zero, List.set_cons_succ])
  refine AnyE.take0 2 (v := ?_) rfl (by decide) (by kernel_rfl) (by kernel_rfl) (by kernel_rfl) (by kernel_rfl) (fun _ _ _ h => h) (by rfl) (fun _ => hH) ?_ ?_
  rotate_left; · (intro w; go_simp; try with_reducible rfl)
  (try simp only [Act.put, List.setIfInBounds_toArray, List.set_cons_zero, List.set_cons_succ])
  refine AnyE.take0 3 (v := ?_) rfl (by decide) (by kernel_rfl) (by kernel_rfl) (by kernel_rfl) (by kernel_rfl) (fun _ _ _ h => h) (by rfl) (fun _ => hH) ?_ ?_
  rotate_left; · (intro w; go_simp; try with_reducible rfl)
  (try simp only [Act.put, List.setIfInBounds_toArray, List.set_cons_zero, List.set_cons_succ])
  refine AnyE.take0 5 (v := ?_) rfl (by decide) (by kernel_rfl) (by kernel_rfl) (by kernel_rfl) (by kernel_rfl) (fun _ _ _ h => h) (by rfl) (fun _ => hH) ?_ ?_
  rotate_left; · (intro w; go_simp; try with_reducible rfl)
  (try simp only [Act.put, List.setIfInBounds_toArray, List.set_cons_zero, List.set_cons_succ])
  refine AnyE.take 6 [6] (v := ?_) rfl (by decide) (by kernel_rfl) (by kernel_rfl) (by kernel_rfl) (by kernel_rfl) (by kernel_rfl) (by kernel_rfl) (fun _ _ _ h => h) (by rfl) hH ?_ ?_
  rotate_left; · (intro w hSw; (try dsimp only at hSw); go_simp; try with_reducible rfl)
  (try simp only [Act.put, List.setIfInBounds_toArray, List.set_cons_zero, List.set_cons_succ])
  refine AnyE.take0 7 (v := ?_) rfl (by decide) (by kernel_rfl) (by kernel_rfl) (by kernel_rfl) (by kernel_rfl) (fun _ _ _ h => h) (by rfl) (fun _ => hH) ?_ ?_
  rotate_left; · (intro w; go_simp; try with_reducible rfl)
  (try simp only [Act.put, List.setIfInBounds_toArray, List.set_cons_zero, List.set_cons_succ])
  refine AnyE.take 8 [8] (v := ?_) rfl (by decide) (by kernel_rfl) (by kernel_rfl) (by kernel_rfl) (by kernel_rfl) (by kernel_rfl) (by kernel_rfl) (fun _ _ _ h => h) (by rfl) hH ?_ ?_
  rotate_left; · (intro w hSw; (try dsimp only at hSw); go_simp; try with_reducible rfl)
  (try simp only [Act.put, List.setIfInBounds_toArray, List.set_cons_zero, List.set_cons_succ])
  refine AnyE.take0 9 (v := ?_) rfl (by decide) (by kernel_rfl) (by kernel_rfl) (by kernel_rfl) (by kernel_rfl) (fun _ _ _ h => h) (by rfl) (fun _ => hH) ?_ ?_
  rotate_left; · (intro w; go_simp; try with_reducible rfl)
  (try simp only [Act.put, List.setIfInBounds_toArray, List.set_cons_zero, List.set_cons_succ])
  refine AnyE.one 4 rfl (by kernel_rfl) (fun K hK => ?_)
  go_simp
  refine hK.out _ _ (fun _ => (And.intro m1 m2)) ?_
  clear hK K
  (try simp only [Act.put, List.setIfInBounds_toArray, List.set_cons_zero, List.set_cons_succ])
  replace hH := (And.intro m1 m2)
  refine AnyE.one 10 rfl (by kernel_rfl) (fun K hK => ?_)
  (go_simp; go_at_call 91; refine (fused_any _ _ m3 q4 (by omega)).mono ?_; rintro e w5 ⟨g5, rfl, hg5, hrow5, hb5⟩; go_wp2_with fail; have hs5 := hs4.below hb5; have m4 := hs5.cell hltc; have m5 := hs5.frozen cc; have m6 := (hb5.cell (p := ⟨gc, 0, none⟩) (Nat.lt_of_lt_of_le hgc3 hsz4)).trans m1; have hs6 := (hs5.set (Byt.of_rowIs (p := fun b => w.heap.size ≤ b ∧ b ≠ g) hrow5 (fuse_length _ (zeroL_length _) (mkr_length _ _)) ⟨Nat.le_trans (Nat.le_trans hb3'.size hsz4) hg5, Nat.ne_of_gt (Nat.lt_of_lt_of_le (Nat.lt_of_lt_of_le hg3 hsz4) hg5)⟩ (max_of (by omega))) cc).congr fun j _ => scale_eq s2 cc (2 * i) j; have hb6 := (below_then (hb3'.drew.trans (hb4.mono hb3'.size)) (Nat.le_trans hb3'.size hsz4) hb5).setCell (p := ⟨g, cc, none⟩) hs5.lo (.slice (some ⟨g5, 0, none⟩) (2 * i) (2 * i)); have m7 := cell_set_ne (v := .slice (some ⟨g5, 0, none⟩) (2 * i) (2 * i)) (g := g) (k := cc) (Nat.ne_of_gt hgcg) m6)
  refine hK.out _ _ (fun _ => (And.intro m6 ((hb5.cell (p := ⟨g, cc, none⟩) (Nat.lt_of_lt_of_le hg3 hsz4)).trans m2))) ?_
  clear hK K
  (try simp only [Act.put, List.setIfInBounds_toArray, List.set_cons_zero, List.set_cons_succ])
  replace hH := (And.intro m6 ((hb5.cell (p := ⟨g, cc, none⟩) (Nat.lt_of_lt_of_le hg3 hsz4)).trans m2))
  refine AnyE.take0 11 (v := ?_) rfl (by decide) (by kernel_rfl) (by kernel_rfl) (by kernel_rfl) (by kernel_rfl) (fun _ _ _ h => h) (by rfl) (fun _ => hH) ?_ ?_
  rotate_left; · (intro w; go_simp; try with_reducible rfl)
  (try simp only [Act.put, List.setIfInBounds_toArray, List.set_cons_zero, List.set_cons_succ])
  refine AnyE.take0 12 (v := ?_) rfl (by decide) (by kernel_rfl) (by kernel_rfl) (by kernel_rfl) (by kernel_rfl) (fun _ _ _ h => h) (by rfl) (fun _ => hH) ?_ ?_
  rotate_left; · (intro w; go_simp; try with_reducible rfl)
  (try simp only [Act.put, List.setIfInBounds_toArray, List.set_cons_zero, List.set_cons_succ])
  refine AnyE.take0 13 (v := ?_) rfl (by decide) (by kernel_rfl) (by kernel_rfl) (by kernel_rfl) (by kernel_rfl) (fun _ _ _ h => h) (by rfl) (fun _ => hH) ?_ ?_
  rotate_left; · (intro w; go_simp; try with_reducible rfl)
  (try simp only [Act.put, List.setIfInBounds_toArray, List.set_cons_zero, List.set_cons_succ])
  refine AnyE.take0 14 (v := ?_) rfl (by decide) (by kernel_rfl) (by kernel_rfl) (by kernel_rfl) (by kernel_rfl) (fun _ _ _ h => h) (by rfl) (fun _ => hH) ?_ ?_
  rotate_left; · (intro w; go_simp; try with_reducible rfl)
  (try simp only [Act.put, List.setIfInBounds_toArray, List.set_cons_zero, List.set_cons_succ])
  refine AnyE.one 15 rfl (by kernel_rfl) (fun K hK => ?_)
  go_simp
  refine hK.out _ _ (fun e => Bool.noConfusion (show true = false from e)) ?_
  clear hK K
  (try simp only [Act.put, List.setIfInBounds_toArray, List.set_cons_zero, List.set_cons_succ])
  refine AnyE.done (by kernel_rfl) ?_ _
  exact NoPanic.normal (hK _ _ _ _ _ _ _ _ _ _ _ _ _ _ _ _ ⟨_, _, hs6, m7, hb6⟩)
set_option maxRecDepth 100000 in
set_option maxHeartbeats 1000000 in
theorem inv24 {Q : Exit → Act → World → Prop} {w w3 : World} {g gc i cc k b5 o5 : Nat} {E : Nat → Nat → F} {R4 : Nat → Option Addr} {C4 : Nat → Nat} (hltc : cc < i) (hltk : k < i) (r2 : i ≤ 64) (hs3 : OwnT w3 w.heap.size g R4 C4 i (2 * i) (fun r => mkr (2 * i) (E r))) (e5 : R4 k = some ⟨b5, o5, none⟩) (hb3 : Below w.heap.size w w3) (hc3 : w3.cell? ⟨gc, 0, none⟩ = some (.int .i64 (cc : Int))) (hgcg : g < gc)
    {u0 u1 u2 u3 u4 u6 u7 u9 u10 u11 u13 u14 u15 u16 u17 u18 u19 u20 u21 u22 u23 u24 u25 u26 u27 u28 u29 u30 u31 u32 u33 u34 u35 u36 u37 u38 u39 u40 u41 u42 u43 u44 u45 u46 u47 u48 u49 u50 u51 u52 u53 u54 u55 u56 u57 u58 u59 u60 u61 u62 u63 u64 u65 u66 u67 u68 u69 u70 u71 u72 u73 u74 u75 u76 u77 u78 u79 u80 u81 u82 u83 u84 u85 u86 u87 u88 u89 u90 u91 u92 u93 u94 u95 u96 u97 u98 u99 u100 u101 u102 u103 u104 u105 u106 u107 u108 u109 u110 u111 u112 u113 u114 u115 u116 u117 u118 u119 u120 u121 u122 u123 u124 u125 u126 u127 u128 u129 u130 u131 u132 u133 u134 u135 u136 u137 u138 u139 u140 u141 u142 u143 u144 u145 u146 u147 u148 u149 u150 u151 u152 u153 u154 u155 u156 u157 u158 u159 u160 : Value}
    (hK : ∀ (x118 x119 x120 x121 x122 x123 x124 x125 x126 x127 x128 x129 x130 x131 x132 x133 x134 x135 x136 x137 x138 x139 : Value) (w' : World), (∃ (R5 : Nat → Option Addr) (C5 : Nat → Nat), OwnT w' w.heap.size g R5 C5 i (2 * i) (fun r => if r = k then fuse (mkr (2 * i) (E k)) (mkr (2 * i) (E cc)) (E k cc) else mkr (2 * i) (E r)) ∧ w'.cell? ⟨gc, 0, none⟩ = some (.int .i64 (cc : Int)) ∧ Below w.heap.size w w') → Q .normal ⟨List.toArray ((u0) :: (u1) :: (u2) :: (u3) :: (u4) :: (.slice (some ⟨g, 0, none⟩) i i) :: (u6) :: (u7) :: (.pointer (some ⟨gc, 0, none⟩)) :: (u9) :: (u10) :: (u11) :: (.int .i64 (k : Int)) :: (u13) :: (u14) :: (u15) :: (u16) :: (u17) :: (u18) :: (u19) :: (u20) :: (u21) :: (u22) :: (u23) :: (u24) :: (u25) :: (u26) :: (u27) :: (u28) :: (u29) :: (u30) :: (u31) :: (u32) :: (u33) :: (u34) :: (u35) :: (u36) :: (u37) :: (u38) :: (u39) :: (u40) :: (u41) :: (u42) :: (u43) :: (u44) :: (u45) :: (u46) :: (u47) :: (u48) :: (u49) :: (u50) :: (u51) :: (u52) :: (u53) :: (u54) :: (u55) :: (u56) :: (u57) :: (u58) :: (u59) :: (u60) :: (u61) :: (u62) :: (u63) :: (u64) :: (u65) :: (u66) :: (u67) :: (u68) :: (u69) :: (u70) :: (u71) :: (u72) :: (u73) :: (u74) :: (u75) :: (u76) :: (u77) :: (u78) :: (u79) :: (u80) :: (u81) :: (u82) :: (u83) :: (u84) :: (u85) :: (u86) :: (u87) :: (u88) :: (u89) :: (u90) :: (u91) :: (u92) :: (u93) :: (u94) :: (u95) :: (u96) :: (u97) :: (u98) :: (u99) :: (u100) :: (u101) :: (u102) :: (u103) :: (u104) :: (u105) :: (u106) :: (u107) :: (u108) :: (u109) :: (u110) :: (u111) :: (u112) :: (u113) :: (u114) :: (u115) :: (u116) :: (u117) :: (x118) :: (x119) :: (x120) :: (x121) :: (x122) :: (x123) :: (x124) :: (x125) :: (x126) :: (x127) :: (x128) :: (x129) :: (x130) :: (x131) :: (x132) :: (x133) :: (x134) :: (x135) :: (x136) :: (x137) :: (x138) :: (x139) :: (u140) :: (u141) :: (u142) :: (u143) :: (u144) :: (u145) :: (u146) :: (u147) :: (u148) :: (u149) :: (u150) :: (u151) :: (u152) :: (u153) :: (u154) :: (u155) :: (u156) :: (u157) :: (u158) :: (u159) :: (u160) :: []), []⟩ w') :
    (piece Try.f29 [1, 1, 1, 1, 1, 0, 1, 0, 0, 1, 1, 0, 0, 1, 1, 1, 1, 1, 1, 1, 0, 0, 1, 1, 0, 0, 1, 1, 0]).wp Try.prog Q ⟨List.toArray (u0 :: u1 :: u2 :: u3 :: u4 :: (.slice (some ⟨g, 0, none⟩) i i) :: u6 :: u7 :: (.pointer (some ⟨gc, 0, none⟩)) :: u9 :: u10 :: u11 :: (.int .i64 (k : Int)) :: u13 :: u14 :: u15 :: u16 :: u17 :: u18 :: u19 :: u20 :: u21 :: u22 :: u23 :: u24 :: u25 :: u26 :: u27 :: u28 :: u29 :: u30 :: u31 :: u32 :: u33 :: u34 :: u35 :: u36 :: u37 :: u38 :: u39 :: u40 :: u41 :: u42 :: u43 :: u44 :: u45 :: u46 :: u47 :: u48 :: u49 :: u50 :: u51 :: u52 :: u53 :: u54 :: u55 :: u56 :: u57 :: u58 :: u59 :: u60 :: u61 :: u62 :: u63 :: u64 :: u65 :: u66 :: u67 :: u68 :: u69 :: u70 :: u71 :: u72 :: u73 :: u74 :: u75 :: u76 :: u77 :: u78 :: u79 :: u80 :: u81 :: u82 :: u83 :: u84 :: u85 :: u86 :: u87 :: u88 :: u89 :: u90 :: u91 :: u92 :: u93 :: u94 :: u95 :: u96 :: u97 :: u98 :: u99 :: u100 :: u101 :: u102 :: u103 :: u104 :: u105 :: u106 :: u107 :: u108 :: u109 :: u110 :: u111 :: u112 :: u113 :: u114 :: u115 :: u116 :: u117 :: u118 :: u119 :: u120 :: u121 :: u122 :: u123 :: u124 :: u125 :: u126 :: u127 :: u128 :: u129 :: u130 :: u131 :: u132 :: u133 :: u134 :: u135 :: u136 :: u137 :: u138 :: u139 :: u140 :: u141 :: u142 :: u143 :: u144 :: u145 :: u146 :: u147 :: u148 :: u149 :: u150 :: u151 :: u152 :: u153 :: u154 :: u155 :: u156 :: u157 :: u158 :: u159 :: u160 :: []), []⟩ w3 := by
  conv => arg 2; whnf
  refine wp_region_noPanic ?_
  have t1 := hs3.cell hltk
  rw [e5] at t1
  have t2 := hs3.cell hltc
  have q1 := hs3.row k hltk
  have q2 := hs3.row cc hltc
  obtain ⟨b6, o6, e6, _, hlt6, hc6⟩ := q1.at_ (by omega)
  rw [e5] at e6 q1
  cases e6
  have t3 := hc6 cc (by omega)
  rw [nth_mkr _ (by omega)] at t3
  have hg3 : g < w3.heap.size := hs3.top.lt
  have hgc3 : gc < w3.heap.size := World.block_lt_of_cell? _ _ hc3
  have d1 : (0 : Int) ≤ (cc : Int) := Int.natCast_nonneg _
  have d2 : (cc : Int) < (i : Int) := by omega
  have d3 : (0 : Int) ≤ (k : Int) := Int.natCast_nonneg _
  have d4 : (k : Int) < (i : Int) := by omega
  have d5 : (cc : Int) < 2 * (i : Int) := by omega
  have d6 : (cc : Int) < ((2 * i : Nat) : Int) := by omega
  replace hc6 := Lib.hid hc6
  refine AnyE.region (fun w' => w'.cell? ⟨gc, 0, none⟩ = some (.int .i64 (cc : Int)) ∧ w'.cell? ⟨g, k, none⟩ = some (.slice (some ⟨b5, o5, none⟩) (2 * i) (C4 k)) ∧ w'.cell? ⟨g, cc, none⟩ = some (.slice (R4 cc) (2 * i) (C4 cc)) ∧ w'.cell? ⟨b5, o5 + cc, none⟩ = some (.int .u8 ((E k cc).toNat : Int))) 22 (by kernel_rfl) ?_
  have hH := (And.intro hc3 (And.intro t1 (And.intro t2 t3)))
  refine AnyE.take0 0 (v := ?_) rfl (by decide) (by kernel_rfl) (by kernel_rfl) (by kernel_rfl) (by kernel_rfl) (fun _ _ _ h => h) (by rfl) (fun _ => hH) ?_ ?_
  rotate_left; · (intro w; go_simp; try with_reducible rfl)
  (try simp only [Act.put, List.setIfInBounds_toArray, List.set_cons_zero, List.set_cons_succ])
  refine AnyE.take0 1 (v := ?_) rfl (by decide) (by kernel_rfl) (by kernel_rfl) (by kernel_rfl) (by kernel_rfl) (fun _ _ _ h => h) (by rfl) (fun _ => hH) ?_ ?_
  rotate_left; · (intro w; go_simp; try with_reducible rfl)
  (try simp only [Act.put, List.setIfInBounds_toArray, List.set_cons_zero, List.set_cons_succ])
  refine AnyE.take0 2 (v := ?_) rfl (by decide) (by kernel_rfl) (by kernel_rfl) (by kernel_rfl) (by kernel_rfl) (fun _ _ _ h => h) (by rfl) (fun _ => hH) ?_ ?_
  rotate_left; · (intro w; go_simp; try with_reducible rfl)
  (try simp only [Act.put, List.setIfInBounds_toArray, List.set_cons_zero, List.set_cons_succ])
  refine AnyE.take0 3 (v := ?_) rfl (by decide) (by kernel_rfl) (by kernel_rfl) (by kernel_rfl) (by kernel_rfl) (fun _ _ _ h => h) (by rfl) (fun _ => hH) ?_ ?_
  rotate_left; · (intro w; go_simp; try with_reducible rfl)
  (try simp only [Act.put, List.setIfInBounds_toArray, List.set_cons_zero, List.set_cons_succ])
  refine AnyE.take0 4 (v := ?_) rfl (by decide) (by kernel_rfl) (by kernel_rfl) (by kernel_rfl) (by kernel_rfl) (fun _ _ _ h => h) (by rfl) (fun _ => hH) ?_ ?_
  rotate_left; · (intro w; go_simp; try with_reducible rfl)
  (try simp only [Act.put, List.setIfInBounds_toArray, List.set_cons_zero, List.set_cons_succ])
  refine AnyE.take 5 [5] (v := ?_) rfl (by decide) (by kernel_rfl) (by kernel_rfl) (by kernel_rfl) (by kernel_rfl) (by kernel_rfl) (by kernel_rfl) (fun _ _ _ h => h) (by rfl) hH ?_ ?_
  rotate_left; · (intro w hSw; (try dsimp only at hSw); go_simp; try with_reducible rfl)
  (try simp only [Act.put, List.setIfInBounds_toArray, List.set_cons_zero, List.set_cons_succ])
  refine AnyE.take0 6 (v := ?_) rfl (by decide) (by kernel_rfl) (by kernel_rfl) (by kernel_rfl) (by kernel_rfl) (fun _ _ _ h => h) (by rfl) (fun _ => hH) ?_ ?_
  rotate_left; · (intro w; go_simp; try with_reducible rfl)
  (try simp only [Act.put, List.setIfInBounds_toArray, List.set_cons_zero, List.set_cons_succ])
  refine AnyE.take 7 [7] (v := ?_) rfl (by decide) (by kernel_rfl) (by kernel_rfl) (by kernel_rfl) (by kernel_rfl) (by kernel_rfl) (by kernel_rfl) (fun _ _ _ h => h) (by rfl) hH ?_ ?_
  rotate_left; · (intro w hSw; (try dsimp only at hSw); go_simp; try with_reducible rfl)
  (try simp only [Act.put, List.setIfInBounds_toArray, List.set_cons_zero, List.set_cons_succ])
  refine AnyE.take0 8 (v := ?_) rfl (by decide) (by kernel_rfl) (by kernel_rfl) (by kernel_rfl) (by kernel_rfl) (fun _ _ _ h => h) (by rfl) (fun _ => hH) ?_ ?_
  rotate_left; · (intro w; go_simp; try with_reducible rfl)
  (try simp only [Act.put, List.setIfInBounds_toArray, List.set_cons_zero, List.set_cons_succ])
  refine AnyE.take 9 [9] (v := ?_) rfl (by decide) (by kernel_rfl) (by kernel_rfl) (by kernel_rfl) (by kernel_rfl) (by kernel_rfl) (by kernel_rfl) (fun _ _ _ h => h) (by rfl) hH ?_ ?_
  rotate_left; · (intro w hSw; (try dsimp only at hSw); go_simp; try with_reducible rfl)
  (try simp only [Act.put, List.setIfInBounds_toArray, List.set_cons_zero, List.set_cons_succ])
  refine AnyE.take0 10 (v := ?_) rfl (by decide) (by kernel_rfl) (by kernel_rfl) (by kernel_rfl) (by kernel_rfl) (fun _ _ _ h => h) (by rfl) (fun _ => hH) ?_ ?_
  rotate_left; · (intro w; go_simp; try with_reducible rfl)
  (try simp only [Act.put, List.setIfInBounds_toArray, List.set_cons_zero, List.set_cons_succ])
  refine AnyE.take0 11 (v := ?_) rfl (by decide) (by kernel_rfl) (by kernel_rfl) (by kernel_rfl) (by kernel_rfl) (fun _ _ _ h => h) (by rfl) (fun _ => hH) ?_ ?_
  rotate_left; · (intro w; go_simp; try with_reducible rfl)
  (try simp only [Act.put, List.setIfInBounds_toArray, List.set_cons_zero, List.set_cons_succ])
  refine AnyE.take0 12 (v := ?_) rfl (by decide) (by kernel_rfl) (by kernel_rfl) (by kernel_rfl) (by kernel_rfl) (fun _ _ _ h => h) (by rfl) (fun _ => hH) ?_ ?_
  rotate_left; · (intro w; go_simp; try with_reducible rfl)
  (try simp only [Act.put, List.setIfInBounds_toArray, List.set_cons_zero, List.set_cons_succ])
  refine AnyE.take 13 [13] (v := ?_) rfl (by decide) (by kernel_rfl) (by kernel_rfl) (by kernel_rfl) (by kernel_rfl) (by kernel_rfl) (by kernel_rfl) (fun _ _ _ h => h) (by rfl) hH ?_ ?_
  rotate_left; · (intro w hSw; (try dsimp only at hSw); go_simp; try with_reducible rfl)
  (try simp only [Act.put, List.setIfInBounds_toArray, List.set_cons_zero, List.set_cons_succ])
  refine AnyE.take 14 [14] (v := ?_) rfl (by decide) (by kernel_rfl) (by kernel_rfl) (by kernel_rfl) (by kernel_rfl) (by kernel_rfl) (by kernel_rfl) (fun _ _ _ h => h) (by rfl) hH ?_ ?_
  rotate_left; · (intro w hSw; (try dsimp only at hSw); go_simp; try with_reducible rfl)
  (try simp only [Act.put, List.setIfInBounds_toArray, List.set_cons_zero, List.set_cons_succ])
  refine AnyE.take0 15 (v := ?_) rfl (by decide) (by kernel_rfl) (by kernel_rfl) (by kernel_rfl) (by kernel_rfl) (fun _ _ _ h => h) (by rfl) (fun _ => hH) ?_ ?_
  rotate_left; · (intro w; go_simp; try with_reducible rfl)
  (try simp only [Act.put, List.setIfInBounds_toArray, List.set_cons_zero, List.set_cons_succ])
  refine AnyE.take 16 [16] (v := ?_) rfl (by decide) (by kernel_rfl) (by kernel_rfl) (by kernel_rfl) (by kernel_rfl) (by kernel_rfl) (by kernel_rfl) (fun _ _ _ h => h) (by rfl) hH ?_ ?_
  rotate_left; · (intro w hSw; (try dsimp only at hSw); go_simp; try with_reducible rfl)
  (try simp only [Act.put, List.setIfInBounds_toArray, List.set_cons_zero, List.set_cons_succ])
  refine AnyE.one 17 rfl (by kernel_rfl) (fun K hK => ?_)
  (go_simp; go_at_call 91; refine (fused_any _ _ q1.drew q2.drew (by omega)).mono ?_; rintro e w5 ⟨g5, rfl, hg5, hrow5, hb5⟩; go_wp2_with fail; have hs5 := hs3.drew.below hb5; have m4 := hs5.cell hltk; have m5 := hs5.frozen k; have m6 := (hb5.cell (p := ⟨gc, 0, none⟩) hgc3).trans hc3; have hs6 := (hs5.set (Byt.of_rowIs (p := fun b => w.heap.size ≤ b ∧ b ≠ g) hrow5 (fuse_length _ (mkr_length _ _) (mkr_length _ _)) ⟨Nat.le_trans hb3.size hg5, Nat.ne_of_gt (Nat.lt_of_lt_of_le hg3 hg5)⟩ (max_of (by omega))) k); have hb6 := (below_then hb3.drew hb3.size hb5).setCell (p := ⟨g, k, none⟩) hs5.lo (.slice (some ⟨g5, 0, none⟩) (2 * i) (2 * i)); have m7 := cell_set_ne (v := .slice (some ⟨g5, 0, none⟩) (2 * i) (2 * i)) (g := g) (k := k) (Nat.ne_of_gt hgcg) m6)
  refine hK.out _ _ (fun _ => (And.intro m6 (And.intro (e5 ▸ m4) (And.intro (hs5.cell hltc) ((hb5.cell (p := ⟨b5, o5 + cc, none⟩) hlt6).trans t3))))) ?_
  clear hK K
  (try simp only [Act.put, List.setIfInBounds_toArray, List.set_cons_zero, List.set_cons_succ])
  replace hH := (And.intro m6 (And.intro (e5 ▸ m4) (And.intro (hs5.cell hltc) ((hb5.cell (p := ⟨b5, o5 + cc, none⟩) hlt6).trans t3))))
  refine AnyE.take0 18 (v := ?_) rfl (by decide) (by kernel_rfl) (by kernel_rfl) (by kernel_rfl) (by kernel_rfl) (fun _ _ _ h => h) (by rfl) (fun _ => hH) ?_ ?_
  rotate_left; · (intro w; go_simp; try with_reducible rfl)
  (try simp only [Act.put, List.setIfInBounds_toArray, List.set_cons_zero, List.set_cons_succ])
  refine AnyE.take0 19 (v := ?_) rfl (by decide) (by kernel_rfl) (by kernel_rfl) (by kernel_rfl) (by kernel_rfl) (fun _ _ _ h => h) (by rfl) (fun _ => hH) ?_ ?_
  rotate_left; · (intro w; go_simp; try with_reducible rfl)
  (try simp only [Act.put, List.setIfInBounds_toArray, List.set_cons_zero, List.set_cons_succ])
  refine AnyE.take0 20 (v := ?_) rfl (by decide) (by kernel_rfl) (by kernel_rfl) (by kernel_rfl) (by kernel_rfl) (fun _ _ _ h => h) (by rfl) (fun _ => hH) ?_ ?_
  rotate_left; · (intro w; go_simp; try with_reducible rfl)
  (try simp only [Act.put, List.setIfInBounds_toArray, List.set_cons_zero, List.set_cons_succ])
  refine AnyE.take0 21 (v := ?_) rfl (by decide) (by kernel_rfl) (by kernel_rfl) (by kernel_rfl) (by kernel_rfl) (fun _ _ _ h => h) (by rfl) (fun _ => hH) ?_ ?_
  rotate_left; · (intro w; go_simp; try with_reducible rfl)
  (try simp only [Act.put, List.setIfInBounds_toArray, List.set_cons_zero, List.set_cons_succ])
  refine AnyE.one 22 rfl (by kernel_rfl) (fun K hK => ?_)
  go_simp
  refine hK.out _ _ (fun e => Bool.noConfusion (show true = false from e)) ?_
  clear hK K
  (try simp only [Act.put, List.setIfInBounds_toArray, List.set_cons_zero, List.set_cons_succ])
  refine AnyE.done (by kernel_rfl) ?_ _
  exact NoPanic.normal (hK _ _ _ _ _ _ _ _ _ _ _ _ _ _ _ _ _ _ _ _ _ _ _ ⟨_, _, hs6, m7, hb6⟩)
set_option maxRecDepth 100000 in
set_option maxHeartbeats 1000000 in
theorem inv4 {Q : Exit → Act → World → Prop} {w w3 : World} {g gc i cc : Nat} {S : Nat → Nat → F} {R3 : Nat → Option Addr} {C3 : Nat → Nat} (hltc : cc < i) (r2 : i ≤ 64) (ho3 : OwnT w3 w.heap.size g R3 C3 i (2 * i) (fun r => mkr (2 * i) (S r))) (hb3 : Below w.heap.size w w3) (hcc3 : w3.cell? ⟨gc, 0, none⟩ = some (.int .i64 (cc : Int))) (hgcg : g < gc)
    {u0 u1 u2 u3 u4 u6 u7 u9 u10 u11 u12 u13 u14 u15 u16 u17 u18 u19 u20 u21 u22 u23 u24 u25 u26 u27 u28 u29 u30 u31 u32 u33 u34 u35 u36 u37 u38 u39 u40 u41 u42 u43 u44 u45 u46 u47 u48 u49 u50 u51 u52 u53 u54 u55 u56 u57 u58 u59 u60 u61 u62 u63 u64 u65 u66 u67 u68 u69 u70 u71 u72 u73 u74 u75 u76 u77 u78 u79 u80 u81 u82 u83 u84 u85 u86 u87 u88 u89 u90 u91 u92 u93 u94 u95 u96 u97 u98 u99 u100 u101 u102 u103 u104 u105 u106 u107 u108 u109 u110 u113 u114 u115 u116 u117 u118 u119 u120 u121 u122 u123 u124 u125 u126 u127 u128 u129 u130 u131 u132 u133 u134 u135 u136 u137 u138 u139 u140 u141 u142 u143 u144 u145 u146 u147 u148 u149 u150 u151 u152 u153 u154 u155 u156 u157 u158 u159 u160 : Value}
    (hK : ∀ (x12 x112 x113 x114 x115 x116 x117 x118 x119 x120 x121 x122 x123 x124 x125 x126 x127 x128 x129 x130 x131 x132 x133 x134 x135 x136 x137 x138 x139 x140 : Value) (w' : World), (∃ (R5 : Nat → Option Addr) (C5 : Nat → Nat), OwnT w' w.heap.size g R5 C5 i (2 * i) (fun r => mkr (2 * i) (elimS S cc i r)) ∧ w'.cell? ⟨gc, 0, none⟩ = some (.int .i64 (cc : Int)) ∧ Below w.heap.size w w') → Q (.exit 4) ⟨List.toArray ((u0) :: (u1) :: (u2) :: (u3) :: (u4) :: (.slice (some ⟨g, 0, none⟩) i i) :: (u6) :: (u7) :: (.pointer (some ⟨gc, 0, none⟩)) :: (u9) :: (u10) :: (u11) :: (x12) :: (u13) :: (u14) :: (u15) :: (u16) :: (u17) :: (u18) :: (u19) :: (u20) :: (u21) :: (u22) :: (u23) :: (u24) :: (u25) :: (u26) :: (u27) :: (u28) :: (u29) :: (u30) :: (u31) :: (u32) :: (u33) :: (u34) :: (u35) :: (u36) :: (u37) :: (u38) :: (u39) :: (u40) :: (u41) :: (u42) :: (u43) :: (u44) :: (u45) :: (u46) :: (u47) :: (u48) :: (u49) :: (u50) :: (u51) :: (u52) :: (u53) :: (u54) :: (u55) :: (u56) :: (u57) :: (u58) :: (u59) :: (u60) :: (u61) :: (u62) :: (u63) :: (u64) :: (u65) :: (u66) :: (u67) :: (u68) :: (u69) :: (u70) :: (u71) :: (u72) :: (u73) :: (u74) :: (u75) :: (u76) :: (u77) :: (u78) :: (u79) :: (u80) :: (u81) :: (u82) :: (u83) :: (u84) :: (u85) :: (u86) :: (u87) :: (u88) :: (u89) :: (u90) :: (u91) :: (u92) :: (u93) :: (u94) :: (u95) :: (u96) :: (u97) :: (u98) :: (u99) :: (u100) :: (u101) :: (u102) :: (u103) :: (u104) :: (u105) :: (u106) :: (u107) :: (u108) :: (u109) :: (u110) :: (.int .i64 (i : Int)) :: (x112) :: (x113) :: (x114) :: (x115) :: (x116) :: (x117) :: (x118) :: (x119) :: (x120) :: (x121) :: (x122) :: (x123) :: (x124) :: (x125) :: (x126) :: (x127) :: (x128) :: (x129) :: (x130) :: (x131) :: (x132) :: (x133) :: (x134) :: (x135) :: (x136) :: (x137) :: (x138) :: (x139) :: (x140) :: (u141) :: (u142) :: (u143) :: (u144) :: (u145) :: (u146) :: (u147) :: (u148) :: (u149) :: (u150) :: (u151) :: (u152) :: (u153) :: (u154) :: (u155) :: (u156) :: (u157) :: (u158) :: (u159) :: (u160) :: []), []⟩ w') :
    (piece Try.f29 [1, 1, 1, 1, 1, 0, 1, 0, 0, 1, 1, 0, 0, 1, 1, 1, 1, 1, 1, 1, 0]).wp Try.prog Q ⟨List.toArray (u0 :: u1 :: u2 :: u3 :: u4 :: (.slice (some ⟨g, 0, none⟩) i i) :: u6 :: u7 :: (.pointer (some ⟨gc, 0, none⟩)) :: u9 :: u10 :: u11 :: u12 :: u13 :: u14 :: u15 :: u16 :: u17 :: u18 :: u19 :: u20 :: u21 :: u22 :: u23 :: u24 :: u25 :: u26 :: u27 :: u28 :: u29 :: u30 :: u31 :: u32 :: u33 :: u34 :: u35 :: u36 :: u37 :: u38 :: u39 :: u40 :: u41 :: u42 :: u43 :: u44 :: u45 :: u46 :: u47 :: u48 :: u49 :: u50 :: u51 :: u52 :: u53 :: u54 :: u55 :: u56 :: u57 :: u58 :: u59 :: u60 :: u61 :: u62 :: u63 :: u64 :: u65 :: u66 :: u67 :: u68 :: u69 :: u70 :: u71 :: u72 :: u73 :: u74 :: u75 :: u76 :: u77 :: u78 :: u79 :: u80 :: u81 :: u82 :: u83 :: u84 :: u85 :: u86 :: u87 :: u88 :: u89 :: u90 :: u91 :: u92 :: u93 :: u94 :: u95 :: u96 :: u97 :: u98 :: u99 :: u100 :: u101 :: u102 :: u103 :: u104 :: u105 :: u106 :: u107 :: u108 :: u109 :: u110 :: (.int .i64 (i : Int)) :: (.int .i64 0) :: u113 :: u114 :: u115 :: u116 :: u117 :: u118 :: u119 :: u120 :: u121 :: u122 :: u123 :: u124 :: u125 :: u126 :: u127 :: u128 :: u129 :: u130 :: u131 :: u132 :: u133 :: u134 :: u135 :: u136 :: u137 :: u138 :: u139 :: u140 :: u141 :: u142 :: u143 :: u144 :: u145 :: u146 :: u147 :: u148 :: u149 :: u150 :: u151 :: u152 :: u153 :: u154 :: u155 :: u156 :: u157 :: u158 :: u159 :: u160 :: []), []⟩ w3 := by
  conv => arg 2; whnf
  obtain ⟨wo, rfl⟩ : ∃ wo : World, wo = w3 := ⟨_, rfl⟩
  go_loopw [112] (fun x wr => ∃ (k : Nat) (R4 : Nat → Option Addr) (C4 : Nat → Nat), k ≤ i ∧ x = .int .i64 k ∧ OwnT wr w.heap.size g R4 C4 i (2 * i) (fun r => mkr (2 * i) (elimS S cc k r)) ∧ wr.cell? ⟨gc, 0, none⟩ = some (.int .i64 (cc : Int)) ∧ Below w.heap.size w wr) (fun x _ => i - (intOf x).toNat)
  case atStart => exact ⟨0, R3, C3, by omega, rfl, ho3.congr fun r _ => elim_zero S cc (2 * i) r, hcc3, hb3⟩
  case round =>
    clear ho3 hcc3 hb3
    obtain ⟨k, R4, C4, hk, rfl, ho4, hcc4, hb4⟩ := hrel
    by_cases hltk : k < i
    · by_cases ekc : k = cc
      · have ht : ((k : Int) != (cc : Int)) = false := by simp [ekc]
        replace ekc := Lib.hid ekc
        go_wp2
        go_roundw
        case rel => exact ⟨k + 1, R4, C4, by omega, by go_num, ho4.congr fun r _ => by rw [ekc.out]; exact elim_skip S cc (2 * i) r, hcc4, hb4⟩
        case measure => simp [intOf]; omega
      · have ht : ((k : Int) != (cc : Int)) = true := by simp; omega
        replace ekc := Lib.hid ekc
        have q1 := ho4.row k hltk
        obtain ⟨b5, o5, e5, _⟩ := q1.at_ (by omega)
        clear q1
        replace e5 := Lib.hid e5
        go_upto_region 24 with fail
        refine inv24 hltc hltk r2 ho4 e5.out hb4 hcc4 hgcg (fun y118 y119 y120 y121 y122 y123 y124 y125 y126 y127 y128 y129 y130 y131 y132 y133 y134 y135 y136 y137 y138 y139 w5 h5 => ?_)
        obtain ⟨R5, C5, ho5, hcc5, hb5⟩ := h5
        go_wp2
        go_roundw
        case rel => exact ⟨k + 1, R5, C5, by omega, by go_num, ho5.congr fun r _ => elim_eq S ekc.out (2 * i) r, hcc5, hb5⟩
        case measure => simp [intOf]; omega
    · obtain rfl : k = i := by omega
      go_wp2
      exact ⟨R4, C4, ho4, hcc4, hb4⟩
set_option maxRecDepth 100000 in
set_option maxHeartbeats 1000000 in
theorem inv6 {Q : Exit → Act → World → Prop} {w w2 w3 : World} {g g2 i : Nat} {st : Nat → Nat → F} {R3 : Nat → Option Addr} {C3 : Nat → Nat} (r1 : 1 ≤ i) (r2 : i ≤ 64) (ho3 : OwnT w2 w.heap.size g R3 C3 i (2 * i) (fun r => mkr (2 * i) (st r))) (hb3 : Below w.heap.size w w2) (hb2 : Below w2.heap.size w2 w3) (hg2 : w2.heap.size ≤ g2) (hn3 : w3.rowIs g2 28 i (fun _ => .slice none 0 0)) 
    {u0 u1 u2 u3 u6 u7 u8 u9 u10 u11 u12 u14 u15 u16 u17 u18 u19 u20 u21 u22 u23 u24 u25 u26 u27 u28 u29 u30 u31 u32 u33 u34 u35 u36 u37 u38 u39 u40 u41 u42 u43 u44 u45 u46 u47 u48 u49 u50 u51 u52 u53 u54 u55 u56 u57 u58 u59 u60 u61 u62 u63 u64 u65 u66 u67 u68 u69 u70 u71 u72 u73 u74 u75 u76 u77 u78 u79 u80 u81 u82 u83 u84 u85 u86 u87 u88 u89 u90 u91 u92 u93 u94 u95 u96 u97 u98 u99 u100 u101 u102 u103 u104 u105 u106 u107 u108 u109 u110 u111 u112 u113 u114 u115 u116 u117 u118 u119 u120 u121 u122 u123 u124 u125 u126 u127 u128 u129 u130 u131 u132 u133 u134 u135 u136 u137 u138 u139 u140 u141 u142 u143 u144 u147 u148 u149 u150 u151 u152 u153 u154 u155 u156 u157 u158 u159 u160 : Value}
    (hK : ∀ (x14 x146 x147 x148 x149 x150 x151 x152 x153 x154 x155 x156 x157 x158 x159 : Value) (w' : World), (∃ (R5 : Nat → Option Addr) (C5 : Nat → Nat), Mat (fun b => w.heap.size ≤ b) w' (some ⟨g2, 0, none⟩) i i R5 i C5 (mkm i i fun r j => st r (i + j)) ∧ Below w.heap.size w w') → Q (.exit 6) ⟨List.toArray ((u0) :: (u1) :: (u2) :: (u3) :: (.int .i64 (i : Int)) :: (.slice (some ⟨g, 0, none⟩) i i) :: (u6) :: (u7) :: (u8) :: (u9) :: (u10) :: (u11) :: (u12) :: (.slice (some ⟨g2, 0, none⟩) i i) :: (x14) :: (u15) :: (u16) :: (u17) :: (u18) :: (u19) :: (u20) :: (u21) :: (u22) :: (u23) :: (u24) :: (u25) :: (u26) :: (u27) :: (u28) :: (u29) :: (u30) :: (u31) :: (u32) :: (u33) :: (u34) :: (u35) :: (u36) :: (u37) :: (u38) :: (u39) :: (u40) :: (u41) :: (u42) :: (u43) :: (u44) :: (u45) :: (u46) :: (u47) :: (u48) :: (u49) :: (u50) :: (u51) :: (u52) :: (u53) :: (u54) :: (u55) :: (u56) :: (u57) :: (u58) :: (u59) :: (u60) :: (u61) :: (u62) :: (u63) :: (u64) :: (u65) :: (u66) :: (u67) :: (u68) :: (u69) :: (u70) :: (u71) :: (u72) :: (u73) :: (u74) :: (u75) :: (u76) :: (u77) :: (u78) :: (u79) :: (u80) :: (u81) :: (u82) :: (u83) :: (u84) :: (u85) :: (u86) :: (u87) :: (u88) :: (u89) :: (u90) :: (u91) :: (u92) :: (u93) :: (u94) :: (u95) :: (u96) :: (u97) :: (u98) :: (u99) :: (u100) :: (u101) :: (u102) :: (u103) :: (u104) :: (u105) :: (u106) :: (u107) :: (u108) :: (u109) :: (u110) :: (u111) :: (u112) :: (u113) :: (u114) :: (u115) :: (u116) :: (u117) :: (u118) :: (u119) :: (u120) :: (u121) :: (u122) :: (u123) :: (u124) :: (u125) :: (u126) :: (u127) :: (u128) :: (u129) :: (u130) :: (u131) :: (u132) :: (u133) :: (u134) :: (u135) :: (u136) :: (u137) :: (u138) :: (u139) :: (u140) :: (u141) :: (u142) :: (u143) :: (u144) :: (.int .i64 (i : Int)) :: (x146) :: (x147) :: (x148) :: (x149) :: (x150) :: (x151) :: (x152) :: (x153) :: (x154) :: (x155) :: (x156) :: (x157) :: (x158) :: (x159) :: (u160) :: []), []⟩ w') :
    (piece Try.f29 [1, 1, 1, 1, 1, 1, 1, 0, 1, 0]).wp Try.prog Q ⟨List.toArray (u0 :: u1 :: u2 :: u3 :: (.int .i64 (i : Int)) :: (.slice (some ⟨g, 0, none⟩) i i) :: u6 :: u7 :: u8 :: u9 :: u10 :: u11 :: u12 :: (.slice (some ⟨g2, 0, none⟩) i i) :: u14 :: u15 :: u16 :: u17 :: u18 :: u19 :: u20 :: u21 :: u22 :: u23 :: u24 :: u25 :: u26 :: u27 :: u28 :: u29 :: u30 :: u31 :: u32 :: u33 :: u34 :: u35 :: u36 :: u37 :: u38 :: u39 :: u40 :: u41 :: u42 :: u43 :: u44 :: u45 :: u46 :: u47 :: u48 :: u49 :: u50 :: u51 :: u52 :: u53 :: u54 :: u55 :: u56 :: u57 :: u58 :: u59 :: u60 :: u61 :: u62 :: u63 :: u64 :: u65 :: u66 :: u67 :: u68 :: u69 :: u70 :: u71 :: u72 :: u73 :: u74 :: u75 :: u76 :: u77 :: u78 :: u79 :: u80 :: u81 :: u82 :: u83 :: u84 :: u85 :: u86 :: u87 :: u88 :: u89 :: u90 :: u91 :: u92 :: u93 :: u94 :: u95 :: u96 :: u97 :: u98 :: u99 :: u100 :: u101 :: u102 :: u103 :: u104 :: u105 :: u106 :: u107 :: u108 :: u109 :: u110 :: u111 :: u112 :: u113 :: u114 :: u115 :: u116 :: u117 :: u118 :: u119 :: u120 :: u121 :: u122 :: u123 :: u124 :: u125 :: u126 :: u127 :: u128 :: u129 :: u130 :: u131 :: u132 :: u133 :: u134 :: u135 :: u136 :: u137 :: u138 :: u139 :: u140 :: u141 :: u142 :: u143 :: u144 :: (.int .i64 (i : Int)) :: (.int .i64 0) :: u147 :: u148 :: u149 :: u150 :: u151 :: u152 :: u153 :: u154 :: u155 :: u156 :: u157 :: u158 :: u159 :: u160 :: []), []⟩ w3 := by
  conv => arg 2; whnf
  obtain ⟨wo, rfl⟩ : ∃ wo : World, wo = w3 := ⟨_, rfl⟩
  go_loopw [146] (fun x wr => ∃ (k : Nat) (R4 : Nat → Option Addr) (C4 : Nat → Nat), k ≤ i ∧ x = .int .i64 k ∧ wr.rowIs g2 28 i (fun r => if r < k then .slice (R4 r) i (C4 r) else .slice none 0 0) ∧ (∀ r, r < k → Byt (fun b => w.heap.size ≤ b ∧ b ≠ g2) wr (R4 r) i (C4 r) (mkr i fun j => st r (i + j))) ∧ Below w2.heap.size w2 wr) (fun x _ => i - (intOf x).toNat)
  case atStart => exact ⟨0, fun _ => none, fun _ => 0, by omega, rfl, hn3.congr fun j _ => by rw [if_neg (Nat.not_lt_zero _)], fun r hr => absurd hr (Nat.not_lt_zero _), hb2⟩
  case round =>
    have hgN : w.heap.size ≤ g2 := Nat.le_trans hb3.size hg2
    clear hb2 hn3
    obtain ⟨k, R4, C4, hk, rfl, hn4, hr4, hb4⟩ := hrel
    by_cases hlt : k < i
    · have ho4 := ho3.below hb4
      have t1 := ho4.cell hlt
      obtain ⟨b5, o5, e5, _⟩ := (ho4.row k hlt).at_ (by omega)
      have q1 := ho4.row k hlt
      rw [e5] at t1 q1
      have hcap := q1.row.le
      have hq : Byt (fun b => w.heap.size ≤ b ∧ b ≠ g) wr (some ⟨b5, o5 + i, none⟩) i (C3 k - i) (mkr i fun j => st k (i + j)) := by
        refine ⟨mkr_length _ _, ?_⟩
        have := q1.row.from_ (k := i) (by omega)
        rw [show 2 * i - i = i from by omega] at this
        exact this.congr fun j hj => by rw [nth_mkr _ (by omega), nth_mkr _ hj]
      have d1 : (0 : Int) ≤ (i : Int) := Int.natCast_nonneg _
      have d2 : (i : Int) ≤ 2 * (i : Int) := by omega
      have d3 : (i : Int) ≤ ((2 * i : Nat) : Int) := by omega
      have f2 := hn4.frozen k
      have f1 := hn4.cell hlt
      rw [if_neg (Nat.lt_irrefl _)] at f1
      have hl2 := hn4.lt
      go_upto_region 31 with fail
      go_wp2_with (go_at_call 92; rw [show 2 * i - i = i from by omega]; refine (clone_any hq (by omega)).mono ?_; rintro e w5 ⟨A', c', rfl, hby, hb5⟩; have f3 := (hb5.cell (p := ⟨g2, k, none⟩) hl2).trans f1; have f4 := (hb5.frozen (p := ⟨g2, k, none⟩) hl2).trans f2)
      go_roundw
      case rel =>
        have kp : Keeps (fun b => w.heap.size ≤ b ∧ b ≠ g2) w5 (w5.setCell ⟨g2, k, none⟩ (.slice A' i c')) := Keeps.setCell (by simp) _
        refine ⟨k + 1, fun r => if r = k then A' else R4 r, fun r => if r = k then c' else C4 r, by omega, by go_num, ?_, ?_, ?_⟩
        · exact ((hn4.of_block (hb5.block g2 hl2)).set k _).congr fun j _ => by
            by_cases e : j = k
            · subst e; simp
            · by_cases e2 : j < k
              · simp [e, e2, show j < k + 1 by omega]
              · simp [e, e2, show ¬ j < k + 1 by omega]
        · intro r hr
          by_cases e : r = k
          · subst e
            simp only [if_pos]
            exact (hby.mono (fun b _ h => ⟨Nat.le_trans hb3.size (Nat.le_trans hb4.size h), Nat.ne_of_gt (Nat.lt_of_lt_of_le hl2 h)⟩)).keep kp
          · simp only [if_neg e]
            exact ((hr4 r (by omega)).below hb5).keep kp
        · exact (below_then hb4 hb4.size hb5).setCell (p := ⟨g2, k, none⟩) hg2 _
      case measure => simp [intOf]; omega
    · obtain rfl : k = i := by omega
      go_wp2
      exact ⟨R4, C4, ⟨mkm_length _ _ _, Row.of_rowIs (hn4.congr fun j hj => by rw [if_pos hj]) hgN (max_of (by omega)), fun r hr => by rw [mrow_mkm _ hr]; exact (hr4 r hr).mono fun _ _ h => h.1⟩, below_then hb3 hb3.size hb4⟩
end Go.Proofs.Ytifhjigkljdkmaa
