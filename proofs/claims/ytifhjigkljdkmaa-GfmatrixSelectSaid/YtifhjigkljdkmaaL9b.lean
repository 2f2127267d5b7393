/- The law function GfmatrixSelect returns true. -/
import Derived.Test.YtifhjigkljdkmaaL9a
namespace Go.Proofs.Ytifhjigkljdkmaa
open Go.RowKit
open Gf (F)
set_option linter.unusedSimpArgs false
set_option linter.unusedVariables false

set_option maxRecDepth 100000 in
set_option maxHeartbeats 4000000 in
theorem ls4 {Q : Exit → Act → World → Prop} {p q r : Nat → Prop} {w3 : World} {b1 o1 b2 o2 b3 o3 n c m k d l f : Nat} {R : Nat → Option Addr} {C : Nat → Nat} {a : List (List F)} {rows cols : List Int} (ha : Mat p w3 (some ⟨b1, o1, none⟩) n c R m C a) (hr : Ints q w3 (some ⟨b2, o2, none⟩) k d rows) (hc : Ints r w3 (some ⟨b3, o3, none⟩) l f cols) (n1 : 1 ≤ n) (l1 : 1 ≤ l) (l2 : l ≤ 64) (k2 : k ≤ 64) (k1 : 1 ≤ k)
    {u3 u4 u5 u6 u7 u8 u9 u10 u11 u12 u15 u16 u17 u18 u19 u20 u21 u22 u23 u24 u25 u26 u27 u28 u29 u30 u31 u32 u33 u34 u35 u36 u37 u38 u39 u40 u41 u42 u43 u44 u45 u46 u47 u48 u49 u50 u51 u52 u53 u54 u55 u56 u57 u58 u59 u60 u61 u62 u63 u64 u65 u66 u67 u68 u69 u70 u71 u72 u73 u74 u75 u76 u77 u78 u79 u80 u81 u82 u83 u84 u85 u86 u87 u88 u89 u90 u91 u92 u93 u94 u95 u96 u97 u98 u99 u100 u101 u102 u103 u104 u105 u106 u107 u108 u109 u110 u111 u112 u113 u114 u115 u116 u117 u118 u119 u120 u121 u122 u123 u124 u125 u126 u127 u128 u129 u130 u131 u132 u133 u134 u135 u136 u137 u138 u139 u140 u141 u142 u143 u144 u145 u146 u147 u148 u149 u150 u151 u152 u153 u154 u155 u156 u157 u158 u159 u160 u161 u162 u163 u164 u165 u166 u167 u168 u169 u170 u171 u172 u173 u174 u175 u176 u177 u178 u179 u180 u181 u182 u183 u184 u185 u186 u187 u188 u189 u190 u191 u192 u193 u194 u195 u196 u197 u198 u199 u200 u201 u202 u203 u204 u205 u206 u207 u208 u209 u210 u211 u212 u213 : Value}
    (hK : ∀ (x6 x13 x14 x15 x16 x136 x137 x138 x139 x140 x141 x142 x143 x144 x145 x146 x147 x148 x149 x150 x151 x152 x153 x154 x155 x156 x157 x158 x159 x160 x161 x162 x163 x164 x165 x166 x167 x168 x169 x170 x171 x172 x173 x174 x175 x176 x177 x178 x179 x180 x181 x182 x183 x184 x185 x186 x187 x188 x189 x190 x191 x192 x193 x194 x195 x196 x197 x198 x199 x200 x201 x202 x203 x204 x205 x206 : Value) (w' : World), (∃ (A' : Option Addr) (c' : Nat) (R' : Nat → Option Addr) (C' : Nat → Nat), x13 = .slice A' k c' ∧ Mat (fun _ => True) w' A' k c' R' l C' (selM k l a rows cols) ∧ Below w3.heap.size w3 w' ∧ Inside n m k l rows cols) → Q (.exit 4) ⟨List.toArray ((.slice (some ⟨b1, o1, none⟩) n c) :: (.slice (some ⟨b2, o2, none⟩) k d) :: (.slice (some ⟨b3, o3, none⟩) l f) :: (u3) :: (u4) :: (u5) :: (x6) :: (u7) :: (u8) :: (u9) :: (u10) :: (u11) :: (u12) :: (x13) :: (x14) :: (x15) :: (x16) :: (u17) :: (u18) :: (u19) :: (u20) :: (u21) :: (u22) :: (u23) :: (u24) :: (u25) :: (u26) :: (u27) :: (u28) :: (u29) :: (u30) :: (u31) :: (u32) :: (u33) :: (u34) :: (u35) :: (u36) :: (u37) :: (u38) :: (u39) :: (u40) :: (u41) :: (u42) :: (u43) :: (u44) :: (u45) :: (u46) :: (u47) :: (u48) :: (u49) :: (u50) :: (u51) :: (u52) :: (u53) :: (u54) :: (u55) :: (u56) :: (u57) :: (u58) :: (u59) :: (u60) :: (u61) :: (u62) :: (u63) :: (u64) :: (u65) :: (u66) :: (u67) :: (u68) :: (u69) :: (u70) :: (u71) :: (u72) :: (u73) :: (u74) :: (u75) :: (u76) :: (u77) :: (u78) :: (u79) :: (u80) :: (u81) :: (u82) :: (u83) :: (u84) :: (u85) :: (u86) :: (u87) :: (u88) :: (u89) :: (u90) :: (u91) :: (u92) :: (u93) :: (u94) :: (u95) :: (u96) :: (u97) :: (u98) :: (u99) :: (u100) :: (u101) :: (u102) :: (u103) :: (u104) :: (u105) :: (u106) :: (u107) :: (u108) :: (u109) :: (u110) :: (u111) :: (u112) :: (u113) :: (u114) :: (u115) :: (u116) :: (u117) :: (u118) :: (u119) :: (u120) :: (u121) :: (u122) :: (u123) :: (u124) :: (u125) :: (u126) :: (u127) :: (u128) :: (u129) :: (u130) :: (u131) :: (u132) :: (u133) :: (u134) :: (u135) :: (x136) :: (x137) :: (x138) :: (x139) :: (x140) :: (x141) :: (x142) :: (x143) :: (x144) :: (x145) :: (x146) :: (x147) :: (x148) :: (x149) :: (x150) :: (x151) :: (x152) :: (x153) :: (x154) :: (x155) :: (x156) :: (x157) :: (x158) :: (x159) :: (x160) :: (x161) :: (x162) :: (x163) :: (x164) :: (x165) :: (x166) :: (x167) :: (x168) :: (x169) :: (x170) :: (x171) :: (x172) :: (x173) :: (x174) :: (x175) :: (x176) :: (x177) :: (x178) :: (x179) :: (x180) :: (x181) :: (x182) :: (x183) :: (x184) :: (x185) :: (x186) :: (x187) :: (x188) :: (x189) :: (x190) :: (x191) :: (x192) :: (x193) :: (x194) :: (x195) :: (x196) :: (x197) :: (x198) :: (x199) :: (x200) :: (x201) :: (x202) :: (x203) :: (x204) :: (x205) :: (x206) :: (u207) :: (u208) :: (u209) :: (u210) :: (u211) :: (u212) :: (u213) :: []), []⟩ w')
    (hR : ∀ (x13 x14 x15 x16 x136 x137 x138 x139 x140 x141 x142 x143 x144 x145 x146 x147 x148 x149 x150 x151 x152 x153 x154 x155 x156 x157 x158 x159 x160 x161 x162 x163 x164 x165 x166 x167 x168 x169 x170 x171 x172 x173 x174 x175 x176 x177 x178 x179 x180 x181 x182 x183 x184 x185 x186 x187 x188 x189 x190 x191 x192 x193 x194 x195 x196 x197 x198 x199 x200 x201 x202 x203 x204 x205 x206 : Value) (w' : World), (¬ Inside n m k l rows cols ∧ Below w3.heap.size w3 w') → Q .ret ⟨List.toArray ((.slice (some ⟨b1, o1, none⟩) n c) :: (.slice (some ⟨b2, o2, none⟩) k d) :: (.slice (some ⟨b3, o3, none⟩) l f) :: (u3) :: (u4) :: (u5) :: (.bool true) :: (u7) :: (u8) :: (u9) :: (u10) :: (u11) :: (u12) :: (x13) :: (x14) :: (x15) :: (x16) :: (u17) :: (u18) :: (u19) :: (u20) :: (u21) :: (u22) :: (u23) :: (u24) :: (u25) :: (u26) :: (u27) :: (u28) :: (u29) :: (u30) :: (u31) :: (u32) :: (u33) :: (u34) :: (u35) :: (u36) :: (u37) :: (u38) :: (u39) :: (u40) :: (u41) :: (u42) :: (u43) :: (u44) :: (u45) :: (u46) :: (u47) :: (u48) :: (u49) :: (u50) :: (u51) :: (u52) :: (u53) :: (u54) :: (u55) :: (u56) :: (u57) :: (u58) :: (u59) :: (u60) :: (u61) :: (u62) :: (u63) :: (u64) :: (u65) :: (u66) :: (u67) :: (u68) :: (u69) :: (u70) :: (u71) :: (u72) :: (u73) :: (u74) :: (u75) :: (u76) :: (u77) :: (u78) :: (u79) :: (u80) :: (u81) :: (u82) :: (u83) :: (u84) :: (u85) :: (u86) :: (u87) :: (u88) :: (u89) :: (u90) :: (u91) :: (u92) :: (u93) :: (u94) :: (u95) :: (u96) :: (u97) :: (u98) :: (u99) :: (u100) :: (u101) :: (u102) :: (u103) :: (u104) :: (u105) :: (u106) :: (u107) :: (u108) :: (u109) :: (u110) :: (u111) :: (u112) :: (u113) :: (u114) :: (u115) :: (u116) :: (u117) :: (u118) :: (u119) :: (u120) :: (u121) :: (u122) :: (u123) :: (u124) :: (u125) :: (u126) :: (u127) :: (u128) :: (u129) :: (u130) :: (u131) :: (u132) :: (u133) :: (u134) :: (u135) :: (x136) :: (x137) :: (x138) :: (x139) :: (x140) :: (x141) :: (x142) :: (x143) :: (x144) :: (x145) :: (x146) :: (x147) :: (x148) :: (x149) :: (x150) :: (x151) :: (x152) :: (x153) :: (x154) :: (x155) :: (x156) :: (x157) :: (x158) :: (x159) :: (x160) :: (x161) :: (x162) :: (x163) :: (x164) :: (x165) :: (x166) :: (x167) :: (x168) :: (x169) :: (x170) :: (x171) :: (x172) :: (x173) :: (x174) :: (x175) :: (x176) :: (x177) :: (x178) :: (x179) :: (x180) :: (x181) :: (x182) :: (x183) :: (x184) :: (x185) :: (x186) :: (x187) :: (x188) :: (x189) :: (x190) :: (x191) :: (x192) :: (x193) :: (x194) :: (x195) :: (x196) :: (x197) :: (x198) :: (x199) :: (x200) :: (x201) :: (x202) :: (x203) :: (x204) :: (x205) :: (x206) :: (u207) :: (u208) :: (u209) :: (u210) :: (u211) :: (u212) :: (u213) :: []), []⟩ w')
    (hv : ¬ Inside n m k l rows cols → u7 = .slice none 0 0 ∧ u8 = .int .i64 2) :
    (piece Try.f9 [1, 1, 1, 1, 1, 1, 1, 1, 1, 1, 0, 1, 0]).wp Try.prog Q ⟨List.toArray ((.slice (some ⟨b1, o1, none⟩) n c) :: (.slice (some ⟨b2, o2, none⟩) k d) :: (.slice (some ⟨b3, o3, none⟩) l f) :: u3 :: u4 :: u5 :: u6 :: u7 :: u8 :: u9 :: u10 :: u11 :: u12 :: (.slice none 0 0) :: (.int .i64 0) :: u15 :: u16 :: u17 :: u18 :: u19 :: u20 :: u21 :: u22 :: u23 :: u24 :: u25 :: u26 :: u27 :: u28 :: u29 :: u30 :: u31 :: u32 :: u33 :: u34 :: u35 :: u36 :: u37 :: u38 :: u39 :: u40 :: u41 :: u42 :: u43 :: u44 :: u45 :: u46 :: u47 :: u48 :: u49 :: u50 :: u51 :: u52 :: u53 :: u54 :: u55 :: u56 :: u57 :: u58 :: u59 :: u60 :: u61 :: u62 :: u63 :: u64 :: u65 :: u66 :: u67 :: u68 :: u69 :: u70 :: u71 :: u72 :: u73 :: u74 :: u75 :: u76 :: u77 :: u78 :: u79 :: u80 :: u81 :: u82 :: u83 :: u84 :: u85 :: u86 :: u87 :: u88 :: u89 :: u90 :: u91 :: u92 :: u93 :: u94 :: u95 :: u96 :: u97 :: u98 :: u99 :: u100 :: u101 :: u102 :: u103 :: u104 :: u105 :: u106 :: u107 :: u108 :: u109 :: u110 :: u111 :: u112 :: u113 :: u114 :: u115 :: u116 :: u117 :: u118 :: u119 :: u120 :: u121 :: u122 :: u123 :: u124 :: u125 :: u126 :: u127 :: u128 :: u129 :: u130 :: u131 :: u132 :: u133 :: u134 :: u135 :: u136 :: u137 :: u138 :: u139 :: u140 :: u141 :: u142 :: u143 :: u144 :: u145 :: u146 :: u147 :: u148 :: u149 :: u150 :: u151 :: u152 :: u153 :: u154 :: u155 :: u156 :: u157 :: u158 :: u159 :: u160 :: u161 :: u162 :: u163 :: u164 :: u165 :: u166 :: u167 :: u168 :: u169 :: u170 :: u171 :: u172 :: u173 :: u174 :: u175 :: u176 :: u177 :: u178 :: u179 :: u180 :: u181 :: u182 :: u183 :: u184 :: u185 :: u186 :: u187 :: u188 :: u189 :: u190 :: u191 :: u192 :: u193 :: u194 :: u195 :: u196 :: u197 :: u198 :: u199 :: u200 :: u201 :: u202 :: u203 :: u204 :: u205 :: u206 :: u207 :: u208 :: u209 :: u210 :: u211 :: u212 :: u213 :: []), []⟩ w3 := by
  conv => arg 2; whnf
  go_loopw [13, 14] (fun v13 x wr => ∃ (i : Nat) (R' : Nat → Option Addr) (L' C' : Nat → Nat), i ≤ k ∧ x = .int .i64 i ∧ OwnA wr w3.heap.size (fun _ => True) v13 i R' L' C' (mrow (selM k l a rows cols)) ∧ Below w3.heap.size w3 wr ∧ (∀ i', i' < i → 0 ≤ nti rows i' ∧ nti rows i' < n) ∧ (0 < i → ∀ j, j < l → 0 ≤ nti cols j ∧ nti cols j < m)) (fun _ x _ => k - (intOf x).toNat)
  case atStart => exact ⟨0, _, _, _, by omega, rfl, (OwnA.start _ _ _).congr fun i hi => absurd hi (Nat.not_lt_zero _), Below.refl _ _, fun _ h => absurd h (Nat.not_lt_zero _), fun h => absurd h (Nat.lt_irrefl 0)⟩
  case round =>
    obtain ⟨i, R', L', C', hi, rfl, ho, hbw, hro, hco⟩ := hrel
    replace hro := Lib.hid hro
    replace hco := Lib.hid hco
    have hsz := hbw.size
    by_cases hlt : i < k
    · go_wp2
      refine ls6 (ha.belowR hbw) (hr.below hbw) (hc.below hbw) n1 l1 l2 k2 hlt (fun x6 x15 x16 x142 x143 x144 x145 x146 x147 x148 x149 x150 x151 x152 x153 x154 x155 x156 x157 x158 x159 x160 x161 x162 x163 x164 x165 x166 x167 x168 x169 x170 x171 x172 x173 x174 x175 x176 x177 x178 x179 x180 x181 x182 x183 x184 x185 x186 x187 x188 x189 x190 x191 x192 x193 x194 x195 x196 x197 x198 x199 x200 x201 x202 w4 h4 => ?_) (fun x15 x16 x142 x143 x144 x145 x146 x147 x148 x149 x150 x151 x152 x153 x154 x155 x156 x157 x158 x159 x160 x161 x162 x163 x164 x165 x166 x167 x168 x169 x170 x171 x172 x173 x174 x175 x176 x177 x178 x179 x180 x181 x182 x183 x184 x185 x186 x187 x188 x189 x190 x191 x192 x193 x194 x195 x196 x197 x198 x199 x200 x201 x202 w4 h4 => ?_) hv
      · obtain ⟨A2, c2, rfl, hby, hb4, hz, hcols⟩ := h4
        replace hz := Lib.hid hz
        replace hcols := Lib.hid hcols
        have ho1 := ho.below hb4
        have hsz4 := hb4.size
        go_wp2_with (at_builtin; refine wpl_append1 rfl (s := .tmp 203) (x := .tmp 205) rfl Try.underlying22 info28 rfl rfl ho1.own rfl rfl (by unfold maxLen; omega) (by omega) (by omega) ?_; intro v2 w2 hown2 hgr2 hne2)
        go_roundw
        case rel =>
          exact ⟨i + 1, _, _, _, by omega, by go_num, (ho1.push (hby.mono fun b _ hb => ⟨trivial, own_new_ne ho.own hb⟩) hown2 hgr2 hne2).congr fun j _ => by by_cases e : j = i <;> simp [e], (below_then hbw hsz hb4).grown hgr2 (by omega) (own_ge ho1.own), fun i' hi' => by
            rcases Nat.lt_succ_iff_lt_or_eq.1 hi' with h | rfl
            · exact hro.out i' h
            · exact hz.out, fun _ => hcols.out⟩
        case measure => simp [intOf]; omega
      · (try simp only [Exit.inBlock, Exit.then])
        apply hR
        exact ⟨h4.1, below_then hbw hsz h4.2⟩
    · obtain rfl : i = k := by omega
      have hin : Inside n m i l rows cols := ⟨hro.out, hco.out (by omega)⟩
      obtain ⟨A', c', rfl, hr'⟩ := ho.rag (mkm_length _ _ _) (fun _ _ => rfl)
      go_wp2
      apply hK
      refine ⟨A', c', R', C', rfl, hr'.mat fun j hj => ?_, hbw, hin⟩
      try unfold selM
      rw [mrow_mkm _ hj, mkr_length]

section
variable {p q r : Nat → Prop} {w : World} {A B X : Option Addr} {n c k d l f m : Nat} {R S : Nat → Option Addr} {L K C D : Nat → Nat} {x : List F} {a b : List (List F)} {rows cols : List Int}

set_option maxRecDepth 100000 in
set_option maxHeartbeats 4000000 in
theorem law9_s1 (ha : Rag p w A n c R L C a) (hr : Ints q w B k d rows) (hc : Ints r w X l f cols) (hs : small a = false) : Calls Try.prog 9 #[.slice A n c, .slice B k d, .slice X l f] w fun e w' => e = .returned (.bool true) ∧ Below w.heap.size w w' := by
  go_enter Try.func9, Try.ntmps9
  go_wp2_with (first | (go_at_call 27; (with_reducible refine (awake_any _).mono ?_); rintro e w1 ⟨rfl, hb1⟩; have ha1 := ha.belowR hb1; have hr1 := hr.below hb1; have hc1 := hc.below hb1) | (go_at_call 28; (with_reducible refine (small_any ha1).mono ?_); rw [hs]; rintro e w2 ⟨rfl, rfl⟩))
  all_goals (go_ret; exact ⟨by simp, hb1⟩)

set_option maxRecDepth 100000 in
set_option maxHeartbeats 4000000 in
theorem law9_s2 (ha : Rag p w A n c R L C a) (hr : Ints q w B k d rows) (hc : Ints r w X l f cols) (hs : small a = true) (h : 70 < k) : Calls Try.prog 9 #[.slice A n c, .slice B k d, .slice X l f] w fun e w' => e = .returned (.bool true) ∧ Below w.heap.size w w' := by
  go_enter Try.func9, Try.ntmps9
  go_wp2_with (first | (go_at_call 27; (with_reducible refine (awake_any _).mono ?_); rintro e w1 ⟨rfl, hb1⟩; have ha1 := ha.belowR hb1; have hr1 := hr.below hb1; have hc1 := hc.below hb1) | (go_at_call 28; (with_reducible refine (small_any ha1).mono ?_); rw [hs]; rintro e w2 ⟨rfl, rfl⟩))
  all_goals (go_ret; exact ⟨by simp, hb1⟩)

set_option maxRecDepth 100000 in
set_option maxHeartbeats 4000000 in
theorem law9_s3 (ha : Rag p w A n c R L C a) (hr : Ints q w B k d rows) (hc : Ints r w X l f cols) (hs : small a = true) (h : 70 < l) : Calls Try.prog 9 #[.slice A n c, .slice B k d, .slice X l f] w fun e w' => e = .returned (.bool true) ∧ Below w.heap.size w w' := by
  by_cases hk : 70 < k
  · exact law9_s2 ha hr hc hs hk
  go_enter Try.func9, Try.ntmps9
  go_wp2_with (first | (go_at_call 27; (with_reducible refine (awake_any _).mono ?_); rintro e w1 ⟨rfl, hb1⟩; have ha1 := ha.belowR hb1; have hr1 := hr.below hb1; have hc1 := hc.below hb1) | (go_at_call 28; (with_reducible refine (small_any ha1).mono ?_); rw [hs]; rintro e w2 ⟨rfl, rfl⟩))
  all_goals (go_ret; exact ⟨by simp, hb1⟩)

set_option maxRecDepth 100000 in
set_option maxHeartbeats 4000000 in
theorem law9_bad (ha : Rag p w A n c R L C a) (hr : Ints q w B k d rows) (hc : Ints r w X l f cols) (hs : small a = true) (hk : k ≤ 70) (hl : l ≤ 70) (v : ¬ Valid a) (hv : valid a = false) : Calls Try.prog 9 #[.slice A n c, .slice B k d, .slice X l f] w fun e w' => e = .returned (.bool true) ∧ Below w.heap.size w w' := by
  go_enter Try.func9, Try.ntmps9
  go_wp2_with (first | (go_at_call 27; (with_reducible refine (awake_any _).mono ?_); rintro e w1 ⟨rfl, hb1⟩; have ha1 := ha.belowR hb1; have hr1 := hr.below hb1; have hc1 := hc.below hb1) | (go_at_call 28; (with_reducible refine (small_any ha1).mono ?_); rw [hs]; rintro e w2 ⟨rfl, rfl⟩) | (go_at_call 47; (with_reducible refine (select_bad ha1 hk hl (fun h => absurd h.1 v)).mono ?_); rintro e w2 ⟨rfl, rfl⟩) | (go_at_call 41; (with_reducible refine (transpose_bad ha1 v).mono ?_); rintro e w2 ⟨rfl, rfl⟩) | (go_at_call 30; (with_reducible refine (refvalid_any ha1).mono ?_); rw [hv]; rintro e w3 ⟨rfl, nd, rfl⟩; have hB3 := below_drewN hb1 nd))
  all_goals (go_ret; exact ⟨by simp, hB3⟩)

set_option maxRecDepth 100000 in
set_option maxHeartbeats 4000000 in
theorem law9_range {b1 o1 : Nat} (ha : Rag p w (some ⟨b1, o1, none⟩) n c R L C a) (hm : Mat p w (some ⟨b1, o1, none⟩) n c R m C a) (hr : Ints q w B k d rows) (hc : Ints r w X l f cols) (hs : small a = true) (v : Valid a) (hv : valid a = true) (hk : k ≤ 70) (hl : l ≤ 70) (n1 : 0 < n) (m1 : 0 < m) (hlt1 : b1 < w.heap.size) (e1 : w.cell? ⟨b1, o1, none⟩ = some (.slice (R 0) m (C 0))) (hbad : ¬ (Valid a ∧ 1 ≤ k ∧ k ≤ 64 ∧ 1 ≤ l ∧ l ≤ 64)) (hor : k < 1 ∨ (1 ≤ k ∧ 64 < k) ∨ (1 ≤ k ∧ k ≤ 64 ∧ l < 1) ∨ (1 ≤ k ∧ k ≤ 64 ∧ 1 ≤ l ∧ 64 < l)) : Calls Try.prog 9 #[.slice (some ⟨b1, o1, none⟩) n c, .slice B k d, .slice X l f] w fun e w' => e = .returned (.bool true) ∧ Below w.heap.size w w' := by
  replace hor := Lib.hid hor
  go_enter Try.func9, Try.ntmps9
  go_wp2_with (first | (go_at_call 27; (with_reducible refine (awake_any _).mono ?_); rintro e w1 ⟨rfl, hb1⟩; have ha1 := ha.belowR hb1; have hm1 := hm.belowR hb1; have hr1 := hr.below hb1; have hc1 := hc.below hb1) | (go_at_call 28; (with_reducible refine (small_any ha1).mono ?_); rw [hs]; rintro e w2 ⟨rfl, rfl⟩) | (go_at_call 47; (with_reducible refine (select_bad ha1 hk hl hbad).mono ?_); rintro e w2 ⟨rfl, rfl⟩; have hB2 := hb1; have ha2 := ha1; have hm2 := hm1) | (go_at_call 41; (with_reducible refine (transpose_ok hm2 v).mono ?_); rintro e w3 ⟨g3, R3, C3, rfl, ht3, hb3⟩; have hB3 := below_then2 hB2 hb3; have ha3 := ha2.belowR hb3; have hm3 := hm2.belowR hb3; skip) | (go_at_call 30; (with_reducible refine (refvalid_any ha3).mono ?_); rw [hv]; rintro e w4 ⟨rfl, nd, rfl⟩; have hB4 := below_drewN hB3 nd; have hm4 := hm3.drewN nd; have ht4 := ht3.drewN nd; have f4 := (hB4.cell (p := ⟨b1, o1, none⟩) hlt1).trans e1))
  refine ls0 hm4 ht4 (fun x6 x11 x12 x74 x75 x76 x77 x78 x79 x80 x81 x82 x83 x84 x85 x86 x87 x88 x89 x90 x91 x92 x93 x94 x95 x96 x97 x98 x99 x100 x101 x102 x103 x104 x105 x106 x107 x108 x109 x110 w5 h5 => ?_)
  obtain ⟨nd2, rfl⟩ := h5
  have hB5 := below_drewN hB3 (nd + nd2)
  rcases hor.out with h | ⟨h, h2⟩ | ⟨h, h2, h3⟩ | ⟨h, h2, h3, h4⟩
  all_goals (go_wp2; go_ret; exact ⟨by simp, hB5⟩)

set_option maxRecDepth 100000 in
set_option maxHeartbeats 4000000 in
theorem law9_in {b2 o2 b3 o3 : Nat} {b1 o1 : Nat} (ha : Rag p w (some ⟨b1, o1, none⟩) n c R L C a) (hm : Mat p w (some ⟨b1, o1, none⟩) n c R m C a) (hr : Ints q w (some ⟨b2, o2, none⟩) k d rows) (hc : Ints r w (some ⟨b3, o3, none⟩) l f cols) (hs : small a = true) (v : Valid a) (hv : valid a = true) (hk : k ≤ 70) (hl : l ≤ 70) (n1 : 0 < n) (m1 : 0 < m) (hlt1 : b1 < w.heap.size) (e1 : w.cell? ⟨b1, o1, none⟩ = some (.slice (R 0) m (C 0))) (k1 : 1 ≤ k) (k2 : k ≤ 64) (l1 : 1 ≤ l) (l2 : l ≤ 64) (hin : Inside n m k l rows cols) : Calls Try.prog 9 #[.slice (some ⟨b1, o1, none⟩) n c, .slice (some ⟨b2, o2, none⟩) k d, .slice (some ⟨b3, o3, none⟩) l f] w fun e w' => e = .returned (.bool true) ∧ Below w.heap.size w w' := by
  go_enter Try.func9, Try.ntmps9
  go_wp2_with (first | (go_at_call 27; (with_reducible refine (awake_any _).mono ?_); rintro e w1 ⟨rfl, hb1⟩; have ha1 := ha.belowR hb1; have hm1 := hm.belowR hb1; have hr1 := hr.below hb1; have hc1 := hc.below hb1) | (go_at_call 28; (with_reducible refine (small_any ha1).mono ?_); rw [hs]; rintro e w2 ⟨rfl, rfl⟩) | (go_at_call 47; (with_reducible refine (select_ok hm1 hr1 hc1 v k1 k2 l1 l2).mono ?_); rintro e w2 ⟨hb2, _, h2⟩; obtain ⟨g2, R2, C2, rfl, hs2⟩ := h2 hin; clear h2; have hB2 := below_then2 hb1 hb2; have ha2 := ha1.belowR hb2; have hm2 := hm1.belowR hb2; have hr2 := hr1.below hb2; have hc2 := hc1.below hb2) | (go_at_call 41; (with_reducible refine (transpose_ok hm2 v).mono ?_); rintro e w3 ⟨g3, R3, C3, rfl, ht3, hb3⟩; have hB3 := below_then2 hB2 hb3; have ha3 := ha2.belowR hb3; have hm3 := hm2.belowR hb3; have hr3 := hr2.below hb3; have hc3 := hc2.below hb3; have hs3 := hs2.belowR hb3) | (go_at_call 30; (with_reducible refine (refvalid_any ha3).mono ?_); rw [hv]; rintro e w4 ⟨rfl, nd, rfl⟩; have hB4 := below_drewN hB3 nd; have hm4 := hm3.drewN nd; have ht4 := ht3.drewN nd; have f4 := (hB4.cell (p := ⟨b1, o1, none⟩) hlt1).trans e1))
  refine ls0 hm4 ht4 (fun x6 x11 x12 x74 x75 x76 x77 x78 x79 x80 x81 x82 x83 x84 x85 x86 x87 x88 x89 x90 x91 x92 x93 x94 x95 x96 x97 x98 x99 x100 x101 x102 x103 x104 x105 x106 x107 x108 x109 x110 w5 h5 => ?_)
  obtain ⟨nd2, rfl⟩ := h5
  have hB5 := below_drewN hB3 (nd + nd2)
  go_wp2
  refine ls4 (hm3.drewN (nd + nd2)) (hr3.drewN (nd + nd2)) (hc3.drewN (nd + nd2)) n1 l1 l2 k2 k1 (fun x6 x13 x14 x15 x16 x136 x137 x138 x139 x140 x141 x142 x143 x144 x145 x146 x147 x148 x149 x150 x151 x152 x153 x154 x155 x156 x157 x158 x159 x160 x161 x162 x163 x164 x165 x166 x167 x168 x169 x170 x171 x172 x173 x174 x175 x176 x177 x178 x179 x180 x181 x182 x183 x184 x185 x186 x187 x188 x189 x190 x191 x192 x193 x194 x195 x196 x197 x198 x199 x200 x201 x202 x203 x204 x205 x206 w6 h6 => ?_) (fun x13 x14 x15 x16 x136 x137 x138 x139 x140 x141 x142 x143 x144 x145 x146 x147 x148 x149 x150 x151 x152 x153 x154 x155 x156 x157 x158 x159 x160 x161 x162 x163 x164 x165 x166 x167 x168 x169 x170 x171 x172 x173 x174 x175 x176 x177 x178 x179 x180 x181 x182 x183 x184 x185 x186 x187 x188 x189 x190 x191 x192 x193 x194 x195 x196 x197 x198 x199 x200 x201 x202 x203 x204 x205 x206 w6 h6 => ?_) (fun h => absurd hin h)
  · obtain ⟨A6, c6, R6, C6, rfl, hm6, hb6, _⟩ := h6
    have hB6 := below_then2 hB5 hb6
    have hs6 := (hs3.drewN (nd + nd2)).belowR hb6
    go_wp2_with (go_at_call 32; (with_reducible refine (same_any hs6.rag hm6.rag).mono ?_); rw [show decide (selM k l a rows cols = selM k l a rows cols) = true from decide_eq_true rfl]; rintro e w7 ⟨rfl, nd3, rfl⟩; have hB7 := below_drewN hB6 nd3)
    go_ret
    exact ⟨by simp, hB7⟩
  · exact absurd hin h6.1

set_option maxRecDepth 100000 in
set_option maxHeartbeats 4000000 in
theorem law9_out {b2 o2 b3 o3 : Nat} {b1 o1 : Nat} (ha : Rag p w (some ⟨b1, o1, none⟩) n c R L C a) (hm : Mat p w (some ⟨b1, o1, none⟩) n c R m C a) (hr : Ints q w (some ⟨b2, o2, none⟩) k d rows) (hc : Ints r w (some ⟨b3, o3, none⟩) l f cols) (hs : small a = true) (v : Valid a) (hv : valid a = true) (hk : k ≤ 70) (hl : l ≤ 70) (n1 : 0 < n) (m1 : 0 < m) (hlt1 : b1 < w.heap.size) (e1 : w.cell? ⟨b1, o1, none⟩ = some (.slice (R 0) m (C 0))) (k1 : 1 ≤ k) (k2 : k ≤ 64) (l1 : 1 ≤ l) (l2 : l ≤ 64) (hin : ¬ Inside n m k l rows cols) : Calls Try.prog 9 #[.slice (some ⟨b1, o1, none⟩) n c, .slice (some ⟨b2, o2, none⟩) k d, .slice (some ⟨b3, o3, none⟩) l f] w fun e w' => e = .returned (.bool true) ∧ Below w.heap.size w w' := by
  go_enter Try.func9, Try.ntmps9
  go_wp2_with (first | (go_at_call 27; (with_reducible refine (awake_any _).mono ?_); rintro e w1 ⟨rfl, hb1⟩; have ha1 := ha.belowR hb1; have hm1 := hm.belowR hb1; have hr1 := hr.below hb1; have hc1 := hc.below hb1) | (go_at_call 28; (with_reducible refine (small_any ha1).mono ?_); rw [hs]; rintro e w2 ⟨rfl, rfl⟩) | (go_at_call 47; (with_reducible refine (select_ok hm1 hr1 hc1 v k1 k2 l1 l2).mono ?_); rintro e w2 ⟨hb2, h2, _⟩; obtain rfl := h2 hin; have hB2 := below_then2 hb1 hb2; have ha2 := ha1.belowR hb2; have hm2 := hm1.belowR hb2; have hr2 := hr1.below hb2; have hc2 := hc1.below hb2) | (go_at_call 41; (with_reducible refine (transpose_ok hm2 v).mono ?_); rintro e w3 ⟨g3, R3, C3, rfl, ht3, hb3⟩; have hB3 := below_then2 hB2 hb3; have ha3 := ha2.belowR hb3; have hm3 := hm2.belowR hb3; have hr3 := hr2.below hb3; have hc3 := hc2.below hb3) | (go_at_call 30; (with_reducible refine (refvalid_any ha3).mono ?_); rw [hv]; rintro e w4 ⟨rfl, nd, rfl⟩; have hB4 := below_drewN hB3 nd; have hm4 := hm3.drewN nd; have ht4 := ht3.drewN nd; have f4 := (hB4.cell (p := ⟨b1, o1, none⟩) hlt1).trans e1))
  refine ls0 hm4 ht4 (fun x6 x11 x12 x74 x75 x76 x77 x78 x79 x80 x81 x82 x83 x84 x85 x86 x87 x88 x89 x90 x91 x92 x93 x94 x95 x96 x97 x98 x99 x100 x101 x102 x103 x104 x105 x106 x107 x108 x109 x110 w5 h5 => ?_)
  obtain ⟨nd2, rfl⟩ := h5
  have hB5 := below_drewN hB3 (nd + nd2)
  go_wp2
  refine ls4 (hm3.drewN (nd + nd2)) (hr3.drewN (nd + nd2)) (hc3.drewN (nd + nd2)) n1 l1 l2 k2 k1 (fun x6 x13 x14 x15 x16 x136 x137 x138 x139 x140 x141 x142 x143 x144 x145 x146 x147 x148 x149 x150 x151 x152 x153 x154 x155 x156 x157 x158 x159 x160 x161 x162 x163 x164 x165 x166 x167 x168 x169 x170 x171 x172 x173 x174 x175 x176 x177 x178 x179 x180 x181 x182 x183 x184 x185 x186 x187 x188 x189 x190 x191 x192 x193 x194 x195 x196 x197 x198 x199 x200 x201 x202 x203 x204 x205 x206 w6 h6 => ?_) (fun x13 x14 x15 x16 x136 x137 x138 x139 x140 x141 x142 x143 x144 x145 x146 x147 x148 x149 x150 x151 x152 x153 x154 x155 x156 x157 x158 x159 x160 x161 x162 x163 x164 x165 x166 x167 x168 x169 x170 x171 x172 x173 x174 x175 x176 x177 x178 x179 x180 x181 x182 x183 x184 x185 x186 x187 x188 x189 x190 x191 x192 x193 x194 x195 x196 x197 x198 x199 x200 x201 x202 x203 x204 x205 x206 w6 h6 => ?_) (fun _ => ⟨rfl, rfl⟩)
  · obtain ⟨_, _, _, _, _, _, _, h⟩ := h6
    exact absurd h hin
  · have hB6 := below_then2 hB5 h6.2
    go_ret
    exact ⟨rfl, hB6⟩

theorem law9 (ha : Rag p w A n c R L C a) (hr : Ints q w B k d rows) (hc : Ints r w X l f cols) : Calls Try.prog 9 #[.slice A n c, .slice B k d, .slice X l f] w fun e w' => e = .returned (.bool true) ∧ Below w.heap.size w w' := by
  cases hs : small a with
  | false => exact law9_s1 ha hr hc hs
  | true =>
  by_cases hk : 70 < k
  · exact law9_s2 ha hr hc hs hk
  by_cases hl : 70 < l
  · exact law9_s3 ha hr hc hs hl
  have hk' : k ≤ 70 := by omega
  have hl' : l ≤ 70 := by omega
  by_cases v : Valid a
  case neg => exact law9_bad ha hr hc hs hk' hl' v (by simpa [valid] using v)
  have hv : valid a = true := decide_eq_true v
  obtain ⟨hm, r1, r2, r3, r4, hd, h0⟩ := ha.valid_mat v
  obtain ⟨b1, o1, rfl, _, hlt1, hc1⟩ := ha.row.at_ (by omega)
  have e1 : w.cell? ⟨b1, o1, none⟩ = some (.slice (R 0) (L 0) (C 0)) := hc1 0 (by omega)
  by_cases hin : 1 ≤ k ∧ k ≤ 64 ∧ 1 ≤ l ∧ l ≤ 64
  · obtain ⟨k1, k2, l1, l2⟩ := hin
    obtain ⟨b2, o2, rfl, _⟩ := hr.row.at_ (by omega)
    obtain ⟨b3, o3, rfl, _⟩ := hc.row.at_ (by omega)
    by_cases hI : Inside n (L 0) k l rows cols
    · exact law9_in ha hm hr hc hs v hv hk' hl' (by omega) (by omega) hlt1 e1 k1 k2 l1 l2 hI
    · exact law9_out ha hm hr hc hs v hv hk' hl' (by omega) (by omega) hlt1 e1 k1 k2 l1 l2 hI
  · exact law9_range ha hm hr hc hs v hv hk' hl' (by omega) (by omega) hlt1 e1 (fun h => hin h.2) (by omega)
end
end Go.Proofs.Ytifhjigkljdkmaa
