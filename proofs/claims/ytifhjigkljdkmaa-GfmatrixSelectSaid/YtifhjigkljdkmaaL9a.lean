/- The law function GfmatrixSelect returns true. -/
import Derived.Test.YtifhjigkljdkmaaSe
namespace Go.Proofs.Ytifhjigkljdkmaa
open Go.RowKit
open Gf (F)
set_option linter.unusedSimpArgs false
set_option linter.unusedVariables false

set_option maxRecDepth 100000 in
set_option maxHeartbeats 4000000 in
theorem ls2 {Q : Exit → Act → World → Prop} {p q : Nat → Prop} {w3 : World} {b1 o1 g n c m i : Nat} {R S : Nat → Option Addr} {C D : Nat → Nat} {a : List (List F)} (ha : Mat p w3 (some ⟨b1, o1, none⟩) n c R m C a) (ht : Mat q w3 (some ⟨g, 0, none⟩) m m S n D (trM n m a)) (hi : i < m)
    {u1 u2 u3 u4 u5 u6 u7 u8 u10 u13 u14 u15 u16 u17 u18 u19 u20 u21 u22 u23 u24 u25 u26 u27 u28 u29 u30 u31 u32 u33 u34 u35 u36 u37 u38 u39 u40 u41 u42 u43 u44 u45 u46 u47 u48 u49 u50 u51 u52 u53 u54 u55 u56 u57 u58 u59 u60 u61 u62 u63 u64 u65 u66 u67 u68 u69 u70 u71 u72 u73 u74 u75 u76 u77 u78 u79 u80 u81 u82 u83 u84 u85 u86 u87 u88 u89 u90 u91 u92 u93 u94 u95 u96 u97 u98 u99 u100 u101 u102 u103 u104 u105 u106 u107 u108 u109 u110 u111 u112 u113 u114 u115 u116 u117 u118 u119 u120 u121 u122 u123 u124 u125 u126 u127 u128 u129 u130 u131 u132 u133 u134 u135 u136 u137 u138 u139 u140 u141 u142 u143 u144 u145 u146 u147 u148 u149 u150 u151 u152 u153 u154 u155 u156 u157 u158 u159 u160 u161 u162 u163 u164 u165 u166 u167 u168 u169 u170 u171 u172 u173 u174 u175 u176 u177 u178 u179 u180 u181 u182 u183 u184 u185 u186 u187 u188 u189 u190 u191 u192 u193 u194 u195 u196 u197 u198 u199 u200 u201 u202 u203 u204 u205 u206 u207 u208 u209 u210 u211 u212 u213 : Value}
    (hK : ∀ (x6 x12 x80 x81 x82 x83 x84 x85 x86 x87 x88 x89 x90 x91 x92 x93 x94 x95 x96 x97 x98 x99 x100 x101 x102 x103 x104 x105 x106 x107 x108 x109 x110 : Value) (w' : World), (∃ nd, w' = w3.drewN nd) → Q (.exit 2) ⟨List.toArray ((.slice (some ⟨b1, o1, none⟩) n c) :: (u1) :: (u2) :: (u3) :: (u4) :: (u5) :: (x6) :: (u7) :: (u8) :: (.slice (some ⟨g, 0, none⟩) m m) :: (u10) :: (.int .i64 (i : Int)) :: (x12) :: (u13) :: (u14) :: (u15) :: (u16) :: (u17) :: (u18) :: (u19) :: (u20) :: (u21) :: (u22) :: (u23) :: (u24) :: (u25) :: (u26) :: (u27) :: (u28) :: (u29) :: (u30) :: (u31) :: (u32) :: (u33) :: (u34) :: (u35) :: (u36) :: (u37) :: (u38) :: (u39) :: (u40) :: (u41) :: (u42) :: (u43) :: (u44) :: (u45) :: (u46) :: (u47) :: (u48) :: (u49) :: (u50) :: (u51) :: (u52) :: (u53) :: (u54) :: (u55) :: (u56) :: (u57) :: (u58) :: (u59) :: (u60) :: (u61) :: (u62) :: (u63) :: (u64) :: (u65) :: (u66) :: (u67) :: (u68) :: (u69) :: (u70) :: (u71) :: (u72) :: (u73) :: (u74) :: (u75) :: (u76) :: (u77) :: (u78) :: (u79) :: (x80) :: (x81) :: (x82) :: (x83) :: (x84) :: (x85) :: (x86) :: (x87) :: (x88) :: (x89) :: (x90) :: (x91) :: (x92) :: (x93) :: (x94) :: (x95) :: (x96) :: (x97) :: (x98) :: (x99) :: (x100) :: (x101) :: (x102) :: (x103) :: (x104) :: (x105) :: (x106) :: (x107) :: (x108) :: (x109) :: (x110) :: (u111) :: (u112) :: (u113) :: (u114) :: (u115) :: (u116) :: (u117) :: (u118) :: (u119) :: (u120) :: (u121) :: (u122) :: (u123) :: (u124) :: (u125) :: (u126) :: (u127) :: (u128) :: (u129) :: (u130) :: (u131) :: (u132) :: (u133) :: (u134) :: (u135) :: (u136) :: (u137) :: (u138) :: (u139) :: (u140) :: (u141) :: (u142) :: (u143) :: (u144) :: (u145) :: (u146) :: (u147) :: (u148) :: (u149) :: (u150) :: (u151) :: (u152) :: (u153) :: (u154) :: (u155) :: (u156) :: (u157) :: (u158) :: (u159) :: (u160) :: (u161) :: (u162) :: (u163) :: (u164) :: (u165) :: (u166) :: (u167) :: (u168) :: (u169) :: (u170) :: (u171) :: (u172) :: (u173) :: (u174) :: (u175) :: (u176) :: (u177) :: (u178) :: (u179) :: (u180) :: (u181) :: (u182) :: (u183) :: (u184) :: (u185) :: (u186) :: (u187) :: (u188) :: (u189) :: (u190) :: (u191) :: (u192) :: (u193) :: (u194) :: (u195) :: (u196) :: (u197) :: (u198) :: (u199) :: (u200) :: (u201) :: (u202) :: (u203) :: (u204) :: (u205) :: (u206) :: (u207) :: (u208) :: (u209) :: (u210) :: (u211) :: (u212) :: (u213) :: []), []⟩ w') :
    (piece Try.f9 [1, 1, 1, 1, 1, 1, 1, 0, 1, 0, 0, 1, 0, 0, 1, 0]).wp Try.prog Q ⟨List.toArray ((.slice (some ⟨b1, o1, none⟩) n c) :: u1 :: u2 :: u3 :: u4 :: u5 :: u6 :: u7 :: u8 :: (.slice (some ⟨g, 0, none⟩) m m) :: u10 :: (.int .i64 (i : Int)) :: (.int .i64 0) :: u13 :: u14 :: u15 :: u16 :: u17 :: u18 :: u19 :: u20 :: u21 :: u22 :: u23 :: u24 :: u25 :: u26 :: u27 :: u28 :: u29 :: u30 :: u31 :: u32 :: u33 :: u34 :: u35 :: u36 :: u37 :: u38 :: u39 :: u40 :: u41 :: u42 :: u43 :: u44 :: u45 :: u46 :: u47 :: u48 :: u49 :: u50 :: u51 :: u52 :: u53 :: u54 :: u55 :: u56 :: u57 :: u58 :: u59 :: u60 :: u61 :: u62 :: u63 :: u64 :: u65 :: u66 :: u67 :: u68 :: u69 :: u70 :: u71 :: u72 :: u73 :: u74 :: u75 :: u76 :: u77 :: u78 :: u79 :: u80 :: u81 :: u82 :: u83 :: u84 :: u85 :: u86 :: u87 :: u88 :: u89 :: u90 :: u91 :: u92 :: u93 :: u94 :: u95 :: u96 :: u97 :: u98 :: u99 :: u100 :: u101 :: u102 :: u103 :: u104 :: u105 :: u106 :: u107 :: u108 :: u109 :: u110 :: u111 :: u112 :: u113 :: u114 :: u115 :: u116 :: u117 :: u118 :: u119 :: u120 :: u121 :: u122 :: u123 :: u124 :: u125 :: u126 :: u127 :: u128 :: u129 :: u130 :: u131 :: u132 :: u133 :: u134 :: u135 :: u136 :: u137 :: u138 :: u139 :: u140 :: u141 :: u142 :: u143 :: u144 :: u145 :: u146 :: u147 :: u148 :: u149 :: u150 :: u151 :: u152 :: u153 :: u154 :: u155 :: u156 :: u157 :: u158 :: u159 :: u160 :: u161 :: u162 :: u163 :: u164 :: u165 :: u166 :: u167 :: u168 :: u169 :: u170 :: u171 :: u172 :: u173 :: u174 :: u175 :: u176 :: u177 :: u178 :: u179 :: u180 :: u181 :: u182 :: u183 :: u184 :: u185 :: u186 :: u187 :: u188 :: u189 :: u190 :: u191 :: u192 :: u193 :: u194 :: u195 :: u196 :: u197 :: u198 :: u199 :: u200 :: u201 :: u202 :: u203 :: u204 :: u205 :: u206 :: u207 :: u208 :: u209 :: u210 :: u211 :: u212 :: u213 :: []), []⟩ w3 := by
  conv => arg 2; whnf
  have hn63 := ha.row.len
  go_loopw [12] (fun x wr => ∃ j nd : Nat, j ≤ n ∧ x = .int .i64 j ∧ wr = w3.drewN nd) (fun x _ => n - (intOf x).toNat)
  case atStart => exact ⟨0, 0, by omega, rfl, rfl⟩
  case round =>
    obtain ⟨j, nd, hj, rfl, rfl⟩ := hrel
    by_cases hlt : j < n
    · obtain ⟨_, _, e0, _, _, hc1⟩ := ha.row.at_ (by omega)
      cases e0
      obtain ⟨_, _, e0, _, _, hc2⟩ := ht.row.at_ (by omega)
      cases e0
      obtain ⟨b3, o3, e3, _, hlt3, hc3⟩ := (ha.rows j hlt).at_ (by omega)
      obtain ⟨b4, o4, e4, _, hlt4, hc4⟩ := (ht.rows i hi).at_ (by omega)
      have f1 := hc1 j hlt
      rw [e3] at f1
      have f2 : w3.cell? ⟨g, i, none⟩ = some (.slice (S i) n (D i)) := by have := hc2 i hi; rw [Nat.zero_add] at this; exact this
      rw [e4] at f2
      have f3 := hc3 i hi
      have f4 := hc4 j hlt
      have he : nth (mrow (trM n m a) i) j = nth (mrow a j) i := by unfold trM; rw [mrow_mkm _ hi, nth_mkr _ hlt]; rfl
      rw [he] at f4
      replace e3 := Lib.hid e3
      replace e4 := Lib.hid e4
      clear hc1 hc2 hc3 hc4 he
      have c1 : (0 : Int) ≤ (i : Int) := Int.natCast_nonneg _
      have c2 : (i : Int) < (m : Int) := by omega
      have c3 : (0 : Int) ≤ (j : Int) := Int.natCast_nonneg _
      have c4 : (j : Int) < (n : Int) := by omega
      go_wp2
      go_quiet (fail)
      go_wp2
      go_roundw
      case rel => exact ⟨j + 1, _, by omega, by go_num, rfl⟩
      case measure => simp [intOf]; omega
    · obtain rfl : j = n := by omega
      go_wp2
      exact ⟨nd, rfl⟩

set_option maxRecDepth 100000 in
set_option maxHeartbeats 4000000 in
theorem ls0 {Q : Exit → Act → World → Prop} {p q : Nat → Prop} {w3 : World} {b1 o1 g n c m : Nat} {R S : Nat → Option Addr} {C D : Nat → Nat} {a : List (List F)} (ha : Mat p w3 (some ⟨b1, o1, none⟩) n c R m C a) (ht : Mat q w3 (some ⟨g, 0, none⟩) m m S n D (trM n m a))
    {u1 u2 u3 u4 u5 u6 u7 u8 u10 u12 u13 u14 u15 u16 u17 u18 u19 u20 u21 u22 u23 u24 u25 u26 u27 u28 u29 u30 u31 u32 u33 u34 u35 u36 u37 u38 u39 u40 u41 u42 u43 u44 u45 u46 u47 u48 u49 u50 u51 u52 u53 u54 u55 u56 u57 u58 u59 u60 u61 u62 u63 u64 u65 u66 u67 u68 u69 u70 u71 u72 u73 u74 u75 u76 u77 u78 u79 u80 u81 u82 u83 u84 u85 u86 u87 u88 u89 u90 u91 u92 u93 u94 u95 u96 u97 u98 u99 u100 u101 u102 u103 u104 u105 u106 u107 u108 u109 u110 u111 u112 u113 u114 u115 u116 u117 u118 u119 u120 u121 u122 u123 u124 u125 u126 u127 u128 u129 u130 u131 u132 u133 u134 u135 u136 u137 u138 u139 u140 u141 u142 u143 u144 u145 u146 u147 u148 u149 u150 u151 u152 u153 u154 u155 u156 u157 u158 u159 u160 u161 u162 u163 u164 u165 u166 u167 u168 u169 u170 u171 u172 u173 u174 u175 u176 u177 u178 u179 u180 u181 u182 u183 u184 u185 u186 u187 u188 u189 u190 u191 u192 u193 u194 u195 u196 u197 u198 u199 u200 u201 u202 u203 u204 u205 u206 u207 u208 u209 u210 u211 u212 u213 : Value}
    (hK : ∀ (x6 x11 x12 x74 x75 x76 x77 x78 x79 x80 x81 x82 x83 x84 x85 x86 x87 x88 x89 x90 x91 x92 x93 x94 x95 x96 x97 x98 x99 x100 x101 x102 x103 x104 x105 x106 x107 x108 x109 x110 : Value) (w' : World), (∃ nd, w' = w3.drewN nd) → Q (.exit 0) ⟨List.toArray ((.slice (some ⟨b1, o1, none⟩) n c) :: (u1) :: (u2) :: (u3) :: (u4) :: (u5) :: (x6) :: (u7) :: (u8) :: (.slice (some ⟨g, 0, none⟩) m m) :: (u10) :: (x11) :: (x12) :: (u13) :: (u14) :: (u15) :: (u16) :: (u17) :: (u18) :: (u19) :: (u20) :: (u21) :: (u22) :: (u23) :: (u24) :: (u25) :: (u26) :: (u27) :: (u28) :: (u29) :: (u30) :: (u31) :: (u32) :: (u33) :: (u34) :: (u35) :: (u36) :: (u37) :: (u38) :: (u39) :: (u40) :: (u41) :: (u42) :: (u43) :: (u44) :: (u45) :: (u46) :: (u47) :: (u48) :: (u49) :: (u50) :: (u51) :: (u52) :: (u53) :: (u54) :: (u55) :: (u56) :: (u57) :: (u58) :: (u59) :: (u60) :: (u61) :: (u62) :: (u63) :: (u64) :: (u65) :: (u66) :: (u67) :: (u68) :: (u69) :: (u70) :: (u71) :: (u72) :: (u73) :: (x74) :: (x75) :: (x76) :: (x77) :: (x78) :: (x79) :: (x80) :: (x81) :: (x82) :: (x83) :: (x84) :: (x85) :: (x86) :: (x87) :: (x88) :: (x89) :: (x90) :: (x91) :: (x92) :: (x93) :: (x94) :: (x95) :: (x96) :: (x97) :: (x98) :: (x99) :: (x100) :: (x101) :: (x102) :: (x103) :: (x104) :: (x105) :: (x106) :: (x107) :: (x108) :: (x109) :: (x110) :: (u111) :: (u112) :: (u113) :: (u114) :: (u115) :: (u116) :: (u117) :: (u118) :: (u119) :: (u120) :: (u121) :: (u122) :: (u123) :: (u124) :: (u125) :: (u126) :: (u127) :: (u128) :: (u129) :: (u130) :: (u131) :: (u132) :: (u133) :: (u134) :: (u135) :: (u136) :: (u137) :: (u138) :: (u139) :: (u140) :: (u141) :: (u142) :: (u143) :: (u144) :: (u145) :: (u146) :: (u147) :: (u148) :: (u149) :: (u150) :: (u151) :: (u152) :: (u153) :: (u154) :: (u155) :: (u156) :: (u157) :: (u158) :: (u159) :: (u160) :: (u161) :: (u162) :: (u163) :: (u164) :: (u165) :: (u166) :: (u167) :: (u168) :: (u169) :: (u170) :: (u171) :: (u172) :: (u173) :: (u174) :: (u175) :: (u176) :: (u177) :: (u178) :: (u179) :: (u180) :: (u181) :: (u182) :: (u183) :: (u184) :: (u185) :: (u186) :: (u187) :: (u188) :: (u189) :: (u190) :: (u191) :: (u192) :: (u193) :: (u194) :: (u195) :: (u196) :: (u197) :: (u198) :: (u199) :: (u200) :: (u201) :: (u202) :: (u203) :: (u204) :: (u205) :: (u206) :: (u207) :: (u208) :: (u209) :: (u210) :: (u211) :: (u212) :: (u213) :: []), []⟩ w') :
    (piece Try.f9 [1, 1, 1, 1, 1, 1, 1, 0, 1, 0]).wp Try.prog Q ⟨List.toArray ((.slice (some ⟨b1, o1, none⟩) n c) :: u1 :: u2 :: u3 :: u4 :: u5 :: u6 :: u7 :: u8 :: (.slice (some ⟨g, 0, none⟩) m m) :: u10 :: (.int .i64 0) :: u12 :: u13 :: u14 :: u15 :: u16 :: u17 :: u18 :: u19 :: u20 :: u21 :: u22 :: u23 :: u24 :: u25 :: u26 :: u27 :: u28 :: u29 :: u30 :: u31 :: u32 :: u33 :: u34 :: u35 :: u36 :: u37 :: u38 :: u39 :: u40 :: u41 :: u42 :: u43 :: u44 :: u45 :: u46 :: u47 :: u48 :: u49 :: u50 :: u51 :: u52 :: u53 :: u54 :: u55 :: u56 :: u57 :: u58 :: u59 :: u60 :: u61 :: u62 :: u63 :: u64 :: u65 :: u66 :: u67 :: u68 :: u69 :: u70 :: u71 :: u72 :: u73 :: u74 :: u75 :: u76 :: u77 :: u78 :: u79 :: u80 :: u81 :: u82 :: u83 :: u84 :: u85 :: u86 :: u87 :: u88 :: u89 :: u90 :: u91 :: u92 :: u93 :: u94 :: u95 :: u96 :: u97 :: u98 :: u99 :: u100 :: u101 :: u102 :: u103 :: u104 :: u105 :: u106 :: u107 :: u108 :: u109 :: u110 :: u111 :: u112 :: u113 :: u114 :: u115 :: u116 :: u117 :: u118 :: u119 :: u120 :: u121 :: u122 :: u123 :: u124 :: u125 :: u126 :: u127 :: u128 :: u129 :: u130 :: u131 :: u132 :: u133 :: u134 :: u135 :: u136 :: u137 :: u138 :: u139 :: u140 :: u141 :: u142 :: u143 :: u144 :: u145 :: u146 :: u147 :: u148 :: u149 :: u150 :: u151 :: u152 :: u153 :: u154 :: u155 :: u156 :: u157 :: u158 :: u159 :: u160 :: u161 :: u162 :: u163 :: u164 :: u165 :: u166 :: u167 :: u168 :: u169 :: u170 :: u171 :: u172 :: u173 :: u174 :: u175 :: u176 :: u177 :: u178 :: u179 :: u180 :: u181 :: u182 :: u183 :: u184 :: u185 :: u186 :: u187 :: u188 :: u189 :: u190 :: u191 :: u192 :: u193 :: u194 :: u195 :: u196 :: u197 :: u198 :: u199 :: u200 :: u201 :: u202 :: u203 :: u204 :: u205 :: u206 :: u207 :: u208 :: u209 :: u210 :: u211 :: u212 :: u213 :: []), []⟩ w3 := by
  conv => arg 2; whnf
  have hm63 := ht.row.len
  go_loopw [11] (fun x wr => ∃ i nd : Nat, i ≤ m ∧ x = .int .i64 i ∧ wr = w3.drewN nd) (fun x _ => m - (intOf x).toNat)
  case atStart => exact ⟨0, 0, by omega, rfl, rfl⟩
  case round =>
    obtain ⟨i, nd, hi, rfl, rfl⟩ := hrel
    by_cases hlt : i < m
    · go_wp2
      refine ls2 (ha.drewN nd) (ht.drewN nd) hlt (fun x6 x12 x80 x81 x82 x83 x84 x85 x86 x87 x88 x89 x90 x91 x92 x93 x94 x95 x96 x97 x98 x99 x100 x101 x102 x103 x104 x105 x106 x107 x108 x109 x110 w4 h4 => ?_)
      obtain ⟨nd2, rfl⟩ := h4
      go_wp2
      go_roundw
      case rel => exact ⟨i + 1, nd + nd2, by omega, by go_num, rfl⟩
      case measure => simp [intOf]; omega
    · obtain rfl : i = m := by omega
      go_wp2
      exact ⟨nd, rfl⟩

set_option maxRecDepth 100000 in
set_option maxHeartbeats 4000000 in
theorem ls6 {Q : Exit → Act → World → Prop} {p q r : Nat → Prop} {w3 : World} {b1 o1 b2 o2 b3 o3 n c m k d l f i : Nat} {R : Nat → Option Addr} {C : Nat → Nat} {a : List (List F)} {rows cols : List Int} (ha : Mat p w3 (some ⟨b1, o1, none⟩) n c R m C a) (hr : Ints q w3 (some ⟨b2, o2, none⟩) k d rows) (hc : Ints r w3 (some ⟨b3, o3, none⟩) l f cols) (n1 : 1 ≤ n) (l1 : 1 ≤ l) (l2 : l ≤ 64) (k2 : k ≤ 64) (hi : i < k)
    {u3 u4 u5 u6 u7 u8 u9 u10 u11 u12 u13 u17 u18 u19 u20 u21 u22 u23 u24 u25 u26 u27 u28 u29 u30 u31 u32 u33 u34 u35 u36 u37 u38 u39 u40 u41 u42 u43 u44 u45 u46 u47 u48 u49 u50 u51 u52 u53 u54 u55 u56 u57 u58 u59 u60 u61 u62 u63 u64 u65 u66 u67 u68 u69 u70 u71 u72 u73 u74 u75 u76 u77 u78 u79 u80 u81 u82 u83 u84 u85 u86 u87 u88 u89 u90 u91 u92 u93 u94 u95 u96 u97 u98 u99 u100 u101 u102 u103 u104 u105 u106 u107 u108 u109 u110 u111 u112 u113 u114 u115 u116 u117 u118 u119 u120 u121 u122 u123 u124 u125 u126 u127 u128 u129 u130 u131 u132 u133 u134 u135 u136 u137 u138 u139 u140 u141 u142 u143 u144 u145 u146 u147 u148 u149 u150 u151 u152 u153 u154 u155 u156 u157 u158 u159 u160 u161 u162 u163 u164 u165 u166 u167 u168 u169 u170 u171 u172 u173 u174 u175 u176 u177 u178 u179 u180 u181 u182 u183 u184 u185 u186 u187 u188 u189 u190 u191 u192 u193 u194 u195 u196 u197 u198 u199 u200 u201 u202 u203 u204 u205 u206 u207 u208 u209 u210 u211 u212 u213 : Value}
    (hK : ∀ (x6 x15 x16 x142 x143 x144 x145 x146 x147 x148 x149 x150 x151 x152 x153 x154 x155 x156 x157 x158 x159 x160 x161 x162 x163 x164 x165 x166 x167 x168 x169 x170 x171 x172 x173 x174 x175 x176 x177 x178 x179 x180 x181 x182 x183 x184 x185 x186 x187 x188 x189 x190 x191 x192 x193 x194 x195 x196 x197 x198 x199 x200 x201 x202 : Value) (w' : World), (∃ (A' : Option Addr) (c' : Nat), x15 = .slice A' l c' ∧ Byt (fun b => w3.heap.size ≤ b) w' A' l c' (mrow (selM k l a rows cols) i) ∧ Below w3.heap.size w3 w' ∧ (0 ≤ nti rows i ∧ nti rows i < n) ∧ ∀ j, j < l → 0 ≤ nti cols j ∧ nti cols j < m) → Q (.exit 6) ⟨List.toArray ((.slice (some ⟨b1, o1, none⟩) n c) :: (.slice (some ⟨b2, o2, none⟩) k d) :: (.slice (some ⟨b3, o3, none⟩) l f) :: (u3) :: (u4) :: (u5) :: (x6) :: (u7) :: (u8) :: (u9) :: (u10) :: (u11) :: (u12) :: (u13) :: (.int .i64 (i : Int)) :: (x15) :: (x16) :: (u17) :: (u18) :: (u19) :: (u20) :: (u21) :: (u22) :: (u23) :: (u24) :: (u25) :: (u26) :: (u27) :: (u28) :: (u29) :: (u30) :: (u31) :: (u32) :: (u33) :: (u34) :: (u35) :: (u36) :: (u37) :: (u38) :: (u39) :: (u40) :: (u41) :: (u42) :: (u43) :: (u44) :: (u45) :: (u46) :: (u47) :: (u48) :: (u49) :: (u50) :: (u51) :: (u52) :: (u53) :: (u54) :: (u55) :: (u56) :: (u57) :: (u58) :: (u59) :: (u60) :: (u61) :: (u62) :: (u63) :: (u64) :: (u65) :: (u66) :: (u67) :: (u68) :: (u69) :: (u70) :: (u71) :: (u72) :: (u73) :: (u74) :: (u75) :: (u76) :: (u77) :: (u78) :: (u79) :: (u80) :: (u81) :: (u82) :: (u83) :: (u84) :: (u85) :: (u86) :: (u87) :: (u88) :: (u89) :: (u90) :: (u91) :: (u92) :: (u93) :: (u94) :: (u95) :: (u96) :: (u97) :: (u98) :: (u99) :: (u100) :: (u101) :: (u102) :: (u103) :: (u104) :: (u105) :: (u106) :: (u107) :: (u108) :: (u109) :: (u110) :: (u111) :: (u112) :: (u113) :: (u114) :: (u115) :: (u116) :: (u117) :: (u118) :: (u119) :: (u120) :: (u121) :: (u122) :: (u123) :: (u124) :: (u125) :: (u126) :: (u127) :: (u128) :: (u129) :: (u130) :: (u131) :: (u132) :: (u133) :: (u134) :: (u135) :: (u136) :: (u137) :: (u138) :: (u139) :: (u140) :: (u141) :: (x142) :: (x143) :: (x144) :: (x145) :: (x146) :: (x147) :: (x148) :: (x149) :: (x150) :: (x151) :: (x152) :: (x153) :: (x154) :: (x155) :: (x156) :: (x157) :: (x158) :: (x159) :: (x160) :: (x161) :: (x162) :: (x163) :: (x164) :: (x165) :: (x166) :: (x167) :: (x168) :: (x169) :: (x170) :: (x171) :: (x172) :: (x173) :: (x174) :: (x175) :: (x176) :: (x177) :: (x178) :: (x179) :: (x180) :: (x181) :: (x182) :: (x183) :: (x184) :: (x185) :: (x186) :: (x187) :: (x188) :: (x189) :: (x190) :: (x191) :: (x192) :: (x193) :: (x194) :: (x195) :: (x196) :: (x197) :: (x198) :: (x199) :: (x200) :: (x201) :: (x202) :: (u203) :: (u204) :: (u205) :: (u206) :: (u207) :: (u208) :: (u209) :: (u210) :: (u211) :: (u212) :: (u213) :: []), []⟩ w')
    (hR : ∀ (x15 x16 x142 x143 x144 x145 x146 x147 x148 x149 x150 x151 x152 x153 x154 x155 x156 x157 x158 x159 x160 x161 x162 x163 x164 x165 x166 x167 x168 x169 x170 x171 x172 x173 x174 x175 x176 x177 x178 x179 x180 x181 x182 x183 x184 x185 x186 x187 x188 x189 x190 x191 x192 x193 x194 x195 x196 x197 x198 x199 x200 x201 x202 : Value) (w' : World), (¬ Inside n m k l rows cols ∧ Below w3.heap.size w3 w') → Q .ret ⟨List.toArray ((.slice (some ⟨b1, o1, none⟩) n c) :: (.slice (some ⟨b2, o2, none⟩) k d) :: (.slice (some ⟨b3, o3, none⟩) l f) :: (u3) :: (u4) :: (u5) :: (.bool true) :: (u7) :: (u8) :: (u9) :: (u10) :: (u11) :: (u12) :: (u13) :: (.int .i64 (i : Int)) :: (x15) :: (x16) :: (u17) :: (u18) :: (u19) :: (u20) :: (u21) :: (u22) :: (u23) :: (u24) :: (u25) :: (u26) :: (u27) :: (u28) :: (u29) :: (u30) :: (u31) :: (u32) :: (u33) :: (u34) :: (u35) :: (u36) :: (u37) :: (u38) :: (u39) :: (u40) :: (u41) :: (u42) :: (u43) :: (u44) :: (u45) :: (u46) :: (u47) :: (u48) :: (u49) :: (u50) :: (u51) :: (u52) :: (u53) :: (u54) :: (u55) :: (u56) :: (u57) :: (u58) :: (u59) :: (u60) :: (u61) :: (u62) :: (u63) :: (u64) :: (u65) :: (u66) :: (u67) :: (u68) :: (u69) :: (u70) :: (u71) :: (u72) :: (u73) :: (u74) :: (u75) :: (u76) :: (u77) :: (u78) :: (u79) :: (u80) :: (u81) :: (u82) :: (u83) :: (u84) :: (u85) :: (u86) :: (u87) :: (u88) :: (u89) :: (u90) :: (u91) :: (u92) :: (u93) :: (u94) :: (u95) :: (u96) :: (u97) :: (u98) :: (u99) :: (u100) :: (u101) :: (u102) :: (u103) :: (u104) :: (u105) :: (u106) :: (u107) :: (u108) :: (u109) :: (u110) :: (u111) :: (u112) :: (u113) :: (u114) :: (u115) :: (u116) :: (u117) :: (u118) :: (u119) :: (u120) :: (u121) :: (u122) :: (u123) :: (u124) :: (u125) :: (u126) :: (u127) :: (u128) :: (u129) :: (u130) :: (u131) :: (u132) :: (u133) :: (u134) :: (u135) :: (u136) :: (u137) :: (u138) :: (u139) :: (u140) :: (u141) :: (x142) :: (x143) :: (x144) :: (x145) :: (x146) :: (x147) :: (x148) :: (x149) :: (x150) :: (x151) :: (x152) :: (x153) :: (x154) :: (x155) :: (x156) :: (x157) :: (x158) :: (x159) :: (x160) :: (x161) :: (x162) :: (x163) :: (x164) :: (x165) :: (x166) :: (x167) :: (x168) :: (x169) :: (x170) :: (x171) :: (x172) :: (x173) :: (x174) :: (x175) :: (x176) :: (x177) :: (x178) :: (x179) :: (x180) :: (x181) :: (x182) :: (x183) :: (x184) :: (x185) :: (x186) :: (x187) :: (x188) :: (x189) :: (x190) :: (x191) :: (x192) :: (x193) :: (x194) :: (x195) :: (x196) :: (x197) :: (x198) :: (x199) :: (x200) :: (x201) :: (x202) :: (u203) :: (u204) :: (u205) :: (u206) :: (u207) :: (u208) :: (u209) :: (u210) :: (u211) :: (u212) :: (u213) :: []), []⟩ w')
    (hv : ¬ Inside n m k l rows cols → u7 = .slice none 0 0 ∧ u8 = .int .i64 2) :
    (piece Try.f9 [1, 1, 1, 1, 1, 1, 1, 1, 1, 1, 0, 1, 0, 0, 1, 0, 0, 1, 0, 1, 0]).wp Try.prog Q ⟨List.toArray ((.slice (some ⟨b1, o1, none⟩) n c) :: (.slice (some ⟨b2, o2, none⟩) k d) :: (.slice (some ⟨b3, o3, none⟩) l f) :: u3 :: u4 :: u5 :: u6 :: u7 :: u8 :: u9 :: u10 :: u11 :: u12 :: u13 :: (.int .i64 (i : Int)) :: (.slice none 0 0) :: (.int .i64 0) :: u17 :: u18 :: u19 :: u20 :: u21 :: u22 :: u23 :: u24 :: u25 :: u26 :: u27 :: u28 :: u29 :: u30 :: u31 :: u32 :: u33 :: u34 :: u35 :: u36 :: u37 :: u38 :: u39 :: u40 :: u41 :: u42 :: u43 :: u44 :: u45 :: u46 :: u47 :: u48 :: u49 :: u50 :: u51 :: u52 :: u53 :: u54 :: u55 :: u56 :: u57 :: u58 :: u59 :: u60 :: u61 :: u62 :: u63 :: u64 :: u65 :: u66 :: u67 :: u68 :: u69 :: u70 :: u71 :: u72 :: u73 :: u74 :: u75 :: u76 :: u77 :: u78 :: u79 :: u80 :: u81 :: u82 :: u83 :: u84 :: u85 :: u86 :: u87 :: u88 :: u89 :: u90 :: u91 :: u92 :: u93 :: u94 :: u95 :: u96 :: u97 :: u98 :: u99 :: u100 :: u101 :: u102 :: u103 :: u104 :: u105 :: u106 :: u107 :: u108 :: u109 :: u110 :: u111 :: u112 :: u113 :: u114 :: u115 :: u116 :: u117 :: u118 :: u119 :: u120 :: u121 :: u122 :: u123 :: u124 :: u125 :: u126 :: u127 :: u128 :: u129 :: u130 :: u131 :: u132 :: u133 :: u134 :: u135 :: u136 :: u137 :: u138 :: u139 :: u140 :: u141 :: u142 :: u143 :: u144 :: u145 :: u146 :: u147 :: u148 :: u149 :: u150 :: u151 :: u152 :: u153 :: u154 :: u155 :: u156 :: u157 :: u158 :: u159 :: u160 :: u161 :: u162 :: u163 :: u164 :: u165 :: u166 :: u167 :: u168 :: u169 :: u170 :: u171 :: u172 :: u173 :: u174 :: u175 :: u176 :: u177 :: u178 :: u179 :: u180 :: u181 :: u182 :: u183 :: u184 :: u185 :: u186 :: u187 :: u188 :: u189 :: u190 :: u191 :: u192 :: u193 :: u194 :: u195 :: u196 :: u197 :: u198 :: u199 :: u200 :: u201 :: u202 :: u203 :: u204 :: u205 :: u206 :: u207 :: u208 :: u209 :: u210 :: u211 :: u212 :: u213 :: []), []⟩ w3 := by
  conv => arg 2; whnf
  obtain ⟨Y, hY⟩ : ∃ Y, Y = mrow (selM k l a rows cols) i := ⟨_, rfl⟩
  have hYl : Y.length = l := by rw [hY]; unfold selM; rw [mrow_mkm _ hi, mkr_length]
  have hYn : ∀ j, j < l → nth Y j = selE a rows cols i j := fun j hj => by rw [hY]; unfold selM; rw [mrow_mkm _ hi, nth_mkr _ hj]
  rw [← hY] at hK
  replace hY := Lib.hid hY
  replace hYl := Lib.hid hYl
  replace hYn := Lib.hid hYn
  obtain ⟨_, _, e0, _, hlt1, hc1⟩ := ha.row.at_ (by omega)
  cases e0
  obtain ⟨_, _, e0, _, hlt2, hc2⟩ := hr.row.at_ (by omega)
  cases e0
  obtain ⟨_, _, e0, _, hlt3, hc3⟩ := hc.row.at_ (by omega)
  cases e0
  have e1 : w3.cell? ⟨b1, o1, none⟩ = some (.slice (R 0) m (C 0)) := hc1 0 (by omega)
  have e2 := hc2 i hi
  obtain ⟨z1, hz1⟩ : ∃ z, z = nti rows i := ⟨_, rfl⟩
  rw [← hz1] at e2 hK
  replace hc1 := Lib.hid hc1
  replace hc2 := Lib.hid hc2
  replace hc3 := Lib.hid hc3
  replace hz1 := Lib.hid hz1
  have r1' : (0 : Int) < (n : Int) := by omega
  have r1n : 0 < n := by omega
  have c5 : (0 : Int) ≤ (i : Int) := Int.natCast_nonneg _
  have c6 : (i : Int) < (k : Int) := by omega
  go_loopw [15, 16] (fun v15 x wr => ∃ j : Nat, j ≤ l ∧ x = .int .i64 j ∧ wr.ownsRow w3.heap.size 5 1 v15 j ((Y.take j).map vb) ∧ Below w3.heap.size w3 wr ∧ (∀ j', j' < j → 0 ≤ nti cols j' ∧ nti cols j' < m) ∧ (0 < j → 0 ≤ z1 ∧ z1 < n)) (fun _ x _ => l - (intOf x).toNat)
  case atStart => exact ⟨0, by omega, rfl, World.ownsRow_nil _ _ _ _, Below.refl _ _, fun _ h => absurd h (Nat.not_lt_zero _), fun h => absurd h (Nat.lt_irrefl 0)⟩
  case round =>
    obtain ⟨j, hj, rfl, hown, hbw, hcs, hrz⟩ := hrel
    replace hcs := Lib.hid hcs
    replace hrz := Lib.hid hrz
    by_cases hltj : j < l
    · have f1 := (hbw.cell (p := ⟨b1, o1, none⟩) (by exact hlt1)).trans e1
      have f2 := (hbw.cell (p := ⟨b2, o2 + i, none⟩) (by exact hlt2)).trans e2
      have f3 : wr.cell? ⟨b3, o3 + j, none⟩ = some (.int .i64 (nti cols j)) := (hbw.cell (by exact hlt3)).trans (hc3.out j hltj)
      obtain ⟨z2, hz2⟩ : ∃ z, z = nti cols j := ⟨_, rfl⟩
      rw [← hz2] at f3
      replace hz2 := Lib.hid hz2
      have c7 : (0 : Int) ≤ (j : Int) := Int.natCast_nonneg _
      have c8 : (j : Int) < (l : Int) := by omega
      have hsz := hbw.size
      by_cases h1 : z1 < 0
      · have hnin : ¬ Inside n m k l rows cols := fun hin => by have := (hin.1 i hi).1; rw [← hz1.out] at this; omega
        obtain ⟨rfl, rfl⟩ := hv hnin
        have q1 : decide (z1 < 0) = true := by simp; omega
        go_wp2
        go_quiet (fail)
        go_wp2
        (try simp only [Exit.inBlock, Exit.then])
        apply hR
        exact ⟨hnin, below_drewN hbw _⟩
      by_cases h2 : (n : Int) ≤ z1
      · have hnin : ¬ Inside n m k l rows cols := fun hin => by have := (hin.1 i hi).2; rw [← hz1.out] at this; omega
        obtain ⟨rfl, rfl⟩ := hv hnin
        have q1 : decide (z1 < 0) = false := by simp; omega
        have q2 : decide ((n : Int) ≤ z1) = true := by simp; omega
        go_wp2
        go_quiet (fail)
        go_wp2
        (try simp only [Exit.inBlock, Exit.then])
        apply hR
        exact ⟨hnin, below_drewN hbw _⟩
      by_cases h3 : z2 < 0
      · have hnin : ¬ Inside n m k l rows cols := fun hin => by have := (hin.2 j hltj).1; rw [← hz2.out] at this; omega
        obtain ⟨rfl, rfl⟩ := hv hnin
        have q1 : decide (z1 < 0) = false := by simp; omega
        have q2 : decide ((n : Int) ≤ z1) = false := by simp; omega
        have q3 : decide (z2 < 0) = true := by simp; omega
        go_wp2
        go_quiet (fail)
        go_wp2
        (try simp only [Exit.inBlock, Exit.then])
        apply hR
        exact ⟨hnin, below_drewN hbw _⟩
      by_cases h4 : (m : Int) ≤ z2
      · have hnin : ¬ Inside n m k l rows cols := fun hin => by have := (hin.2 j hltj).2; rw [← hz2.out] at this; omega
        obtain ⟨rfl, rfl⟩ := hv hnin
        have q1 : decide (z1 < 0) = false := by simp; omega
        have q2 : decide ((n : Int) ≤ z1) = false := by simp; omega
        have q3 : decide (z2 < 0) = false := by simp; omega
        have q4 : decide ((m : Int) ≤ z2) = true := by simp; omega
        go_wp2
        go_quiet (fail)
        go_wp2
        (try simp only [Exit.inBlock, Exit.then])
        apply hR
        exact ⟨hnin, below_drewN hbw _⟩
      obtain ⟨t, rfl⟩ := Int.eq_ofNat_of_zero_le (a := z1) (by omega)
      obtain ⟨s, rfl⟩ := Int.eq_ofNat_of_zero_le (a := z2) (by omega)
      have htn : t < n := by omega
      have hsm : s < m := by omega
      obtain ⟨b5, o5, e5, _, hlt5, hc5⟩ := (ha.rows t htn).at_ (by omega)
      have f4 : wr.cell? ⟨b1, o1 + t, none⟩ = some (.slice (R t) m (C t)) := (hbw.cell (by exact hlt1)).trans (hc1.out t htn)
      rw [e5] at f4
      have f5 : wr.cell? ⟨b5, o5 + s, none⟩ = some (.int .u8 ((nth (mrow a t) s).toNat : Int)) := (hbw.cell (by exact hlt5)).trans (hc5 s hsm)
      have he : nth (mrow a t) s = nth Y j := by rw [hYn.out j hltj]; unfold selE; rw [← hz1.out, ← hz2.out]; rfl
      rw [he] at f5
      replace he := Lib.hid he
      replace e5 := Lib.hid e5
      clear hc5
      have m1 := World.new_ne wr _ f2
      have m2 := World.new_ne wr _ f3
      have m3 := World.new_ne wr _ f4
      have m4 := World.new_ne wr _ f5
      have c1 : (0 : Int) ≤ (t : Int) := Int.natCast_nonneg _
      have c2 : (t : Int) < (n : Int) := by omega
      have c3 : (0 : Int) ≤ (s : Int) := Int.natCast_nonneg _
      have c4 : (s : Int) < (m : Int) := by omega
      have q1 : decide ((t : Int) < 0) = false := by simp
      have q2 : decide ((n : Int) ≤ (t : Int)) = false := by simp; omega
      have q3 : decide ((s : Int) < 0) = false := by simp
      have q4 : decide ((m : Int) ≤ (s : Int)) = false := by simp; omega
      go_wp2
      go_quiet (fail)

      obtain ⟨wq, hq⟩ : ∃ wq : World, wq = wr.drewN nq := ⟨_, rfl⟩
      have hbq : Below w3.heap.size w3 wq := by rw [hq]; exact below_drewN hbw nq
      have hownq : wq.ownsRow w3.heap.size 5 1 u15 j ((Y.take j).map vb) := by rw [hq]; exact hown
      have g2 : wq.cell? ⟨b2, o2 + i, none⟩ = some (.int .i64 (t : Int)) := by rw [hq]; exact f2
      have g3 : wq.cell? ⟨b3, o3 + j, none⟩ = some (.int .i64 (s : Int)) := by rw [hq]; exact f3
      have g4 : wq.cell? ⟨b1, o1 + t, none⟩ = some (.slice (some ⟨b5, o5, none⟩) m (C t)) := by rw [hq]; exact f4
      have g5 : wq.cell? ⟨b5, o5 + s, none⟩ = some (.int .u8 ((nth Y j).toNat : Int)) := by rw [hq]; exact f5
      have hsq := hbq.size
      clear f1 f2 f3 f4 f5 m1 m2 m3 m4 hown hbw hsz
      rw [← hq]
      clear hq
      have m2 := World.new_ne wq _ g2
      have m3 := World.new_ne wq _ g3
      have m4 := World.new_ne wq _ g4
      have m5 := World.new_ne wq _ g5
      go_wp2
      go_region_held3 (fun w' => w'.cell? ⟨b2, o2 + i, none⟩ = some (.int .i64 (t : Int)) ∧ w'.cell? ⟨b3, o3 + j, none⟩ = some (.int .i64 (s : Int)) ∧ w'.cell? ⟨b1, o1 + t, none⟩ = some (.slice (some ⟨b5, o5, none⟩) m (C t)) ∧ w'.cell? ⟨b5, o5 + s, none⟩ = some (.int .u8 ((nth Y j).toNat : Int)))
        (first | exact ⟨hgr.cell g2 (own_ne hownq hlt2), hgr.cell g3 (own_ne hownq hlt3), hgr.cell g4 (own_ne hownq hlt1), hgr.cell g5 (own_ne hownq hlt5)⟩ | go_keep)
        (first | (refine step_append1 (by rfl) (by rfl) Try.underlying28 info5 rfl (by rfl) hownq (by rfl) (by rfl) (by unfold maxLen; omega) (by omega) hsq ?_; intro v' w1 hown' hgr hne))
      go_wp2
      go_roundw
      case rel =>
        exact ⟨j + 1, by omega, by go_num, by rw [take_snoc_map vb (by rw [hYl.out]; exact hltj)]; exact hown', hbq.grown hgr hsq (own_ge hownq), fun j' hj' => by
          rcases Nat.lt_succ_iff_lt_or_eq.1 hj' with h | rfl
          · exact hcs.out j' h
          · rw [← hz2.out]; exact ⟨c3, c4⟩, fun _ => ⟨c1, c2⟩⟩
      case measure => simp [intOf]; omega
    · obtain rfl : j = l := by omega
      obtain ⟨A', c', rfl, hby⟩ := own_bytes_take hown hYl.out
      go_wp2
      exact ⟨A', c', rfl, hby.mono (fun _ _ hx => hx.1), hbw, hrz.out (by omega), hcs.out⟩
end Go.Proofs.Ytifhjigkljdkmaa
