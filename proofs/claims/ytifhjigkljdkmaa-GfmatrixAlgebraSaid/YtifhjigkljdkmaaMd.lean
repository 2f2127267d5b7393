import Derived.Test.YtifhjigkljdkmaaM5
import Derived.Test.YtifhjigkljdkmaaM6
import Derived.Test.YtifhjigkljdkmaaOd
namespace Go.Proofs.Ytifhjigkljdkmaa
open Go.RowKit
open Gf (F)
set_option linter.unusedSimpArgs false
set_option linter.unusedVariables false
set_option maxRecDepth 100000 in
set_option maxHeartbeats 1000000 in
theorem rm4 {Q : Exit → Act → World → Prop} {p q : Nat → Prop} {w3 : World} {A B : Option Addr} {n c m d k i j : Nat} {R S : Nat → Option Addr} {C D : Nat → Nat} {a b : List (List F)} (ha : Mat p w3 A n c R k C a) (hb : Mat q w3 B k d S m D b) (hi : i < n) (hj : j < m)
    {u2 u3 u4 u5 u7 u11 u12 u13 u14 u15 u16 u17 u18 u19 u20 u21 u22 u23 u24 u25 u26 u27 u28 u29 u30 u31 u32 u33 u34 u35 u36 u37 u38 u39 u40 u41 u42 u43 u44 u45 u46 u47 u48 u49 u50 u51 u52 u53 u54 u55 u56 : Value}
    (hK : ∀ (x9 x10 x25 x26 x27 x28 x29 x30 x31 x32 x33 x34 x35 x36 x37 x38 x39 x40 x41 x42 x43 x44 x45 x46 x47 : Value) (w' : World), (x9 = .int .u8 ((sumF k fun t => Gf.mul (ent a i t) (ent b t j)).toNat : Int) ∧ ∃ nd, w' = w3.drewN nd) → Q (.exit 4) ⟨List.toArray ((.slice A n c) :: (.slice B k d) :: (u2) :: (u3) :: (u4) :: (u5) :: (.int .i64 (i : Int)) :: (u7) :: (.int .i64 (j : Int)) :: (x9) :: (x10) :: (u11) :: (u12) :: (u13) :: (u14) :: (u15) :: (u16) :: (u17) :: (u18) :: (u19) :: (u20) :: (u21) :: (u22) :: (u23) :: (u24) :: (x25) :: (x26) :: (x27) :: (x28) :: (x29) :: (x30) :: (x31) :: (x32) :: (x33) :: (x34) :: (x35) :: (x36) :: (x37) :: (x38) :: (x39) :: (x40) :: (x41) :: (x42) :: (x43) :: (x44) :: (x45) :: (x46) :: (x47) :: (u48) :: (u49) :: (u50) :: (u51) :: (u52) :: (u53) :: (u54) :: (u55) :: (u56) :: []), []⟩ w') :
    (piece Try.f33 [1, 1, 0, 1, 0, 0, 1, 0, 0, 1, 0, 1, 0, 0, 1, 0, 0, 1, 0, 1, 0]).wp Try.prog Q ⟨List.toArray ((.slice A n c) :: (.slice B k d) :: u2 :: u3 :: u4 :: u5 :: (.int .i64 (i : Int)) :: u7 :: (.int .i64 (j : Int)) :: (.int .u8 0) :: (.int .i64 0) :: u11 :: u12 :: u13 :: u14 :: u15 :: u16 :: u17 :: u18 :: u19 :: u20 :: u21 :: u22 :: u23 :: u24 :: u25 :: u26 :: u27 :: u28 :: u29 :: u30 :: u31 :: u32 :: u33 :: u34 :: u35 :: u36 :: u37 :: u38 :: u39 :: u40 :: u41 :: u42 :: u43 :: u44 :: u45 :: u46 :: u47 :: u48 :: u49 :: u50 :: u51 :: u52 :: u53 :: u54 :: u55 :: u56 :: []), []⟩ w3 := by
  conv => arg 2; whnf
  have hk := hb.row.len
  go_loopw [9, 10] (fun x7 x8 wr => ∃ t nd : Nat, t ≤ k ∧ x8 = .int .i64 t ∧ x7 = .int .u8 ((sumF t fun t => Gf.mul (ent a i t) (ent b t j)).toNat : Int) ∧ wr = w3.drewN nd) (fun _ x _ => k - (intOf x).toNat)
  case atStart => exact ⟨0, 0, by omega, rfl, rfl, rfl⟩
  case round =>
    obtain ⟨t, nd, htk, rfl, rfl, rfl⟩ := hrel
    by_cases hlt : t < k
    · obtain ⟨b1, o1, rfl, _, hlt1, hc1⟩ := ha.row.at_ (by omega)
      obtain ⟨b2, o2, rfl, _, hlt2, hc2⟩ := hb.row.at_ (by omega)
      obtain ⟨b3, o3, e3, _, hlt3, hc3⟩ := (ha.rows i hi).at_ (by omega)
      obtain ⟨b4, o4, e4, _, hlt4, hc4⟩ := (hb.rows t hlt).at_ (by omega)
      have f1 := hc1 i hi
      rw [e3] at f1
      have f2 := hc2 t hlt
      rw [e4] at f2
      have f3 := hc3 t hlt
      have f4 := hc4 j hj
      replace e3 := Lib.hid e3
      replace e4 := Lib.hid e4
      clear hc1 hc2 hc3 hc4
      obtain ⟨s, hs⟩ : ∃ s, s = sumF t fun t => Gf.mul (ent a i t) (ent b t j) := ⟨_, rfl⟩
      rw [← hs]
      have hx := u8_xor_F s (Gf.mul (nth (mrow a i) t) (nth (mrow b t) j))
      replace hs := Lib.hid hs
      have c1 : (0 : Int) ≤ (i : Int) := Int.natCast_nonneg _
      have c2 : (i : Int) < (n : Int) := by omega
      have c3 : (0 : Int) ≤ (t : Int) := Int.natCast_nonneg _
      have c4 : (t : Int) < (k : Int) := by omega
      have c5 : (0 : Int) ≤ (j : Int) := Int.natCast_nonneg _
      have c6 : (j : Int) < (m : Int) := by omega
      go_wp2
      go_quiet ((go_at_call 97; exact quiet_add_left (refmul_any _ _ _)))
      go_wp2
      go_roundw
      case rel => exact ⟨t + 1, _, by omega, by go_num, by rw [sumF_succ, ← hs.out, UInt8.toNat_xor]; rfl, rfl⟩
      case measure => simp [intOf]; omega
    · obtain rfl : t = k := by omega
      go_wp2
      exact ⟨nd, rfl⟩
set_option maxRecDepth 100000 in
set_option maxHeartbeats 1000000 in
theorem rm2 {Q : Exit → Act → World → Prop} {p q : Nat → Prop} {w3 : World} {A B : Option Addr} {n c m d k i : Nat} {R S : Nat → Option Addr} {C D : Nat → Nat} {a b : List (List F)} (ha : Mat p w3 A n c R k C a) (hb : Mat q w3 B k d S m D b) (hi : i < n) (hk : 0 < k) (hm : m ≤ 4096)
    {u2 u3 u4 u5 u9 u10 u11 u12 u13 u14 u15 u16 u17 u18 u19 u20 u21 u22 u23 u24 u25 u26 u27 u28 u29 u30 u31 u32 u33 u34 u35 u36 u37 u38 u39 u40 u41 u42 u43 u44 u45 u46 u47 u48 u49 u50 u51 u52 u53 u54 u55 u56 : Value}
    (hK : ∀ (x7 x8 x9 x10 x17 x18 x19 x20 x21 x22 x23 x24 x25 x26 x27 x28 x29 x30 x31 x32 x33 x34 x35 x36 x37 x38 x39 x40 x41 x42 x43 x44 x45 x46 x47 x48 x49 x50 x51 : Value) (w' : World), (∃ (A' : Option Addr) (c' : Nat), x7 = .slice A' m c' ∧ Byt (fun b => w3.heap.size ≤ b) w' A' m c' (mkr m fun j => sumF k fun t => Gf.mul (ent a i t) (ent b t j)) ∧ Below w3.heap.size w3 w') → Q (.exit 2) ⟨List.toArray ((.slice A n c) :: (.slice B k d) :: (u2) :: (u3) :: (u4) :: (u5) :: (.int .i64 (i : Int)) :: (x7) :: (x8) :: (x9) :: (x10) :: (u11) :: (u12) :: (u13) :: (u14) :: (u15) :: (u16) :: (x17) :: (x18) :: (x19) :: (x20) :: (x21) :: (x22) :: (x23) :: (x24) :: (x25) :: (x26) :: (x27) :: (x28) :: (x29) :: (x30) :: (x31) :: (x32) :: (x33) :: (x34) :: (x35) :: (x36) :: (x37) :: (x38) :: (x39) :: (x40) :: (x41) :: (x42) :: (x43) :: (x44) :: (x45) :: (x46) :: (x47) :: (x48) :: (x49) :: (x50) :: (x51) :: (u52) :: (u53) :: (u54) :: (u55) :: (u56) :: []), []⟩ w') :
    (piece Try.f33 [1, 1, 0, 1, 0, 0, 1, 0, 0, 1, 0, 1, 0]).wp Try.prog Q ⟨List.toArray ((.slice A n c) :: (.slice B k d) :: u2 :: u3 :: u4 :: u5 :: (.int .i64 (i : Int)) :: (.slice none 0 0) :: (.int .i64 0) :: u9 :: u10 :: u11 :: u12 :: u13 :: u14 :: u15 :: u16 :: u17 :: u18 :: u19 :: u20 :: u21 :: u22 :: u23 :: u24 :: u25 :: u26 :: u27 :: u28 :: u29 :: u30 :: u31 :: u32 :: u33 :: u34 :: u35 :: u36 :: u37 :: u38 :: u39 :: u40 :: u41 :: u42 :: u43 :: u44 :: u45 :: u46 :: u47 :: u48 :: u49 :: u50 :: u51 :: u52 :: u53 :: u54 :: u55 :: u56 :: []), []⟩ w3 := by
  conv => arg 2; whnf
  obtain ⟨l, hl⟩ : ∃ l, l = mkr m fun j => sumF k fun t => Gf.mul (ent a i t) (ent b t j) := ⟨_, rfl⟩
  have hlen : l.length = m := by rw [hl]; exact mkr_length _ _
  have hnth : ∀ j, j < m → sumF k (fun t => Gf.mul (ent a i t) (ent b t j)) = nth l j := fun j hj => by rw [hl, nth_mkr _ hj]
  rw [← hl] at hK
  replace hl := Lib.hid hl
  replace hnth := Lib.hid hnth
  replace hlen := Lib.hid hlen
  obtain ⟨b2, o2, rfl, _, hlt2, hc2⟩ := hb.row.at_ (by omega)
  have g2 := hc2 0 hk
  clear hc2
  go_loopw [7, 8] (fun v5 x wr => ∃ j : Nat, j ≤ m ∧ x = .int .i64 j ∧ wr.ownsRow w3.heap.size 5 1 v5 j ((l.take j).map vb) ∧ Below w3.heap.size w3 wr) (fun _ x _ => m - (intOf x).toNat)
  case atStart => exact ⟨0, by omega, rfl, World.ownsRow_nil _ _ _ _, Below.refl _ _⟩
  case round =>
    obtain ⟨j, hj, rfl, hown, hbw⟩ := hrel
    have hsz := hbw.size
    have f2 : wr.cell? ⟨b2, o2, none⟩ = some (.slice (S 0) m (D 0)) := (hbw.cell (by exact hlt2)).trans g2
    by_cases hlt : j < m
    · have haw := (ha.keep (Keeps.below hbw))
      have hbw' := (hb.keep (Keeps.below hbw))
      go_wp2
      refine rm4 haw hbw' hi hlt (fun x9 x10 x25 x26 x27 x28 x29 x30 x31 x32 x33 x34 x35 x36 x37 x38 x39 x40 x41 x42 x43 x44 x45 x46 x47 w4 h4 => ?_)
      obtain ⟨rfl, nd, rfl⟩ := h4
      rw [hnth.out j hlt]
      go_wp2_with (at_builtin; refine wpl_append1 rfl (s := .tmp 48) (x := .tmp 50) rfl Try.underlying28 info5 rfl rfl hown rfl rfl (by unfold maxLen; omega) (by omega) (by simp; omega) ?_; intro v2 w2 hown2 hgr2 hne2)
      go_roundw
      case rel => exact ⟨j + 1, by omega, by go_num, by rw [take_snoc_map vb (by rw [hlen.out]; exact hlt)]; exact hown2, (below_drewN hbw nd).grown hgr2 (by simp; omega) (own_ge hown)⟩
      case measure => simp [intOf]; omega
    · obtain rfl : j = m := by omega
      obtain ⟨A', c', rfl, hby⟩ := own_bytes_take hown hlen.out
      go_wp2
      exact ⟨A', c', rfl, hby.mono (fun _ _ hx => hx.1), hbw⟩
section
variable {p q : Nat → Prop} {w : World} {A B : Option Addr} {n c m d k : Nat} {R S : Nat → Option Addr} {C D : Nat → Nat} {a b : List (List F)}
set_option maxRecDepth 100000 in
set_option maxHeartbeats 1000000 in
theorem refmulmat_any (ha : Mat p w A n c R k C a) (hb : Mat q w B k d S m D b) (hk : 0 < k) (hm : m ≤ 4096) (hn : n ≤ 4096) : Calls Try.prog 33 #[.slice A n c, .slice B k d] w fun e w' =>
    ∃ A' c' R' C', e = .returned (.slice A' n c') ∧ Mat (fun _ => True) w' A' n c' R' m C' (mulM n k m a b) ∧ Below w.heap.size w w' := by
  have hnl := ha.row.len
  go_enter Try.func33, Try.ntmps33
  go_wp2
  go_loopw [5, 6] (fun v x wr => ∃ (i : Nat) (R' : Nat → Option Addr) (L' C' : Nat → Nat), i ≤ n ∧ x = .int .i64 i ∧ OwnA wr w.heap.size (fun _ => True) v i R' L' C' (mrow (mulM n k m a b)) ∧ Below w.heap.size w wr) (fun _ x _ => n - (intOf x).toNat)
  case atStart => exact ⟨0, _, _, _, by omega, rfl, (OwnA.start _ _ _).congr fun i hi => absurd hi (Nat.not_lt_zero _), Below.refl _ _⟩
  case round =>
    obtain ⟨i, R', L', C', hi, rfl, ho, hbw⟩ := hrel
    have hsz := hbw.size
    by_cases hlt : i < n
    · have haw := (ha.keep (Keeps.below hbw))
      have hbw' := (hb.keep (Keeps.below hbw))
      have hrow : (mkr m fun j => sumF k fun t => Gf.mul (ent a i t) (ent b t j)) = mrow (mulM n k m a b) i := by unfold mulM; rw [mrow_mkm _ hlt]
      go_wp2
      refine rm2 haw hbw' hlt hk hm (fun x7 x8 x9 x10 x17 x18 x19 x20 x21 x22 x23 x24 x25 x26 x27 x28 x29 x30 x31 x32 x33 x34 x35 x36 x37 x38 x39 x40 x41 x42 x43 x44 x45 x46 x47 x48 x49 x50 x51 w4 h4 => ?_)
      obtain ⟨A2, c2, rfl, hby, hb4⟩ := h4
      rw [hrow] at hby
      replace hrow := Lib.hid hrow
      have ho1 := ho.below hb4
      have hsz4 := hb4.size
      go_wp2_with (at_builtin; refine wpl_append1 rfl (s := .tmp 52) (x := .tmp 54) rfl Try.underlying22 info28 rfl rfl ho1.own rfl rfl (by unfold maxLen; omega) (by omega) (by omega) ?_; intro v2 w2 hown2 hgr2 hne2)
      go_roundw
      case rel =>
        exact ⟨i + 1, _, _, _, by omega, by go_num, (ho1.push (hby.mono fun b _ hb => ⟨trivial, own_new_ne ho.own hb⟩) hown2 hgr2 hne2).congr fun j _ => by by_cases e : j = i <;> simp [e], (below_then hbw hsz hb4).grown hgr2 (by omega) (own_ge ho1.own)⟩
      case measure => simp [intOf]; omega
    · obtain rfl : i = n := by omega
      have hlen : (mulM i k m a b).length = i := mkm_length _ _ _
      obtain ⟨A', c', rfl, hr'⟩ := ho.rag hlen (fun _ _ => rfl)
      go_wp2
      go_ret
      refine ⟨A', c', R', C', rfl, hr'.mat fun j hj => ?_, hbw⟩
      unfold mulM
      rw [mrow_mkm _ hj, mkr_length]
end
end Go.Proofs.Ytifhjigkljdkmaa
