/- Contracts of the functions on lists of bytes and on matrices (first part). -/
import Derived.Test.YtifhjigkljdkmaaMem
namespace Go.Proofs.Ytifhjigkljdkmaa
open Go.RowKit
open Gf (F)
set_option linter.unusedSimpArgs false
set_option linter.unusedVariables false
set_option maxRecDepth 100000 in
set_option maxHeartbeats 400000 in
theorem fused_any {p q : Nat → Prop} {A1 A2 : Option Addr} {n c1 c2 : Nat} {d s : List F} (c : F) (w : World) (h1 : Byt p w A1 n c1 d) (h2 : Byt q w A2 n c2 s) (hn : n ≤ 65536) :
    Calls Try.prog 91 #[.slice A1 n c1, .slice A2 n c2, .int .u8 (c.toNat : Int)] w fun e w' => ∃ g, e = .returned (.tuple #[.slice (some ⟨g, 0, none⟩) n n, .int .i64 0]) ∧ w.heap.size ≤ g ∧
      w'.rowIs g 5 n (bytes (fuse d s c)) ∧ Below w.heap.size w w' := by
  go_enter Try.func91, Try.ntmps91
  go_wp2_with (at_make; refine wpl_make rfl rfl Try.underlying28 info5 rfl rfl rfl (by omega) (by omega) ?_; intro w1 g hrow hb1 hg)
  go_loopw [9, 20] (fun _ i wr => ∃ k : Nat, k ≤ n ∧ i = .int .i64 k ∧ wr.rowIs g 5 n (upto k (bytes (fuse d s c)) zeros) ∧ Below w.heap.size w wr) (fun _ i _ => n - (intOf i).toNat)
  case atStart => exact ⟨0, by omega, rfl, by rw [upto_zero]; exact hrow, hb1⟩
  case round =>
    obtain ⟨k, hk, rfl, hr, hb⟩ := hrel
    by_cases hlt : k < n
    · obtain ⟨b1, o1, rfl, _, hlt1, hc1⟩ := h1.at_ (by omega)
      obtain ⟨b2, o2, rfl, _, hlt2, hc2⟩ := h2.at_ (by omega)
      have e1 : wr.cell? ⟨b1, o1 + k, none⟩ = some (.int .u8 ((nth d k).toNat : Int)) := (hb.cell (by exact hlt1)).trans (hc1 k hlt)
      have e2 : wr.cell? ⟨b2, o2 + k, none⟩ = some (.int .u8 ((nth s k).toNat : Int)) := (hb.cell (by exact hlt2)).trans (hc2 k hlt)
      have e3 : wr.cell? ⟨g, k, none⟩ = some (.int .u8 0) := by rw [hr.cell hlt, upto_at]; rfl
      have e4 : wr.frozen? ⟨g, k, none⟩ = false := hr.frozen k
      have n1 : b1 ≠ g := by omega
      have n2 : b2 ≠ g := by omega
      have hx := u8_xor_F
      clear hc1 hc2
      go_wp2
      go_region_held3 (fun w' => w'.cell? ⟨b1, o1 + k, none⟩ = some (.int .u8 ((nth d k).toNat : Int)) ∧ w'.cell? ⟨b2, o2 + k, none⟩ = some (.int .u8 ((nth s k).toNat : Int))) (first | (simp only [World.cell?_drew]; exact ⟨cell_set_ne n1 e1, cell_set_ne n2 e2⟩) | go_keep) (first | (go_at_call 99; refine (mul_any _ _ _).mono ?_; rintro e w' ⟨rfl, rfl⟩))
      go_wp2
      go_roundw
      case rel =>
        exact ⟨k + 1, by omega, by go_num, (rowIs_upto_set hr (by unfold bytes; rw [nth_fuse c h1.len h2.len hlt, UInt8.toNat_xor])).drew, (hb.setCell hg _).drew⟩
      case measure => simp [intOf]; omega
    · obtain rfl : k = n := by omega
      go_wp2
      go_ret2
      exact ⟨g, rfl, hg, hr.congr fun j hj => upto_lt hj _ _, hb⟩

/-! ### Matrices -/
/-- The slice reads the rows of M, which may differ in length: row j is '.slice (R j) (L j) (C j)'. -/
structure Rag (p : Nat → Prop) (w : World) (A : Option Addr) (n c : Nat) (R : Nat → Option Addr) (L C : Nat → Nat) (M : List (List F)) : Prop where
  len : M.length = n
  row : Row p w A n c fun j => .slice (R j) (L j) (C j)
  rows : ∀ j, j < n → Byt p w (R j) (L j) (C j) (mrow M j)
/-- .. all of one length m. -/
structure Mat (p : Nat → Prop) (w : World) (A : Option Addr) (n c : Nat) (R : Nat → Option Addr) (m : Nat) (C : Nat → Nat) (M : List (List F)) : Prop where
  len : M.length = n
  row : Row p w A n c fun j => .slice (R j) m (C j)
  rows : ∀ j, j < n → Byt p w (R j) m (C j) (mrow M j)
section
variable {p q : Nat → Prop} {w w' : World} {A : Option Addr} {n c m : Nat} {R : Nat → Option Addr} {L C : Nat → Nat} {M : List (List F)}
theorem Rag.keep (h : Rag p w A n c R L C M) (k : Keeps p w w') : Rag p w' A n c R L C M := ⟨h.len, h.row.keep k, fun j hj => (h.rows j hj).keep k⟩
theorem Rag.below (h : Rag p w A n c R L C M) (k : Below w.heap.size w w') : Rag p w' A n c R L C M := h.keep (.below k)
theorem Rag.mono (h : Rag p w A n c R L C M) (hq : ∀ b, b < w.heap.size → p b → q b) : Rag q w A n c R L C M := ⟨h.len, h.row.mono hq, fun j hj => (h.rows j hj).mono hq⟩
theorem Mat.keep (h : Mat p w A n c R m C M) (k : Keeps p w w') : Mat p w' A n c R m C M := ⟨h.len, h.row.keep k, fun j hj => (h.rows j hj).keep k⟩
theorem Mat.below (h : Mat p w A n c R m C M) (k : Below w.heap.size w w') : Mat p w' A n c R m C M := h.keep (.below k)
theorem Mat.mono (h : Mat p w A n c R m C M) (hq : ∀ b, b < w.heap.size → p b → q b) : Mat q w A n c R m C M := ⟨h.len, h.row.mono hq, fun j hj => (h.rows j hj).mono hq⟩
theorem Mat.rag (h : Mat p w A n c R m C M) : Rag p w A n c R (fun _ => m) C M := ⟨h.len, h.row, h.rows⟩
theorem Rag.mat (h : Rag p w A n c R L C M) (e : ∀ j, j < n → (mrow M j).length = m) : Mat p w A n c R m C M := by
  have e2 : ∀ j, j < n → L j = m := fun j hj => by rw [← (h.rows j hj).len, e j hj]
  exact ⟨h.len, h.row.congr fun j hj => by rw [e2 j hj], fun j hj => by rw [← e2 j hj]; exact h.rows j hj⟩
theorem Rag.lens (h : Rag p w A n c R L C M) {j : Nat} (hj : j < n) : (mrow M j).length = L j := (h.rows j hj).len
end
structure Ints (p : Nat → Prop) (w : World) (A : Option Addr) (n c : Nat) (l : List Int) : Prop where
  len : l.length = n
  row : Row p w A n c fun j => .int .i64 (nti l j)
section
variable {p q : Nat → Prop} {w w' : World} {A : Option Addr} {n c : Nat} {l : List Int}
theorem Ints.keep (h : Ints p w A n c l) (k : Keeps p w w') : Ints p w' A n c l := ⟨h.len, h.row.keep k⟩
theorem Ints.below (h : Ints p w A n c l) (k : Below w.heap.size w w') : Ints p w' A n c l := h.keep (.below k)
theorem Ints.mono (h : Ints p w A n c l) (hq : ∀ b, b < w.heap.size → p b → q b) : Ints q w A n c l := ⟨h.len, h.row.mono hq⟩
end

/-! ### Small, Valid -/
theorem ret_bool {a b : Bool} (h : a = b) : Ending.returned (.bool a) = .returned (.bool b) := by rw [h]
section
variable {p q : Nat → Prop} {w w' : World} {A : Option Addr} {n c : Nat} {R : Nat → Option Addr} {L C : Nat → Nat} {M : List (List F)}
theorem small_any (h : Rag p w A n c R L C M) : Calls Try.prog 28 #[.slice A n c] w fun e w' => e = .returned (.bool (small M)) ∧ w = w' := by
  have hn := h.row.len
  have hl := Lib.hid h.len
  by_cases h8 : 8 < n
  · go_enter Try.func28, Try.ntmps28
    go_wp2
    go_ret
    exact ⟨ret_bool (by unfold small; rw [eq_comm, decide_eq_false_iff_not]; intro hs; have := hs.1; have := hl.out; omega), rfl⟩
  · go_enter Try.func28, Try.ntmps28
    go_wp2
    go_loop [3] (fun i => ∃ k : Nat, k ≤ n ∧ i = .int .i64 k ∧ ∀ j, j < k → L j ≤ 8) (fun i => n - (intOf i).toNat)
    case atStart => exact ⟨0, by omega, rfl, fun j hj => absurd hj (Nat.not_lt_zero _)⟩
    case round =>
      obtain ⟨k, hk, rfl, hall⟩ := hrel
      replace hall := Lib.hid hall
      by_cases hlt : k < n
      · obtain ⟨b, o, rfl, _, _, hc⟩ := h.row.at_ (by omega)
        have e1 := hc k hlt
        clear hc
        by_cases hL : 8 < L k
        · go_wp2
          go_ret
          exact ⟨ret_bool (by unfold small; rw [eq_comm, decide_eq_false_iff_not]; intro hs; have h2 := hs.2 k (by have := hl.out; omega); rw [h.lens hlt] at h2; omega), rfl⟩
        · go_wp2
          go_round
          case rel => exact ⟨k + 1, by omega, by go_num, fun j hj => by
            rcases Nat.lt_succ_iff_lt_or_eq.1 hj with hj | rfl
            · exact hall.out j hj
            · omega⟩
          case measure => simp [intOf]; omega
      · obtain rfl : k = n := by omega
        go_wp2
        go_ret
        exact ⟨ret_bool (by unfold small; rw [eq_comm, decide_eq_true_eq]; exact ⟨by have := hl.out; omega, fun j hj => by have := hl.out; rw [h.lens (by omega)]; exact hall.out j (by omega)⟩), rfl⟩
theorem not_valid (h : Rag p w A n c R L C M) (hn : ¬ (1 ≤ n ∧ n ≤ 64 ∧ 1 ≤ L 0 ∧ L 0 ≤ 64 ∧ ∀ j, j < n → L j = L 0)) : false = valid M := by
  unfold valid
  rw [eq_comm, decide_eq_false_iff_not]
  rintro ⟨h1, h2, h3, h4, h5⟩
  have hl := h.len
  apply hn
  have e0 := h.lens (j := 0) (by omega)
  refine ⟨by omega, by omega, by omega, by omega, fun j hj => ?_⟩
  have := h5 j (by omega)
  rw [h.lens hj, e0] at this
  exact this
theorem is_valid (h : Rag p w A n c R L C M) (h1 : 1 ≤ n) (h2 : n ≤ 64) (h3 : 1 ≤ L 0) (h4 : L 0 ≤ 64) (h5 : ∀ j, j < n → L j = L 0) : true = valid M := by
  unfold valid
  rw [eq_comm, decide_eq_true_eq]
  have hl := h.len
  have e0 := h.lens (j := 0) (by omega)
  exact ⟨by omega, by omega, by omega, by omega, fun j hj => by rw [h.lens (by omega), e0]; exact h5 j (by omega)⟩
set_option maxHeartbeats 400000 in
theorem valid_any (h : Rag p w A n c R L C M) : Calls Try.prog 39 #[.slice A n c] w fun e w' => e = .returned (.bool (valid M)) ∧ w = w' := by
  have hn := h.row.len
  by_cases h0 : n < 1
  · go_enter Try.func39, Try.ntmps39
    go_wp2
    go_ret
    exact ⟨ret_bool (not_valid h (by omega)), rfl⟩
  by_cases h64 : 64 < n
  · go_enter Try.func39, Try.ntmps39
    go_wp2
    go_ret
    exact ⟨ret_bool (not_valid h (by omega)), rfl⟩
  obtain ⟨b, o, rfl, _, _, hc⟩ := h.row.at_ (by omega)
  have e0 : w.cell? ⟨b, o, none⟩ = some (.slice (R 0) (L 0) (C 0)) := hc 0 (by omega)
  have hc' := Lib.hid hc
  clear hc
  by_cases hz : L 0 < 1
  · go_enter Try.func39, Try.ntmps39
    go_wp2
    go_ret
    exact ⟨ret_bool (not_valid h (by omega)), rfl⟩
  by_cases hz : 64 < L 0
  · go_enter Try.func39, Try.ntmps39
    go_wp2
    go_ret
    exact ⟨ret_bool (not_valid h (by omega)), rfl⟩
  go_enter Try.func39, Try.ntmps39
  go_wp2
  go_loop [4, 29] (fun _ i => ∃ k : Nat, k ≤ n ∧ i = .int .i64 k ∧ ∀ j, j < k → L j = L 0) (fun _ i => n - (intOf i).toNat)
  case atStart => exact ⟨0, by omega, rfl, fun j hj => absurd hj (Nat.not_lt_zero _)⟩
  case round =>
    obtain ⟨k, hk, rfl, hall⟩ := hrel
    replace hall := Lib.hid hall
    by_cases hlt : k < n
    · have e1 := hc'.out k hlt
      have hk1 : L k ≤ 9223372036854775807 := (h.rows k hlt).row.len
      by_cases hL : L k = L 0
      · have ht : ((L k : Int) != (L 0 : Int)) = false := by rw [hL]; simp
        replace hL := Lib.hid hL
        go_wp2
        go_round
        case rel => exact ⟨k + 1, by omega, by go_num, fun j hj => by
            rcases Nat.lt_succ_iff_lt_or_eq.1 hj with hj | rfl
            · exact hall.out j hj
            · exact hL.out⟩
        case measure => simp [intOf]; omega
      · have ht : ((L k : Int) != (L 0 : Int)) = true := by simp; exact fun e => hL (by omega)
        replace hL := Lib.hid hL
        go_wp2
        go_ret
        exact ⟨ret_bool (not_valid h (fun hh => hL.out (hh.2.2.2.2 k hlt))), rfl⟩
    · obtain rfl : k = n := by omega
      go_wp2
      go_ret
      exact ⟨ret_bool (is_valid h (by omega) (by omega) (by omega) (by omega) hall.out), rfl⟩
end

/-! ### tegularef02.Valid -/
section
variable {p q : Nat → Prop} {w w' : World} {A : Option Addr} {n c : Nat} {R : Nat → Option Addr} {L C : Nat → Nat} {M : List (List F)}
set_option maxHeartbeats 400000 in
theorem refvalid_any (h : Rag p w A n c R L C M) : Calls Try.prog 30 #[.slice A n c] w fun e w' => e = .returned (.bool (valid M)) ∧ ∃ m, w' = w.drewN m := by
  have hn := h.row.len
  by_cases h0 : n < 1
  · go_enter Try.func30, Try.ntmps30
    go_wp2
    go_ret
    exact ⟨ret_bool (not_valid h (by omega)), 0, rfl⟩
  by_cases h64 : 64 < n
  · go_enter Try.func30, Try.ntmps30
    go_wp2
    go_ret
    exact ⟨ret_bool (not_valid h (by omega)), 0, rfl⟩
  obtain ⟨b, o, rfl, _, _, hc⟩ := h.row.at_ (by omega)
  have e0 : w.cell? ⟨b, o, none⟩ = some (.slice (R 0) (L 0) (C 0)) := hc 0 (by omega)
  have hc' := Lib.hid hc
  clear hc
  by_cases hz : L 0 < 1
  · go_enter Try.func30, Try.ntmps30
    go_wp2
    go_ret
    exact ⟨ret_bool (not_valid h (by omega)), 0, rfl⟩
  by_cases hz : 64 < L 0
  · go_enter Try.func30, Try.ntmps30
    go_wp2
    go_ret
    exact ⟨ret_bool (not_valid h (by omega)), 0, rfl⟩
  go_enter Try.func30, Try.ntmps30
  go_wp2
  go_loopw [3] (fun i wr => ∃ k m : Nat, k ≤ n ∧ i = .int .i64 k ∧ wr = w.drewN m ∧ ∀ j, j < k → L j = L 0) (fun i _ => n - (intOf i).toNat)
  case atStart => exact ⟨0, 0, by omega, rfl, rfl, fun j hj => absurd hj (Nat.not_lt_zero _)⟩
  case round =>
    obtain ⟨k, m, hk, rfl, rfl, hall⟩ := hrel
    replace hall := Lib.hid hall
    by_cases hlt : k < n
    · have e1 := hc'.out k hlt
      have hk1 : L k ≤ 9223372036854775807 := (h.rows k hlt).row.len
      have b1 : (0 : Int) ≤ (k : Int) := Int.natCast_nonneg _
      have b2 : (k : Int) < (n : Int) := by omega
      have b3 : (0 : Int) < (n : Int) := by omega
      by_cases hL : L k = L 0
      · have ht : ((L k : Int) != (L 0 : Int)) = false := by rw [hL]; simp
        replace hL := Lib.hid hL
        go_wp2
        go_quiet (fail)
        go_wp2
        go_roundw
        case rel => exact ⟨k + 1, _, by omega, by go_num, rfl, fun j hj => by
            rcases Nat.lt_succ_iff_lt_or_eq.1 hj with hj | rfl
            · exact hall.out j hj
            · exact hL.out⟩
        case measure => simp [intOf]; omega
      · have ht : ((L k : Int) != (L 0 : Int)) = true := by simp; exact fun e => hL (by omega)
        replace hL := Lib.hid hL
        go_wp2
        go_quiet (fail)
        go_wp2
        go_ret
        exact ⟨ret_bool (not_valid h (fun hh => hL.out (hh.2.2.2.2 k hlt))), _, World.drewN_drewN ..⟩
    · obtain rfl : k = n := by omega
      go_wp2
      go_ret
      exact ⟨ret_bool (is_valid h (by omega) (by omega) (by omega) (by omega) hall.out), _, rfl⟩
end

/-! ### tegularef01.Same -/
theorem run_conv {p : Nat → Prop} {w : World} {A : Option Addr} {n c : Nat} {l : List F} (h : Byt p w A n c l) : (convert 28 9 (.slice A n c)).run Try.prog w = .ok (.string ⟨l.toArray⟩) w := by
  have hl := h.len
  by_cases hn : n = 0
  · subst hn
    obtain rfl : l = [] := List.eq_nil_of_length_eq_zero hl
    cases A with
    | none => exact run_convert_bytes_nil w 28 5 Try.underlying28 Try.underlying5 0 c 9 Try.underlying9
    | some a =>
      rw [run_convert_bytes_string w 28 9 5 _ 0 c Try.underlying28 Try.underlying5 Try.underlying9, run_bytesToString w _ 0 c [] (by simpa using run_loadCells_list (P := Try.prog) w a [] (fun j v hj => by simp at hj)), foldl_push_bytes]
      simp [ByteArray.empty, ByteArray.emptyWithCapacity]
      rfl
  · obtain ⟨b, o, rfl, _, _, hc⟩ := h.at_ (by omega)
    have := run_convert_bytes_arg (P := Try.prog) w 28 5 Try.underlying28 Try.underlying5 b o n c (l.map fun u => (u.toNat : Int)) (by simpa using hl) (fun i hi => by
      rw [hc i hi, nth_of_lt (by omega)]
      simp [hl, hi]) 9 Try.underlying9
    rw [this]
    have e : (l.map fun u => (u.toNat : Int)).map (fun n => UInt8.ofNat n.toNat) = l := by
      rw [List.map_map, show ((fun n : Int => UInt8.ofNat n.toNat) ∘ fun u : F => (u.toNat : Int)) = id from by funext u; simp]
      simp
    unfold strOfNums
    rw [e]
theorem same01_any {p q : Nat → Prop} {w : World} {A B : Option Addr} {n m c d : Nat} {l k : List F} (h1 : Byt p w A n c l) (h2 : Byt q w B m d k) :
    Calls Try.prog 43 #[.slice A n c, .slice B m d] w fun e w' => e = .returned (.bool (decide (l = k))) ∧ w = w' := by
  have k1 := run_conv h1
  have k2 := run_conv h2
  go_enter Try.func43, Try.ntmps43
  go_wp2
  go_ret
  exact ⟨ret_bool (by rw [Bool.eq_iff_iff]; simp), rfl⟩

/-! ### tegularef02.Same, SameInts -/
theorem quiet_left {P : Program} {f : FuncId} {args : Array Value} {w : World} {n : Nat} {v : Value}
    (h : Calls P f args (w.drewN n) fun e w' => e = .returned v ∧ w.drewN n = w') : Calls P f args (w.drewN n) fun e w' => e = .returned v ∧ ∃ m, w' = w.drewN m :=
  h.mono fun _ _ ⟨he, hm⟩ => ⟨he, n, hm.symm⟩
theorem quiet_add {P : Program} {f : FuncId} {args : Array Value} {w : World} {a n : Nat} {v : Value}
    (h : Calls P f args (w.drewN (a + n)) fun e w' => e = .returned v ∧ ∃ m, w' = (w.drewN (a + n)).drewN m) :
    Calls P f args (w.drewN (a + n)) fun e w'' => e = .returned v ∧ ∃ m, w'' = w.drewN (a + m) :=
  h.mono fun _ _ ⟨he, m, hm⟩ => ⟨he, n + m, by rw [hm, World.drewN_drewN, Nat.add_assoc]⟩
theorem quiet_add_left {P : Program} {f : FuncId} {args : Array Value} {w : World} {a n : Nat} {v : Value}
    (h : Calls P f args (w.drewN (a + n)) fun e w' => e = .returned v ∧ w.drewN (a + n) = w') :
    Calls P f args (w.drewN (a + n)) fun e w'' => e = .returned v ∧ ∃ m, w'' = w.drewN (a + m) :=
  h.mono fun _ _ ⟨he, hm⟩ => ⟨he, n, hm.symm⟩
theorem Byt.drewN {p : Nat → Prop} {w : World} {A : Option Addr} {n c : Nat} {l : List F} (h : Byt p w A n c l) (k : Nat) : Byt p (w.drewN k) A n c l := h.keep ((Keeps.refl p w).drewN k)
theorem Rag.drewN {p : Nat → Prop} {w : World} {A : Option Addr} {n c : Nat} {R : Nat → Option Addr} {L C : Nat → Nat} {M : List (List F)} (h : Rag p w A n c R L C M) (k : Nat) : Rag p (w.drewN k) A n c R L C M := h.keep ((Keeps.refl p w).drewN k)
theorem Mat.drewN {p : Nat → Prop} {w : World} {A : Option Addr} {n c m : Nat} {R : Nat → Option Addr} {C : Nat → Nat} {M : List (List F)} (h : Mat p w A n c R m C M) (k : Nat) : Mat p (w.drewN k) A n c R m C M := h.keep ((Keeps.refl p w).drewN k)
theorem Ints.drewN {p : Nat → Prop} {w : World} {A : Option Addr} {n c : Nat} {l : List Int} (h : Ints p w A n c l) (k : Nat) : Ints p (w.drewN k) A n c l := h.keep ((Keeps.refl p w).drewN k)
section
variable {p q : Nat → Prop} {w w' : World} {A B : Option Addr} {n c m d : Nat} {R S : Nat → Option Addr} {L C K D : Nat → Nat} {M N : List (List F)}
set_option maxHeartbeats 400000 in
theorem same_any (h : Rag p w A n c R L C M) (g : Rag q w B m d S K D N) : Calls Try.prog 32 #[.slice A n c, .slice B m d] w fun e w' => e = .returned (.bool (decide (M = N))) ∧ ∃ m, w' = w.drewN m := by
  have hn := h.row.len
  have hm := g.row.len
  by_cases hne : n = m
  case neg =>
    have ht : ((n : Int) != (m : Int)) = true := by simp; exact fun e => hne (by omega)
    replace hne := Lib.hid hne
    go_enter Try.func32, Try.ntmps32
    go_wp2
    go_ret
    exact ⟨ret_bool (by rw [eq_comm, decide_eq_false_iff_not]; intro e; exact hne.out (by rw [← h.len, ← g.len, e])), 0, rfl⟩
  subst hne
  have ht : ((n : Int) != (n : Int)) = false := by simp
  go_enter Try.func32, Try.ntmps32
  go_wp2
  go_loopw [5] (fun i wr => ∃ k m : Nat, k ≤ n ∧ i = .int .i64 k ∧ wr = w.drewN m ∧ ∀ j, j < k → mrow M j = mrow N j) (fun i _ => n - (intOf i).toNat)
  case atStart => exact ⟨0, 0, by omega, rfl, rfl, fun j hj => absurd hj (Nat.not_lt_zero _)⟩
  case round =>
    obtain ⟨k, m, hk, rfl, rfl, hall⟩ := hrel
    replace hall := Lib.hid hall
    by_cases hlt : k < n
    · obtain ⟨b, o, rfl, _, _, hc⟩ := h.row.at_ (by omega)
      obtain ⟨b', o', rfl, _, _, hc'⟩ := g.row.at_ (by omega)
      have e1 := hc k hlt
      have e2 := hc' k hlt
      clear hc hc'
      have b1 : (0 : Int) ≤ (k : Int) := Int.natCast_nonneg _
      have b2 : (k : Int) < (n : Int) := by omega
      have r1 := h.rows k hlt
      have r2 := g.rows k hlt
      by_cases heq : mrow M k = mrow N k
      · have heq2 : decide (mrow M k = mrow N k) = true := decide_eq_true heq
        replace heq := Lib.hid heq
        go_wp2
        go_quiet ((go_at_call 43; exact quiet_add_left (same01_any (r1.drewN _) (r2.drewN _))))
        go_wp2
        go_roundw
        case rel => exact ⟨k + 1, _, by omega, by go_num, rfl, fun j hj => by
            rcases Nat.lt_succ_iff_lt_or_eq.1 hj with hj | rfl
            · exact hall.out j hj
            · exact heq.out⟩
        case measure => simp [intOf]; omega
      · have heq2 : decide (mrow M k = mrow N k) = false := decide_eq_false heq
        replace heq := Lib.hid heq
        go_wp2
        go_quiet ((go_at_call 43; exact quiet_add_left (same01_any (r1.drewN _) (r2.drewN _))))
        go_wp2
        go_ret
        exact ⟨ret_bool (by rw [eq_comm, decide_eq_false_iff_not]; intro e; exact heq.out (by rw [e])), _, World.drewN_drewN ..⟩
    · obtain rfl : k = n := by omega
      go_wp2
      go_ret
      exact ⟨ret_bool (by rw [eq_comm, decide_eq_true_eq]; exact mrow_ext (h.len.trans g.len.symm) (fun j hj => hall.out j (by rw [← h.len]; exact hj))), _, rfl⟩
theorem sameints_any {l k : List Int} (h : Ints p w A n c l) (g : Ints q w B m d k) : Calls Try.prog 36 #[.slice A n c, .slice B m d] w fun e w' => e = .returned (.bool (decide (l = k))) ∧ ∃ m, w' = w.drewN m := by
  have hn := h.row.len
  have hm := g.row.len
  by_cases hne : n = m
  case neg =>
    have ht : ((n : Int) != (m : Int)) = true := by simp; exact fun e => hne (by omega)
    replace hne := Lib.hid hne
    go_enter Try.func36, Try.ntmps36
    go_wp2
    go_ret
    exact ⟨ret_bool (by rw [eq_comm, decide_eq_false_iff_not]; intro e; exact hne.out (by rw [← h.len, ← g.len, e])), 0, rfl⟩
  subst hne
  have ht : ((n : Int) != (n : Int)) = false := by simp
  go_enter Try.func36, Try.ntmps36
  go_wp2
  go_loopw [5] (fun i wr => ∃ i' m : Nat, i' ≤ n ∧ i = .int .i64 i' ∧ wr = w.drewN m ∧ ∀ j, j < i' → nti l j = nti k j) (fun i _ => n - (intOf i).toNat)
  case atStart => exact ⟨0, 0, by omega, rfl, rfl, fun j hj => absurd hj (Nat.not_lt_zero _)⟩
  case round =>
    obtain ⟨i, m, hk, rfl, rfl, hall⟩ := hrel
    replace hall := Lib.hid hall
    by_cases hlt : i < n
    · obtain ⟨b, o, rfl, _, _, hc⟩ := h.row.at_ (by omega)
      obtain ⟨b', o', rfl, _, _, hc'⟩ := g.row.at_ (by omega)
      have e1 := hc i hlt
      have e2 := hc' i hlt
      clear hc hc'
      have b1 : (0 : Int) ≤ (i : Int) := Int.natCast_nonneg _
      have b2 : (i : Int) < (n : Int) := by omega
      by_cases heq : nti l i = nti k i
      · have heq2 : (nti l i != nti k i) = false := by rw [heq]; simp
        replace heq := Lib.hid heq
        go_wp2
        go_quiet (fail)
        go_wp2
        go_roundw
        case rel => exact ⟨i + 1, _, by omega, by go_num, rfl, fun j hj => by
            rcases Nat.lt_succ_iff_lt_or_eq.1 hj with hj | rfl
            · exact hall.out j hj
            · exact heq.out⟩
        case measure => simp [intOf]; omega
      · have heq2 : (nti l i != nti k i) = true := by simp; exact heq
        replace heq := Lib.hid heq
        go_wp2
        go_quiet (fail)
        go_wp2
        go_ret
        exact ⟨ret_bool (by rw [eq_comm, decide_eq_false_iff_not]; intro e; exact heq.out (by rw [e])), _, World.drewN_drewN ..⟩
    · obtain rfl : i = n := by omega
      go_wp2
      go_ret
      exact ⟨ret_bool (by rw [eq_comm, decide_eq_true_eq]; exact nti_ext (h.len.trans g.len.symm) (fun j hj => hall.out j (by rw [← h.len]; exact hj))), _, rfl⟩
end

theorem toNat_ne_zero (u : F) : ((u.toNat : Int) != 0) = (u != 0) := by
  rw [bne, bne, toNat_eq_zero]
section
variable {p q : Nat → Prop} {w w' : World} {A B : Option Addr} {n c m d : Nat} {l : List F}
theorem reflead_any (h : Byt p w A n c l) : Calls Try.prog 94 #[.slice A n c] w fun e w' => e = .returned (.int .i64 (lead l)) ∧ w = w' := by
  have hn := h.row.len
  go_enter Try.func94, Try.ntmps94
  go_wp2
  go_loop [3] (fun i => ∃ k : Nat, k ≤ n ∧ i = .int .i64 k ∧ ∀ j, j < k → nth l j = 0) (fun i => n - (intOf i).toNat)
  case atStart => exact ⟨0, by omega, rfl, fun j hj => absurd hj (Nat.not_lt_zero _)⟩
  case round =>
    obtain ⟨k, hk, rfl, hall⟩ := hrel
    replace hall := Lib.hid hall
    by_cases hlt : k < n
    · obtain ⟨b, o, rfl, _, _, hc⟩ := h.at_ (by omega)
      have e1 := hc k hlt
      clear hc
      by_cases hz : nth l k = 0
      · have ht : (((nth l k).toNat : Int) != 0) = false := by rw [toNat_ne_zero, hz]; rfl
        replace hz := Lib.hid hz
        go_wp2
        go_round
        case rel => exact ⟨k + 1, by omega, by go_num, fun j hj => by
            rcases Nat.lt_succ_iff_lt_or_eq.1 hj with hj | rfl
            · exact hall.out j hj
            · exact hz.out⟩
        case measure => simp [intOf]; omega
      · have ht : (((nth l k).toNat : Int) != 0) = true := by rw [toNat_ne_zero]; simpa using hz
        replace hz := Lib.hid hz
        go_wp2
        go_ret
        exact ⟨ret_i64 (lead_of (by rw [h.len]; exact hlt) hz.out hall.out).symm, rfl⟩
    · obtain rfl : k = n := by omega
      go_wp2
      go_ret
      exact ⟨ret_i64 (lead_none (by rw [h.len]; exact hall.out)).symm, rfl⟩
theorem isnz_any (u : F) (w : World) : Calls Try.prog 147 #[.int .u8 (u.toNat : Int)] w fun e w' => e = .returned (.bool (u != 0)) ∧ w = w' := by
  have ht := toNat_ne_zero u
  go_enter Try.func147, Try.ntmps147
  go_wp2
  go_ret
  exact ⟨rfl, rfl⟩
theorem index_any (h : Byt p w A n c l) : Calls Try.prog 146 #[.slice A n c, .func (.func 147) #[] #[]] w fun e w' => e = .returned (.int .i64 (lead l)) ∧ w = w' := by
  have hn := h.row.len
  go_enter Try.func146, Try.ntmps146
  go_wp2
  go_loop [5, 8] (fun _ i => ∃ k : Nat, k ≤ n ∧ i = .int .i64 k ∧ ∀ j, j < k → nth l j = 0) (fun _ i => n - (intOf i).toNat)
  case atStart => exact ⟨0, by omega, rfl, fun j hj => absurd hj (Nat.not_lt_zero _)⟩
  case round =>
    obtain ⟨k, hk, rfl, hall⟩ := hrel
    replace hall := Lib.hid hall
    by_cases hlt : k < n
    · obtain ⟨b, o, rfl, _, _, hc⟩ := h.at_ (by omega)
      have e1 := hc k hlt
      clear hc
      by_cases hz : nth l k = 0
      · have ht : (nth l k != 0) = false := by rw [hz]; rfl
        replace hz := Lib.hid hz
        go_wp2_with (go_at_call 147; refine (isnz_any _ _).mono ?_; rintro e w' ⟨rfl, rfl⟩)
        go_round
        case rel => exact ⟨k + 1, by omega, by go_num, fun j hj => by
            rcases Nat.lt_succ_iff_lt_or_eq.1 hj with hj | rfl
            · exact hall.out j hj
            · exact hz.out⟩
        case measure => simp [intOf]; omega
      · have ht : (nth l k != 0) = true := by simpa using hz
        replace hz := Lib.hid hz
        go_wp2_with (go_at_call 147; refine (isnz_any _ _).mono ?_; rintro e w' ⟨rfl, rfl⟩)
        go_ret
        exact ⟨ret_i64 (lead_of (by rw [h.len]; exact hlt) hz.out hall.out).symm, rfl⟩
    · obtain rfl : k = n := by omega
      go_wp2
      go_ret
      exact ⟨ret_i64 (lead_none (by rw [h.len]; exact hall.out)).symm, rfl⟩
/-! ### slices.Clone of bytes -/
theorem own_new {base : Nat} {w : World} (e : TypeId) (hb : base ≤ w.heap.size) : (w.alloc (.cells #[] e)).ownsRow base e 1 (.slice (some ⟨w.heap.size, 0, none⟩) 0 0) 0 [] :=
  ⟨by simp, .inr ⟨w.heap.size, 0, #[], rfl, hb, heap_alloc_new w _, Nat.le_refl _, Nat.zero_le _, by simp, by simp⟩⟩
theorem map_bytes {l : List F} (h : l.length = n) : ((List.range n).map fun j => Value.int .u8 ((nth l j).toNat : Int)) = l.map fun u => .int .u8 (u.toNat : Int) := by
  subst h
  apply List.ext_getElem (by simp)
  intro i h1 h2
  simp at h1
  simp [nth_of_lt h1]
theorem own_bytes {base : Nat} {v : Value} (h : w.ownsRow base 5 1 v n (l.map fun u => .int .u8 (u.toNat : Int))) :
    ∃ A c, v = .slice A n c ∧ Byt (fun b => base ≤ b ∧ some b = v.ownBlock) w A n c l := by
  obtain ⟨A, c, e, hr⟩ := own_slice h
  have hl : l.length = n := by simpa using h.1
  exact ⟨A, c, e, hl, hr.congr fun j hj => by rw [nth_of_lt (by omega), List.getD_eq_getElem?_getD]; simp [hl, hj]⟩
set_option maxRecDepth 20000 in
theorem clone_any (h : Byt p w A n c l) (hn : n ≤ 65536) : Calls Try.prog 92 #[.slice A n c] w fun e w' => ∃ A' c', e = .returned (.slice A' n c') ∧ Byt (fun b => w.heap.size ≤ b) w' A' n c' l ∧ Below w.heap.size w w' := by
  cases A with
  | none =>
    have h0 : n = 0 := by
      rcases Nat.eq_zero_or_pos n with h0 | h0
      · exact h0
      · obtain ⟨b, o, e, _⟩ := h.at_ h0; cases e
    subst h0
    have kn := fun w' => Lib.run_eql_slice_nil (P := Try.prog) w' 28 5 none 0 c 0 0 Try.underlying28
    go_enter Try.func92, Try.ntmps92
    go_wp2
    go_ret
    exact ⟨none, 0, rfl, ⟨h.len, Row.nil _ _ _ (Nat.zero_le _) _⟩, Below.refl _ _⟩
  | some a =>
    have kn := fun w' => Lib.run_eql_slice_nil (P := Try.prog) w' 28 5 (some a) n c 0 0 Try.underlying28
    go_enter Try.func92, Try.ntmps92
    go_wp2_with (at_builtin; refine wpl_append_row rfl rfl Try.underlying28 info5 rfl rfl (own_new 5 (Nat.le_refl _)) rfl (h.row.keep (Keeps.alloc _ _)) (fun _ _ => rfl) (by unfold maxLen; omega) (by omega) (by simp) ?_; intro v' w1 hown hgr _)
    go_ret
    simp only [Nat.zero_add, List.nil_append, map_bytes h.len] at hown
    obtain ⟨A', c', e, hb⟩ := own_bytes hown
    exact ⟨A', c', by rw [← e]; rfl, hb.mono (fun _ _ hx => hx.1), ((Below.refl _ _).alloc (Nat.le_refl _) _).grown hgr (by simp) (fun k hk => by have hk' : some w.heap.size = some k := hk; cases hk'; exact Nat.le_refl _)⟩
end
end Go.Proofs.Ytifhjigkljdkmaa
