/- The writes of pieces: what a list of them reads; two equal ones compared. -/
import Derived.Test.YtifhjigkljdkmaaFr
namespace Go.Proofs.Ytifhjigkljdkmaa
open Go.RowKit
open Gf (F)
set_option linter.unusedSimpArgs false
set_option linter.unusedVariables false
/-- The cells of a write: the group's number, the piece's, the version, the block. -/
def wrE (a : Int) (v : Int) (z : Int) (x : List F) : Array Value := #[.int .i64 a, .int .i64 z, .int .u64 v] ++ agc x
theorem wrE_size {a v z : Int} {x : List F} (h : x.length = 8) : (wrE a v z x).size = 11 := by simp [wrE, agc_size, h]
theorem wrE_one (a v z : Int) (x : List F) : ∀ u, u ∈ wrE a v z x → u.oneCell' = true := by
  intro u hu
  simp only [wrE, Array.mem_append] at hu
  rcases hu with hu | hu
  · simp at hu; rcases hu with rfl | rfl | rfl <;> rfl
  · exact agc_one _ u hu
theorem eight {x : List F} (h : x.length = 8) : ∃ a b c d e f g i, x = [a, b, c, d, e, f, g, i] := by
  match x, h with
  | [a, b, c, d, e, f, g, i], _ => exact ⟨a, b, c, d, e, f, g, i, rfl⟩
theorem build151 (w : World) (a v z : Int) {x : List F} (h : x.length = 8) : (Instr.build 151 #[(0, .int .i64 a), (1, .int .i64 z), (2, .int .u64 v), (3, .agg (agc x))]).run Try.prog w = .ok (.agg (wrE a v z x)) w := by
  obtain ⟨a1, a2, a3, a4, a5, a6, a7, a8, rfl⟩ := eight h
  kernel_rfl
theorem info151f : (Try.prog.info? 151).map (fun i => (i.zero, i.size, i.bytes)) = some (some (.agg #[.int .i64 0, .int .i64 0, .int .u64 0, .int .u8 0, .int .u8 0, .int .u8 0, .int .u8 0, .int .u8 0, .int .u8 0, .int .u8 0, .int .u8 0]), 11, 32) := by kernel_rfl
theorem info151 {a v z : Int} {x : List F} (hx : x.length = 8) : (Try.prog.info? 151).map (·.size) = some (wrE a v z x).size := by rw [wrE_size hx]; kernel_rfl
theorem guard151 (op : BinOp) (x y : Operand) (u v : Array Value) (w : World) : (eqGuard op 151 x y (.agg u) (.agg v)).run Try.prog w = .ok () w := run_eqGuard_agg w op 151 x y u v (by kernel_rfl)
theorem neq151 (w : World) (a v z : Int) {x : List F} (h : x.length = 8) : (binOp .neq 151 (.agg (wrE a v z x)) (.agg (wrE a v z x))).run Try.prog w = .ok (.bool false) w := by
  have hx := h
  obtain ⟨a1, a2, a3, a4, a5, a6, a7, a8, rfl⟩ := eight h
  have p0 : (Go.part 3 (wrE a v z [a1, a2, a3, a4, a5, a6, a7, a8]) 0).run Try.prog w = .ok (.int .i64 a) w := by kernel_rfl
  have p1 : (Go.part 3 (wrE a v z [a1, a2, a3, a4, a5, a6, a7, a8]) 1).run Try.prog w = .ok (.int .i64 z) w := by kernel_rfl
  have p2 : (Go.part 82 (wrE a v z [a1, a2, a3, a4, a5, a6, a7, a8]) 2).run Try.prog w = .ok (.int .u64 v) w := by kernel_rfl
  have p3 : (Go.part 64 (wrE a v z [a1, a2, a3, a4, a5, a6, a7, a8]) 3).run Try.prog w = .ok (.agg (agc [a1, a2, a3, a4, a5, a6, a7, a8])) w := by kernel_rfl
  have q0 : (Op.equalIn 9999 3 (.int .i64 a) (.int .i64 a)).run Try.prog w = .ok true w := by
    have := run_equalIn_int (P := Try.prog) w 9998 3 .i64 .i64 a a Try.underlying3
    rwa [beq_self_eq_true] at this
  have q1 : (Op.equalIn 9999 3 (.int .i64 z) (.int .i64 z)).run Try.prog w = .ok true w := by
    have := run_equalIn_int (P := Try.prog) w 9998 3 .i64 .i64 z z Try.underlying3
    rwa [beq_self_eq_true] at this
  have q2 : (Op.equalIn 9999 82 (.int .u64 v) (.int .u64 v)).run Try.prog w = .ok true w := by
    have := run_equalIn_int (P := Try.prog) w 9998 82 .u64 .u64 v v Try.underlying82
    rwa [beq_self_eq_true] at this
  have q3 : (Op.equalIn 9999 64 (.agg (agc [a1, a2, a3, a4, a5, a6, a7, a8])) (.agg (agc [a1, a2, a3, a4, a5, a6, a7, a8]))).run Try.prog w = .ok true w := by
    have := run_equalIn_bytes w 9997 64 5 8 Try.underlying64 Try.underlying5 sizeOf5 [a1, a2, a3, a4, a5, a6, a7, a8] [a1, a2, a3, a4, a5, a6, a7, a8] rfl rfl
    rwa [beq_self_eq_true] at this
  rw [run_neq_struct, show (10000 : Nat) = 9999 + 1 from rfl, run_equalIn_struct w 9999 151 _ _ (by kernel_rfl) (by kernel_rfl)]
  generalize wrE a v z [a1, a2, a3, a4, a5, a6, a7, a8] = E at p0 p1 p2 p3
  simp only [Program.fieldsOf, Try.underlying151]
  simp [Op.eqFields, Sem.run_bind, p0, p1, p2, p3, q0, q1, q2, q3, Result.andThen]
end Go.Proofs.Ytifhjigkljdkmaa
