/- Two arrays of four integers, compared. -/
import Derived.Test.YtokkbboahajbhaaGreatDoorCallSame
import Derived.ChangeKeysEq
namespace Go.Proofs.YtokkbboahajbhaaGreatDoor
open Go.RowKit
theorem int_info : (Tryz.prog.info? 3).map (fun i => (i.zero, i.size, i.bytes)) = some (some (.int .i64 0), 1, 8) := by kernel_rfl
theorem part_at (w : World) (c0 c1 c2 c3 : Int) (k : Nat) (hk : k < 4) : (part 3 #[.int .i64 c0, .int .i64 c1, .int .i64 c2, .int .i64 c3] k).run Tryz.prog w = .ok (.int .i64 ([c0, c1, c2, c3].getD k 0)) w := by
  match k, hk with
  | 0, _ => show _ = _; kernel_rfl
  | 1, _ => show _ = _; kernel_rfl
  | 2, _ => show _ = _; kernel_rfl
  | 3, _ => show _ = _; kernel_rfl
theorem int_eq (w : World) (d : Nat) (x y : Int) : (Op.equalIn (d + 1) 3 (.int .i64 x) (.int .i64 y)).run Tryz.prog w = .ok (x == y) w := by
  simp [Op.equalIn, run_underlying Tryz.underlying3]
theorem arr_eq (x0 x1 x2 x3 y0 y1 y2 y3 : Int) (w : World) : (Op.equalIn 10000 25 (.agg #[.int .i64 x0, .int .i64 x1, .int .i64 x2, .int .i64 x3]) (.agg #[.int .i64 y0, .int .i64 y1, .int .i64 y2, .int .i64 y3])).run Tryz.prog w = .ok ((x0 == y0) && ((x1 == y1) && ((x2 == y2) && (x3 == y3)))) w := by
  obtain ⟨i0, hi, _⟩ := info_parts int_info
  have hc : Tryz.prog.cellsOf 3 = 1 := by kernel_rfl
  rw [run_equalIn_array w 9999 _ _ Tryz.underlying25 hi, hc, show List.range 4 = [0, 1, 2, 3] from rfl]
  simp only [Op.eqItems, Sem.run_bind, Nat.mul_one, part_at _ _ _ _ _ 0 (by omega), part_at _ _ _ _ _ 1 (by omega), part_at _ _ _ _ _ 2 (by omega), part_at _ _ _ _ _ 3 (by omega), Result.andThen_ok, int_eq _ 9998]
  cases h0 : (x0 == y0) <;> cases h1 : (x1 == y1) <;> cases h2 : (x2 == y2) <;> cases h3 : (x3 == y3) <;> simp [h0, h1, h2, h3, part_at _ _ _ _ _ 1 (by omega), part_at _ _ _ _ _ 2 (by omega), part_at _ _ _ _ _ 3 (by omega), int_eq _ 9998]
end Go.Proofs.YtokkbboahajbhaaGreatDoor
