/- The walk of DerBack. -/
import Derived.Test.YteicdkknciljhaaLaw10b
import Derived.ChangeKeysEq
namespace Go.Proofs.Yteicdkknciljhaa
open Go.RowKit Go.Chr Go.ChangeMaps

theorem info_u64 : (Try.prog.info? 24).isSome = true := by kernel_rfl
theorem cellsOf64 : Try.prog.cellsOf 24 = 1 := by kernel_rfl

theorem run_eql_nat (w : World) (a0 a1 a2 a3 b0 b1 b2 b3 : Int) :
    (binOp .eql 26 (.agg #[.int .u64 a0, .int .u64 a1, .int .u64 a2, .int .u64 a3]) (.agg #[.int .u64 b0, .int .u64 b1, .int .u64 b2, .int .u64 b3])).run Try.prog w = .ok (.bool (decide ([a0, a1, a2, a3] = [b0, b1, b2, b3]))) w := by
  obtain ⟨i, hi⟩ := Option.isSome_iff_exists.1 info_u64
  rw [run_eql_struct, show (10000 : Nat) = 9999 + 1 from rfl, run_equalIn_array w 9999 _ _ Try.underlying26 hi, cellsOf64, show List.range 4 = [0, 1, 2, 3] from rfl]
  have e := fun (w : World) (a b : Int) => run_equalIn_int w 9998 24 .u64 .u64 a b Try.underlying24
  by_cases h0 : a0 = b0
  · by_cases h1 : a1 = b1
    · by_cases h2 : a2 = b2
      · by_cases h3 : a3 = b3
        · simp [Op.eqItems, part, e, h0, h1, h2, h3]
        · simp [Op.eqItems, part, e, h0, h1, h2, h3]
      · simp [Op.eqItems, part, e, h0, h1, h2]
    · simp [Op.eqItems, part, e, h0, h1]
  · simp [Op.eqItems, part, e, h0]
end Go.Proofs.Yteicdkknciljhaa
