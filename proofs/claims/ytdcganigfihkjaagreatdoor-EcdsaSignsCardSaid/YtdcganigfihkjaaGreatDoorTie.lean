/-
  DERIVED. GIVEN WITH THE SEED: THE PROGRAM's TIES (one call each: nine closed facts by the kernel) AND EACH ROW's TIE, after the 31st guide's Derived/Test/Toyas{Tie, Card}.lean. No idea stands in it: it is a product of the set-up. Laid BY PROGRAM, IN A SANDBOX (cutbox-door.mjs). By AI agents, Wed Nov 11 2026. No macro, syntax, notation, axiom, sorry.
-/
import Derived.Test.YtdcganigfihkjaaGreatDoorRows
import Derived.LaidByTextLater
import Derived.SevenTiedAt
import Derived.LaidSub
import Derived.LaidOnce
namespace Go.Proofs.YtdcganigfihkjaaGreatDoor
open Go
set_option maxRecDepth 100000
theorem seatTie1 : Tryz.prog.laidByTextLater [("chronicle/field.moduli", Rows.laid_chronicle_field_moduli), ("chronicle/sha256.first", Rows.laid_chronicle_sha256_first), ("chronicle/sha256.constants", Rows.laid_chronicle_sha256_constants), ("chronicle/p256.b", Rows.laid_chronicle_p256_b), ("chronicle/p256.one", Rows.laid_chronicle_p256_one)] [.data, .data, .data, .data, .data] true :=
  Program.laidByTextLater_by_one 46 8 65 (by kernel_rfl) (by kernel_rfl) (by kernel_rfl) (by kernel_rfl) (by kernel_rfl) (by kernel_rfl) (fun _ _ => by kernel_rfl)
theorem noOwnUnsafe : Tryz.pinned.checked.prog.headLifts.contains "ownunsafe" = false := by kernel_rfl
theorem tie : Tryz.prog.laidByTextLater [("chronicle/field.moduli", Rows.laid_chronicle_field_moduli), ("chronicle/sha256.first", Rows.laid_chronicle_sha256_first), ("chronicle/sha256.constants", Rows.laid_chronicle_sha256_constants), ("chronicle/p256.b", Rows.laid_chronicle_p256_b), ("chronicle/p256.one", Rows.laid_chronicle_p256_one)] [.data, .data, .data, .data, .data] true :=
  Program.laidByTextLater.sub seatTie1 ["chronicle/field.moduli", "chronicle/sha256.first", "chronicle/sha256.constants", "chronicle/p256.b", "chronicle/p256.one"] (by kernel_rfl) (by kernel_rfl)
theorem ecdsaVerifies_row_tie : Rows.ecdsaVerifiesRow.laidByTextAt .later Tryz.pinned [.data, .data, .data, .data, .data] true :=
  OpenClaim.laidByTextAt_later rfl rfl tie noOwnUnsafe
theorem ecdsaSigns_row_tie : Rows.ecdsaSignsRow.laidByTextAt .later Tryz.pinned [.data, .data, .data, .data, .data] true :=
  OpenClaim.laidByTextAt_later rfl rfl tie noOwnUnsafe
theorem ecdsaVerifiesUpto_row_tie : Rows.ecdsaVerifiesUptoRow.laidByTextAt .later Tryz.pinned [.data, .data, .data, .data, .data] true :=
  OpenClaim.laidByTextAt_later rfl rfl tie noOwnUnsafe
theorem ecdsaSignsUpto_row_tie : Rows.ecdsaSignsUptoRow.laidByTextAt .later Tryz.pinned [.data, .data, .data, .data, .data] true :=
  OpenClaim.laidByTextAt_later rfl rfl tie noOwnUnsafe
end Go.Proofs.YtdcganigfihkjaaGreatDoor
