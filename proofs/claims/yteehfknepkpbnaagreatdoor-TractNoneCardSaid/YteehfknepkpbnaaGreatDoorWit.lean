/- A world for the witness of the rows: every listed variable laid. -/
import Derived.Test.YteehfknepkpbnaaGreatDoorNone
import Derived.KernelRfl
namespace Go.Proofs.YteehfknepkpbnaaGreatDoor
open Go.ChangeShapes Go.WideShapes Go.ChangeAt Go.RowKit

def arg0 : Array Value := #[.agg #[.int .i64 0, .int .u64 0, .int .u64 0, .int .u8 0, .string ⟨#[]⟩, .slice none 0 0, .float .f64 0, .int .i64 0], .int .u8 0]
noncomputable def witW (os : Os) : World := World.laidAll Tryz.prog os Rows.tractNoneRow.laid
theorem witOs (os : Os) : (witW os).os = os := World.laidAll_os _ _ _
theorem witFits (os : Os) : (World.holding Tryz.prog os ⟨#[], #[], []⟩).layFits Tryz.prog Rows.tractNoneRow.laid [] = true := by kernel_rfl
theorem witIfaces (os : Os) : (World.holding Tryz.prog os ⟨#[], #[], []⟩).layIfaces Tryz.prog Rows.tractNoneRow.laid (World.laidAll Tryz.prog os Rows.tractNoneRow.laid) = true := by kernel_rfl
theorem witShape (os : Os) : ((witW os).forCall (fun _ _ => 0) ⟨#[], arg0, []⟩).Shaped Tryz.prog := World.shaped_of_ZipB (by kernel_rfl) (by kernel_rfl)
theorem witOk (os : Os) : Input.okWideB Tryz.prog ((witW os).forCall (fun _ _ => 0) ⟨#[], arg0, []⟩) 6 ⟨#[], arg0, []⟩ = true := by kernel_rfl
theorem witLaid (os : Os) : laidMetH Tryz.prog Rows.tractNoneRow.laid ((witW os).forCall (fun _ _ => 0) ⟨#[], arg0, []⟩).memory := by
  rw [MakeChecks.laidMetH_plain _ _ _ (by kernel_rfl)]
  exact laidMet_laidAll arg0 (witFits os) (witIfaces os)
end Go.Proofs.YteehfknepkpbnaaGreatDoor
