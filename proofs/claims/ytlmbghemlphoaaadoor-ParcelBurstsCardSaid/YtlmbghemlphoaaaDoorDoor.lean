/- What the listed variable's reading gives: the table, as it lies in memory. -/
import Derived.Test.YtlmbghemlphoaaaDoorCrcAwake
import Derived.Test.YtlmbghemlphoaaaDoorTie
import Derived.Lib.LaidTab
import Derived.LaidMore
import Derived.Stop.Joined
import Derived.MakeChecks
namespace Go.Proofs.YtlmbghemlphoaaaDoor.Door
open Go.ChangeShapes Go.WideShapes Go.ChangeAt Go.RowKit Go.Proofs.YtlmbghemlphoaaaDoor.Kit Go.Proofs.YtlmbghemlphoaaaDoor.Crc Go.Proofs.YtlmbghemlphoaaaDoor.CrcM
theorem gN : Tryd.prog.globalNamed "diapause/crc.halves" = some 0 := by kernel_rfl
theorem gT : (Tryd.prog.globals[0]?).map (·.type) = some 69 := by kernel_rfl
theorem halves_at : ∀ i < 16, (halves.map fun n : Nat => (n : Int)).getD i 0 = ((half i).toNat : Int) := by decide
/-- The table, out of the row's condition. -/
theorem tab_of {W : World} (h : laidMetH Tryd.prog [("diapause/crc.halves", Rows.laid_diapause_crc_halves)] W) : Hid (Tab W) := by
  rw [MakeChecks.laidMetH_plain _ _ _ (by kernel_rfl)] at h
  have e : (Rows.laid_diapause_crc_halves : DataW Unit) = Lib.tabData .u32 (halves.map fun n : Nat => (n : Int)) := rfl
  rw [e] at h
  have hT := Lib.tabIs_of_head gN gT Tryd.underlying69 Tryd.underlying36 (by kernel_rfl) (by kernel_rfl) h
  intro i hi
  rw [hT.cell gN i hi, halves_at i hi]
end Go.Proofs.YtlmbghemlphoaaaDoor.Door
