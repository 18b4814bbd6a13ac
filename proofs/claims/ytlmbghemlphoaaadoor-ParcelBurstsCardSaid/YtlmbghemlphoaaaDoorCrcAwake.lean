/- The walks of crc's examples, and of two laws that hold the program against the document's answer. -/
import Derived.Test.YtlmbghemlphoaaaDoorCrcRef
namespace Go.Proofs.YtlmbghemlphoaaaDoor.Crc
open Go.RowKit Go.Proofs.YtlmbghemlphoaaaDoor.Kit Go.Proofs.YtlmbghemlphoaaaDoor.CrcM
set_option linter.unusedVariables false
set_option linter.unusedSimpArgs false
theorem tab_below {w w1 : World} (h : Hid (Tab w)) (hb : Below w.heap.size w w1) : Hid (Tab w1) := by
  intro i hi
  have hc := h.out i hi
  rw [← hc]
  exact hb.cell (p := ⟨0, i, none⟩) (cell_lt hc)
/-- The example's nine bytes. -/
def nine : List (BitVec 8) := [49#8, 50#8, 51#8, 52#8, 53#8, 54#8, 55#8, 56#8, 57#8]
theorem more_nine : more 0#32 nine = 3421780262#32 := by decide +kernel
theorem more_nil : more 0#32 [] = 0#32 := by decide +kernel
theorem bytes_nine (w : World) (r : Nat × Nat) : Hid (Bytes (w.alloc (.cells #[.int .u8 49, .int .u8 50, .int .u8 51, .int .u8 52, .int .u8 53, .int .u8 54, .int .u8 55, .int .u8 56, .int .u8 57] 5 r)) (some ⟨w.heap.size, 0, none⟩) nine) := by
  intro i hi
  refine ⟨_, rfl, ?_⟩
  have hb := blk_cell (blk_new w (.cells #[.int .u8 49, .int .u8 50, .int .u8 51, .int .u8 52, .int .u8 53, .int .u8 54, .int .u8 55, .int .u8 56, .int .u8 57] 5 r)) i
  have e : (⟨w.heap.size, 0, none⟩ : Addr).add i = ⟨w.heap.size, i, none⟩ := by
    unfold Addr.add
    split
    · rename_i h
      rw [h]
    · simp
  rw [e, hb]
  have hi' : i < 9 := hi
  match i, hi' with
  | 0, _ => rfl
  | 1, _ => rfl
  | 2, _ => rfl
  | 3, _ => rfl
  | 4, _ => rfl
  | 5, _ => rfl
  | 6, _ => rfl
  | 7, _ => rfl
  | 8, _ => rfl
end Go.Proofs.YtlmbghemlphoaaaDoor.Crc
