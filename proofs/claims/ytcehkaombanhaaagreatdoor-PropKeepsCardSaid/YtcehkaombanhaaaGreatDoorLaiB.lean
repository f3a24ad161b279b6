/- What the listed variables give: 'G'. -/
import Derived.Test.YtcehkaombanhaaaGreatDoorCorB
import Derived.Test.YtcehkaombanhaaaGreatDoorRows
import Derived.Lib.LaidTab
import Derived.LaidLaws
import Derived.Stop.LaidErr
namespace Go.Proofs.YtcehkaombanhaaaGreatDoor
open Go Go.RowKit Go.ChangeShapes

theorem g_tab : Tryz.prog.globalNamed "internal/strconv.uint64pow10" = some 6 := by kernel_rfl
theorem t_tab : (Tryz.prog.globals[6]?).map (·.type) = some 158 := by kernel_rfl
theorem c_tab : Tryz.prog.cellsOf 158 = 20 := by kernel_rfl
theorem c_u64 : Tryz.prog.cellsOf 64 = 1 := by kernel_rfl
theorem pow10_data : (Rows.laid_internal_strconv_uint64pow10 : DataW Unit) = Lib.tabData .u64 Lib.pow10Tab := by kernel_rfl
theorem g_of_laidMet {W : World} {a b c : String × DataW Unit} {l : List (String × DataW Unit)} (hL : laidMet Tryz.prog (a :: b :: c :: ("internal/strconv.uint64pow10", Rows.laid_internal_strconv_uint64pow10) :: l) W) : G W := by
  have h1 : laidMet Tryz.prog (b :: c :: ("internal/strconv.uint64pow10", Rows.laid_internal_strconv_uint64pow10) :: l) W := hL.tail
  have h2 : laidMet Tryz.prog (c :: ("internal/strconv.uint64pow10", Rows.laid_internal_strconv_uint64pow10) :: l) W := h1.tail
  have h3 : laidMet Tryz.prog (("internal/strconv.uint64pow10", Rows.laid_internal_strconv_uint64pow10) :: l) W := h2.tail
  rw [pow10_data] at h3
  have htab := Lib.tabIs_of_head g_tab t_tab Tryz.underlying158 Tryz.underlying64 c_u64 c_tab h3
  have b0 := World.block_lt_of_cell? W _ (htab.cell g_tab 0 (by decide))
  refine ⟨htab, ?_⟩
  unfold NG
  simp only at b0
  omega
end Go.Proofs.YtcehkaombanhaaaGreatDoor
