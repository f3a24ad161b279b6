/- What the listed variables give: 'G'; what the shape gives: 'GM'. -/
import Derived.Test.YtfpdmgmolhddnaaDoorSfF
import Derived.Test.YtfpdmgmolhddnaaDoorRows
import Derived.Lib.LaidTab
import Derived.Stop.LaidErr
import Derived.LaidLaws
import Derived.HandedShaped
namespace Go.Proofs.YtfpdmgmolhddnaaDoor
open Go Go.RowKit Go.ChangeShapes

theorem cells_es : Tryd.prog.cellsOf 106 = 1 := by kernel_rfl
theorem cells_str : Tryd.prog.cellsOf 9 = 1 := by kernel_rfl
theorem star_es : "*" ++ "errors.errorString" = "*errors.errorString" := by decide
theorem row_es (u : TypeId) (h : Tryd.prog.typeName? 3 u = some "*errors.errorString") : u = 104 :=
  typeName_ptr_named (nm := "errors.errorString") (by rw [star_es]; kernel_rfl) (by kernel_rfl) (by decide) u (by rw [star_es]; exact h)
theorem g_es : Tryd.prog.globalNamed "strconv.ErrSyntax" = some 1 := by kernel_rfl
theorem g_er : Tryd.prog.globalNamed "strconv.ErrRange" = some 2 := by kernel_rfl
theorem t_es : (Tryd.prog.globals[1]?).map (·.type) = some 52 := by kernel_rfl
theorem t_er : (Tryd.prog.globals[2]?).map (·.type) = some 52 := by kernel_rfl
theorem g_tab : Tryd.prog.globalNamed "internal/strconv.uint64pow10" = some 3 := by kernel_rfl
theorem t_tab : (Tryd.prog.globals[3]?).map (·.type) = some 108 := by kernel_rfl
theorem c_tab : Tryd.prog.cellsOf 108 = 20 := by kernel_rfl
theorem c_u64 : Tryd.prog.cellsOf 88 = 1 := by kernel_rfl
theorem pow10_data : (Rows.laid_internal_strconv_uint64pow10 : DataW Unit) = Lib.tabData .u64 Lib.pow10Tab := by kernel_rfl
theorem g_of_laidMet {W : World} {a b c : String × DataW Unit} {l : List (String × DataW Unit)} (hL : laidMet Tryd.prog (a :: b :: ("internal/strconv.uint64pow10", Rows.laid_internal_strconv_uint64pow10) :: c :: ("strconv.ErrRange", Rows.laid_strconv_ErrRange) :: ("strconv.ErrSyntax", Rows.laid_strconv_ErrSyntax) :: l) W) : G W := by
  have h3 := hL.tail.tail
  have h4 := h3.tail.tail
  rw [pow10_data] at h3
  have h5 := h4.tail
  obtain ⟨a1, s1, hv1, -, -, -⟩ := laid_sentinel h4 g_er t_er Tryd.underlying52 row_es Tryd.underlying104 Tryd.underlying106 rfl rfl Tryd.underlying9 cells_es cells_str
  obtain ⟨a2, s2, hv2, -, -, -⟩ := laid_sentinel h5 g_es t_es Tryd.underlying52 row_es Tryd.underlying104 Tryd.underlying106 rfl rfl Tryd.underlying9 cells_es cells_str
  have htab := Lib.tabIs_of_head g_tab t_tab Tryd.underlying108 Tryd.underlying88 c_u64 c_tab h3
  have b0 := World.block_lt_of_cell? W _ (htab.cell g_tab 0 (by decide))
  have b1 := World.block_lt_of_cell? W _ (World.var?_cell g_er hv1 0)
  have b2 := World.block_lt_of_cell? W _ (World.var?_cell g_es hv2 0)
  refine ⟨htab, ⟨_, _, hv2⟩, ⟨_, _, hv1⟩, ?_⟩
  unfold NG
  simp only at b0 b1 b2
  omega
theorem gm_of_shaped {W : World} (h : W.ShapedOpen Tryd.prog) : GM W :=
  cell_of_shapedOpen_int (P := Tryd.prog) (g := 0) (t := 3) (zero := #[.int .i64 0]) h (of_decide_eq_true (by kernel_rfl)) (by kernel_rfl) rfl (by kernel_rfl) (by kernel_rfl) Tryd.underlying3
end Go.Proofs.YtfpdmgmolhddnaaDoor
