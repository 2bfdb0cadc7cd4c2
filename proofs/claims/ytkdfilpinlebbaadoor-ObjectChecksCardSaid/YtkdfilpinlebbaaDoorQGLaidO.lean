/- This session's texts for the claim, joined and shortened by this session's own program pack.py: what the claim does not need is struck. Part: GLaidO. -/
import Derived.Test.YtkdfilpinlebbaaDoorRows
import Derived.Test.YtkdfilpinlebbaaDoorQGLibO
import Derived.Stop.LaidErr
import Derived.Lib.LaidTab
import Derived.Shelf.Vars
import Derived.HandedShaped
set_option linter.unusedVariables false
namespace Go.Proofs.YtkdfilpinlebbaaDoor.G
open Go.RowKit
theorem gPowType : (Tryd.prog.globals[1]?).map (·.type) = some 139 := by kernel_rfl
theorem laid_pow : (Rows.laid_internal_strconv_uint64pow10 : DataW Unit) = Lib.tabData .u64 Lib.pow10Tab := by rfl
theorem gg_tab {W : World} {rest : List (String × DataW Unit)} (h : laidMet Tryd.prog (("internal/strconv.uint64pow10", Rows.laid_internal_strconv_uint64pow10) :: rest) W) : Lib.TabIs Tryd.prog W "internal/strconv.uint64pow10" .u64 Lib.pow10Tab := by
  rw [laid_pow] at h
  exact Lib.tabIs_of_head gPow gPowType Tryd.underlying139 Tryd.underlying103 (by kernel_rfl) (by kernel_rfl) h
theorem gSynType : (Tryd.prog.globals[2]?).map (·.type) = some 61 := by kernel_rfl
theorem gRanType : (Tryd.prog.globals[3]?).map (·.type) = some 61 := by kernel_rfl
theorem starErr : "*" ++ "errors.errorString" = "*errors.errorString" := by decide
theorem rowErr (u : TypeId) (h : Tryd.prog.typeName? 3 u = some "*errors.errorString") : u = 153 :=
  typeName_ptr_named (nm := "errors.errorString") (by rw [starErr]; kernel_rfl) (by kernel_rfl) (by decide) u (by rw [starErr]; exact h)
theorem gg_syn {W : World} {rest : List (String × DataW Unit)} (h : laidMet Tryd.prog (("strconv.ErrSyntax", Rows.laid_strconv_ErrSyntax) :: rest) W) : ∃ t p, W.var? Tryd.prog "strconv.ErrSyntax" = some #[.iface t p] := by
  obtain ⟨a, s, hv, _⟩ := laid_sentinel h gSyn gSynType Tryd.underlying61 rowErr Tryd.underlying153 Tryd.underlying155 rfl rfl Tryd.underlying9 (by kernel_rfl) (by kernel_rfl)
  exact ⟨_, _, hv⟩
theorem gg_ran {W : World} {rest : List (String × DataW Unit)} (h : laidMet Tryd.prog (("strconv.ErrRange", Rows.laid_strconv_ErrRange) :: rest) W) : ∃ t p, W.var? Tryd.prog "strconv.ErrRange" = some #[.iface t p] := by
  obtain ⟨a, s, hv, _⟩ := laid_sentinel h gRan gRanType Tryd.underlying61 rowErr Tryd.underlying153 Tryd.underlying155 rfl rfl Tryd.underlying9 (by kernel_rfl) (by kernel_rfl)
  exact ⟨_, _, hv⟩
theorem gg_max {W : World} (h : W.ShapedOpen Tryd.prog) : ∃ m, W.cell? ⟨0, 0, none⟩ = some (.int .i64 m) :=
  Go.Proofs.cell_of_shapedOpen_int (zero := #[.int .i64 0]) (t := 3) h (of_decide_eq_true (by kernel_rfl)) (by kernel_rfl) rfl (by kernel_rfl) (by kernel_rfl) Tryd.underlying3
end Go.Proofs.YtkdfilpinlebbaaDoor.G
