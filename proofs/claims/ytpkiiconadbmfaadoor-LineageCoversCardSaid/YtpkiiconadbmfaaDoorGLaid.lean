/- The table of powers, out of the condition that the listed variables lie as laid. -/
import Derived.Test.YtpkiiconadbmfaaDoorRows
import Derived.Test.YtpkiiconadbmfaaDoorGLib
import Derived.Stop.LaidErr
import Derived.Lib.LaidTab
set_option linter.unusedVariables false
namespace Go.Proofs.YtpkiiconadbmfaaDoor.G
open Go.RowKit

theorem gPowType : (Tryd.prog.globals[2]?).map (·.type) = some 138 := by kernel_rfl
theorem laid_pow : (Rows.laid_internal_strconv_uint64pow10 : DataW Unit) = Lib.tabData .u64 Lib.pow10Tab := by rfl
theorem gg_tab {W : World} {rest : List (String × DataW Unit)} (h : laidMet Tryd.prog (("internal/strconv.uint64pow10", Rows.laid_internal_strconv_uint64pow10) :: rest) W) : GG W := by
  rw [laid_pow] at h
  exact Lib.tabIs_of_head gPow gPowType Tryd.underlying138 Tryd.underlying111 (by kernel_rfl) (by kernel_rfl) h

end Go.Proofs.YtpkiiconadbmfaaDoor.G
