/- The slice types of this seat, with their elements. -/
import Derived.Test.YtfdffeameoejfaaHeap
namespace Go.Proofs.Ytfdffeameoejfaa
open Go
set_option linter.unusedVariables false
set_option linter.unusedSimpArgs false
theorem et22 : ElT Try.prog 22 28 (.agg #[.int .i64 0, .int .i64 0, .int .i64 0]) 3 24 := elt_of Try.underlying22 (by kernel_rfl) rfl (by decide)
theorem et39 : ElT Try.prog 39 34 (.agg #[.int .u32 0, .int .u32 0, .int .u32 0, .int .u32 0]) 4 16 := elt_of Try.underlying39 (by kernel_rfl) rfl (by decide)
theorem et40 : ElT Try.prog 40 3 (.int .i64 0) 1 8 := elt_of Try.underlying40 (by kernel_rfl) rfl (by decide)
theorem et55 : ElT Try.prog 55 5 (.int .u8 0) 1 1 := elt_of Try.underlying55 (by kernel_rfl) rfl (by decide)
theorem et92 : ElT Try.prog 92 22 (.slice none 0 0) 1 24 := elt_of Try.underlying92 (by kernel_rfl) rfl (by decide)
theorem et93 : ElT Try.prog 93 25 (.pointer none) 1 8 := elt_of Try.underlying93 (by kernel_rfl) rfl (by decide)
theorem et141 : ElT Try.prog 141 140 (.agg #[.int .i64 0, .nilFunc]) 2 16 := elt_of Try.underlying141 (by kernel_rfl) rfl (by decide)
end Go.Proofs.Ytfdffeameoejfaa
