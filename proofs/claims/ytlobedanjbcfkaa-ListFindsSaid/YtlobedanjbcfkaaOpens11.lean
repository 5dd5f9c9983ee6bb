/-
  How the arguments' types open: lists of texts, three numbers.
-/
import Derived.Test.YtlobedanjbcfkaaOpens9
namespace Go.Proofs.Ytlobedanjbcfkaa
open Go.RowKit Go.Proofs
theorem op_int : Opens Try.prog 3 (rInt .i64) := opens_int Try.underlying3 (by kernel_rfl)
theorem op_texts : Opens Try.prog 35 (rSlice rStr) := opens_slice Try.underlying35 (by kernel_rfl) (by decide) op_str
theorem op_three : Opens Try.prog 36 (rArr 3 (rInt .i64)) := opens_arr Try.underlying36 (by kernel_rfl) op_int
end Go.Proofs.Ytlobedanjbcfkaa
