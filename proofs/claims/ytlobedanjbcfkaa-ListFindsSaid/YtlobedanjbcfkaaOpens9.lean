/-
  How the arguments' types open: texts, lists of texts.
-/
import Derived.Test.YtlobedanjbcfkaaProg
import Derived.Test.YtlobedanjbcfkaaLib
namespace Go.Proofs.Ytlobedanjbcfkaa
open Go.RowKit Go.Proofs
theorem op_str : Opens Try.prog 9 rStr := opens_str Try.underlying9 (by kernel_rfl)
end Go.Proofs.Ytlobedanjbcfkaa
