/-
  How two numbers are opened.
-/
import Derived.Test.YthclkljdnmokcaaOpens15
namespace Go.Proofs.Ythclkljdnmokcaa
open Go.RowKit Go.ChangeShapes Go.WideShapes Go.ChangeAt

theorem op_two : Opens Try.prog 53 (rArr 2 (rInt .i64)) := opens_arr Try.underlying53 (by kernel_rfl) op_int
end Go.Proofs.Ythclkljdnmokcaa
