/-
  How arguments of octets and of values are opened.
-/
import Derived.Test.YthclkljdnmokcaaOpens15
namespace Go.Proofs.Ythclkljdnmokcaa
open Go.RowKit Go.ChangeShapes Go.WideShapes Go.ChangeAt

theorem op_byte : Opens Try.prog 5 rByte := opens_byte Try.underlying5 (by kernel_rfl)
theorem op_bytes : Opens Try.prog 38 (rSlice rByte) := opens_slice Try.underlying38 (by kernel_rfl) (by decide) op_byte
theorem op_values : Opens Try.prog 51 (rSlice rVal) := opens_slice Try.underlying51 (by kernel_rfl) (by decide) op_value
end Go.Proofs.Ythclkljdnmokcaa
