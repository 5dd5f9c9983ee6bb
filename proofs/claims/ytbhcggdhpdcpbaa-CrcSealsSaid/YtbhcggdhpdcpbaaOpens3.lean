/-
  What the arguments of crc's laws read as.
-/
import Derived.Test.YtbhcggdhpdcpbaaProg
import Derived.Test.YtbhcggdhpdcpbaaLib
import Derived.KernelRfl
namespace Go.Proofs.Ytbhcggdhpdcpbaa
theorem op_byte : Opens Try.prog 5 rByte := opens_byte Try.underlying5 (by kernel_rfl)
theorem op_bytes : Opens Try.prog 24 (rSlice rByte) := opens_slice Try.underlying24 (by kernel_rfl) (by decide) op_byte
theorem op_rows : Opens Try.prog 22 (rSlice (rSlice rByte)) := opens_slice Try.underlying22 (by kernel_rfl) (by decide) op_bytes
theorem op_four : Opens Try.prog 29 (rArr 4 rByte) := opens_arr Try.underlying29 (by kernel_rfl) op_byte
end Go.Proofs.Ytbhcggdhpdcpbaa
