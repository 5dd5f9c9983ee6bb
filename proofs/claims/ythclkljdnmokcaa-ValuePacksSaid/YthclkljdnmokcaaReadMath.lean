/-
  Plain: a number read octet by octet.
-/
import Derived.Test.YthclkljdnmokcaaParse
set_option linter.unusedVariables false
set_option linter.unusedSimpArgs false
namespace Go.Proofs.Ythclkljdnmokcaa
open Go.RowKit Go.Proofs

theorem i64_wrap (n : Int) : IntKind.i64.wrap n = (n + 9223372036854775808) % 18446744073709551616 - 9223372036854775808 := by
  simp only [IntKind.wrap, IntKind.signed, IntKind.bits]
  simp
  omega
theorem or_step (m : Nat) (c : UInt8) : bits .or .i64 (IntKind.i64.wrap (i64Of m * 256)) (c.toNat : Int) = i64Of (m * 256 + c.toNat) := by
  have hc := c.toNat_lt
  unfold bits i64Of
  have e1 : BitVec.ofInt 64 (IntKind.i64.wrap (IntKind.i64.wrap (m : Int) * 256)) = BitVec.ofNat 64 (2 ^ 8 * (m % 2 ^ 56)) := by
    apply BitVec.eq_of_toNat_eq
    rw [BitVec.toNat_ofInt, BitVec.toNat_ofNat, i64_wrap, i64_wrap]
    omega
  have e2 : BitVec.ofInt 64 (c.toNat : Int) = BitVec.ofNat 64 c.toNat := by
    apply BitVec.eq_of_toNat_eq
    rw [BitVec.toNat_ofInt, BitVec.toNat_ofNat]
    omega
  show IntKind.i64.wrap (((BitVec.ofInt 64 (IntKind.i64.wrap (IntKind.i64.wrap (m : Int) * 256)) ||| BitVec.ofInt 64 (c.toNat : Int)).toNat : Nat) : Int) = _
  rw [e1, e2]
  have e3 : (BitVec.ofNat 64 (2 ^ 8 * (m % 2 ^ 56)) ||| BitVec.ofNat 64 c.toNat).toNat = 2 ^ 8 * (m % 2 ^ 56) + c.toNat := by
    have hq : m % 2 ^ 56 < 2 ^ 56 := Nat.mod_lt _ (by decide)
    generalize m % 2 ^ 56 = q at hq
    rw [BitVec.toNat_or, BitVec.toNat_ofNat, BitVec.toNat_ofNat, Nat.mod_eq_of_lt (show 2 ^ 8 * q < 2 ^ 64 by omega), Nat.mod_eq_of_lt (show c.toNat < 2 ^ 64 by omega), Nat.two_pow_add_eq_or_of_lt (by omega)]
  rw [e3, i64_wrap, i64_wrap]
  omega
theorem i64Of_small {m : Nat} (h : m < 9223372036854775808) : i64Of m = (m : Int) := by
  unfold i64Of
  rw [i64_wrap]
  omega
theorem bNum_take_step {l : List UInt8} {k : Nat} {c : UInt8} (h : l[k]? = some c) : bNum (l.take (k + 1)) = bNum (l.take k) * 256 + c.toNat := by
  obtain ⟨h1, h2⟩ := List.getElem?_eq_some_iff.1 h
  rw [← List.take_append_getElem h1, bNum_snoc, h2]
theorem two_at {l : List UInt8} {i : Nat} {x y : UInt8} (hx : l[i]? = some x) (hy : l[i + 1]? = some y) : bNum ((l.drop i).take 2) = x.toNat * 256 + y.toNat := by
  obtain ⟨h1, h2⟩ := List.getElem?_eq_some_iff.1 hx
  obtain ⟨h3, h4⟩ := List.getElem?_eq_some_iff.1 hy
  rw [List.drop_eq_getElem_cons h1, List.drop_eq_getElem_cons h3, h2, h4]
  simp [bNum]
theorem two_lt (l : List UInt8) (i : Nat) : bNum ((l.drop i).take 2) < 65536 := by
  have h := bNum_lt ((l.drop i).take 2)
  have h2 : ((l.drop i).take 2).length ≤ 2 := by simp; omega
  have h3 : 256 ^ ((l.drop i).take 2).length ≤ 256 ^ 2 := Nat.pow_le_pow_right (by decide) h2
  omega
end Go.Proofs.Ythclkljdnmokcaa
