/-
  The reference's Pack: two, text, eight; walked.
-/
import Derived.Test.YthclkljdnmokcaaUnpack1
set_option linter.unusedVariables false
set_option linter.unusedSimpArgs false
namespace Go.Proofs.Ythclkljdnmokcaa
open Go.RowKit Go.Proofs

theorem bstr_append (a b : List UInt8) : bstr a ++ bstr b = bstr (a ++ b) := by
  apply ByteArray.ext
  simp [bstr]
theorem bstr_of (s : ByteArray) : bstr s.toList = s := by
  apply ByteArray.ext
  rw [ByteArray.toList_eq]
  simp [bstr]
theorem octets_two (n : Int) : octets n 2 = [octet n 1, octet n 0] := rfl
theorem octets_one (n : Int) : octets n 1 = [octet n 0] := rfl
theorem bytes_new {g : Nat} (w : World) (hg : g = w.heap.size) (l : List UInt8) (n : Nat) (hn : l.length = n) (hm : n ≤ maxLen) {ty : TypeId} {cs : Array Value} (hcs : cs = (l.map fun (b : UInt8) => Value.int .u8 (b.toNat : Int)).toArray) : SliceOf rByte (w.alloc (.cells cs ty)) (.slice (some ⟨g, 0, none⟩) n n) l := by
  rw [hcs]; exact sliceOf_bytes w hg l ty (0, 0) n hn hm
set_option maxRecDepth 100000 in
set_option maxHeartbeats 1000000 in
theorem two_any (n : Nat) (w : World) (hn : n < 65536) : Calls Try.prog 61 #[.int .i64 (n : Int)] w fun e w' => e = .returned (.string (bstr (octets (n : Int) 2))) ∧ Ext w w' := by
  have h1 := octet_wrap (n : Int) 1
  have h0 := octet_wrap (n : Int) 0
  rw [show (2 : Int) ^ (8 * 1) = 256 by decide] at h1
  rw [show (2 : Int) ^ (8 * 0) = 1 by decide, Int.ediv_one] at h0
  have hq : (n : Int) / 256 = ((n / 256 : Nat) : Int) := by omega
  have hw1 : IntKind.u8.wrap ((n : Int) / 256) = ((octet n 1).toNat : Int) := h1
  have hw0 : IntKind.u8.wrap ((n : Int) % 256) = ((octet n 0).toNat : Int) := by
    rw [← h0]
    simp only [IntKind.wrap, IntKind.signed, IntKind.bits]
    simp
  have hs := bytes_new w rfl [octet n 1, octet n 0] 2 rfl (by decide) (ty := 5) (cs := #[.int .u8 ((octet n 1).toNat : Int), .int .u8 ((octet n 0).toNat : Int)]) rfl
  have hc := conv_bytes hs
  clear hs h1 h0 hq
  go_enter Try.func61, Try.ntmps61
  go_wp2
  go_ret
  exact ⟨rfl, (Ext.refl w).alloc _⟩
set_option maxRecDepth 100000 in
set_option maxHeartbeats 1000000 in
theorem reftext_any (s : ByteArray) (w : World) (hs : s.size < 65536) : Calls Try.prog 60 #[.string s] w fun e w' => e = .returned (.string (bstr (textsB [s]))) ∧ Ext w w' := by
  have hcat : bstr (octets (s.size : Int) 2) ++ s = bstr (textsB [s]) := by
    rw [textB_one, ← bstr_append, bstr_of]
  have hsz : (bstr (octets (s.size : Int) 2)).size = 2 := by rw [bstr_size, octets_length]
  have hle : 2 + s.size ≤ 9223372036854775807 := by omega
  go_enter Try.func60, Try.ntmps60
  go_wp2_with fail
  refine (two_any s.size _ hs).mono ?_
  rintro e w1 ⟨rfl, hx1⟩
  go_wp2
  go_ret
  exact ⟨by first | rfl | rw [hcat], hx1⟩
def u64Of (n : Int) : Nat := (n % 18446744073709551616).toNat
theorem octet_u64 (n : Int) (k : Nat) (hk : k < 8) : octet n k = UInt8.ofNat (u64Of n / 256 ^ k % 256) := by
  apply UInt8.toNat_inj.1
  rw [octet_toNat]
  unfold u64Of
  rw [UInt8.toNat_ofNat']
  have h8 : k = 0 ∨ k = 1 ∨ k = 2 ∨ k = 3 ∨ k = 4 ∨ k = 5 ∨ k = 6 ∨ k = 7 := by omega
  rcases h8 with rfl | rfl | rfl | rfl | rfl | rfl | rfl | rfl <;> simp only [Int.pow_zero, Nat.pow_zero, Int.reducePow, Nat.reducePow] <;> omega
set_option maxRecDepth 100000 in
set_option maxHeartbeats 2000000 in
theorem eight_any (n : Int) (w : World) (hn : (Lit.int .i64 n).wf = true) : Calls Try.prog 62 #[.int .i64 n] w fun e w' => e = .returned (.string (bstr (octets n 8))) ∧ Ext w w' := by
  have hb := wf_bounds hn
  have hu : IntKind.u64.wrap n = (u64Of n : Int) := by
    unfold u64Of
    simp only [IntKind.wrap, IntKind.signed, IntKind.bits]
    simp
    omega
  have hul : u64Of n < 18446744073709551616 := by unfold u64Of; omega
  have Hoct := Lib.hid (fun k (hk : k < 8) => octet_u64 n k hk)
  obtain ⟨U, hU⟩ : ∃ U, u64Of n = U := ⟨_, rfl⟩
  rw [hU] at hu hul Hoct
  clear hU
  go_enter Try.func62, Try.ntmps62
  go_wp2_with fail
  go_loopw [3, 4, 5] (fun u s i wr => ∃ k : Nat, i = .int .i64 (k : Int) ∧ k ≤ 8 ∧ u = .int .u64 ((U / 256 ^ k : Nat) : Int) ∧ s = .string (bstr (octets n k)) ∧ Ext w wr) (fun _ _ i _ => 8 - (intOf i).toNat)
  case atStart => exact ⟨0, rfl, by omega, by simp, rfl, Ext.refl _⟩
  case round =>
    obtain ⟨k, rfl, hk, rfl, rfl, hx⟩ := hrel
    have Hx := Lib.hid hx
    clear hx
    by_cases hlt : k < 8
    · have hq : U / 256 ^ k ≤ U := Nat.div_le_self _ _
      have hnext : U / 256 ^ (k + 1) = U / 256 ^ k / 256 := by rw [Nat.pow_succ, Nat.div_div_eq_div_mul]
      have hoct := Hoct.out k hlt
      obtain ⟨V, hV⟩ : ∃ V, U / 256 ^ k = V := ⟨_, rfl⟩
      rw [hV] at hq hnext hoct ⊢
      have Hnext := Lib.hid hnext
      have hw : IntKind.u8.wrap ((V : Int) % 256) = ((octet n k).toNat : Int) := by
        rw [hoct]
        simp only [IntKind.wrap, IntKind.signed, IntKind.bits]
        rw [UInt8.toNat_ofNat']
        simp
      have hw2 : IntKind.u8.wrap ((V % 256 : Nat) : Int) = ((octet n k).toNat : Int) := by rw [← hw]; congr 1
      have hc := conv_bytes (bytes_new wr rfl [octet n k] 1 rfl (by decide) (ty := 5) (cs := #[.int .u8 ((octet n k).toNat : Int)]) rfl)
      have hcat : bstr [octet n k] ++ bstr (octets n k) = bstr (octets n (k + 1)) := by rw [bstr_append, octets_step]; rfl
      have hz1 : (bstr [octet n k]).size = 1 := by rw [bstr_size]; rfl
      have hz2 : (bstr (octets n k)).size = k := by rw [bstr_size, octets_length]
      have hle : 1 + k ≤ 9223372036854775807 := by omega
      have hV64 : V < 18446744073709551616 := by omega
      clear hV hnext hoct
      go_wp2_with fail
      exact ⟨⟨k + 1, by go_num, by omega, by rw [Hnext.out]; go_num, rfl, Hx.out.alloc _⟩, by simp [intOf]; omega⟩
    · obtain rfl : k = 8 := by omega
      go_wp2_with fail
      go_ret
      exact ⟨rfl, Hx.out⟩
end Go.Proofs.Ythclkljdnmokcaa
