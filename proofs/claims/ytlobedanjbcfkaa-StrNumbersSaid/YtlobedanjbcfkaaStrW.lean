/-
  The reference's Print and Parse, Incr and its reference, walked.
-/
import Derived.Test.YtlobedanjbcfkaaNumBack
set_option linter.unusedVariables false
set_option linter.unusedSimpArgs false
namespace Go.Proofs.Ytlobedanjbcfkaa
open Go.RowKit Go.Proofs

theorem bstr_append (a b : List UInt8) : bstr a ++ bstr b = bstr (a ++ b) := by
  apply str_ext
  rw [bstr_toList, ByteArray.toList_eq, ByteArray.data_append]
  simp [bstr]
theorem decS_eq (n : Int) : decS n = bstr (decL n) := rfl

set_option maxRecDepth 100000 in
set_option maxHeartbeats 1000000 in
theorem refprint_any (n : Int) (w : World) (hn : Fits n) :
    Calls Try.prog 48 #[.int .i64 n] w fun e w' => e = .returned (.string (decS n)) ∧ Ext w w' := by
  obtain ⟨hn1, hn2⟩ := hn
  by_cases hneg : n < 0
  · obtain ⟨a', hA⟩ : ∃ a', IntKind.u64.wrap n = a' := ⟨_, rfl⟩
    have HA := Lib.hid (show a' = n + 18446744073709551616 by rw [← hA, uw]; omega)
    have hA1 : 0 ≤ a' := by have := HA.out; omega
    have hA2 : a' ≤ 18446744073709551615 := by have := HA.out; omega
    obtain ⟨M, hM⟩ : ∃ M : Nat, IntKind.u64.wrap (-a') = (M : Int) := ⟨n.natAbs, by have := HA.out; rw [uw]; omega⟩
    have HM := Lib.hid (show M = n.natAbs by have := HA.out; have h := hM; rw [uw] at h; omega)
    have hM1 : M ≤ 9223372036854775808 := by have := HM.out; omega
    go_enter Try.func48, Try.ntmps48
    go_wp2_with fail
    go_loopw [3, 5] (fun u v wr => ∃ (m : Nat) (L : List UInt8), u = .int .u64 (m : Int) ∧ v = .string (bstr L) ∧ m ≤ 9223372036854775808 ∧ L.length ≤ 30 ∧ dig M = dig m ++ L ∧ Ext w wr) (fun u _ _ => (intOf u).toNat)
    case atStart => exact ⟨M, [], rfl, rfl, by omega, by simp, by simp, Ext.refl _⟩
    case round =>
      obtain ⟨m, L, rfl, rfl, hm, hL, hdig, hx⟩ := hrel
      have Hdig := Lib.hid hdig
      clear hdig
      have ec : (48 + ((m : Int) % 10)) = ((UInt8.ofNat (48 + m % 10)).toNat : Int) := by rw [dig_byte]; omega
      have hsl : SliceOf rByte (wr.alloc (.cells #[.int .u8 (48 + (m : Int) % 10)] 5)) (.slice (some ⟨wr.heap.size, 0, none⟩) 1 1) [UInt8.ofNat (48 + m % 10)] :=
        sliceOf_one (r := rByte) rfl wr rfl _ _ _ (by show [Value.int .u8 _] = [Value.int .u8 _]; rw [ec])
      have hconv := conv_bytes hsl
      generalize hc : UInt8.ofNat (48 + m % 10) = c at hconv
      have Hc := Lib.hid hc
      have hap : bstr [c] ++ bstr L = bstr (c :: L) := bstr_append [c] L
      have hap2 : (⟨#[45]⟩ : ByteArray) ++ bstr (c :: L) = bstr (45 :: c :: L) := bstr_append [45] (c :: L)
      have hap3 : (⟨#[]⟩ : ByteArray) ++ bstr (c :: L) = bstr (c :: L) := bstr_append [] (c :: L)
      have hz0 : (bstr [c]).size = 1 := bstr_size _
      have hz1 : (bstr L).size ≤ 30 := by rw [bstr_size]; omega
      have hz2 : (bstr (c :: L)).size ≤ 40 := by rw [bstr_size, List.length_cons]; omega
      clear hsl ec hc
      have hdl := Hdig.out
      by_cases hlast : m < 10
      · have hfin : decL n = 45 :: c :: L := by
          rw [dig_small hlast] at hdl
          have h2 := Hc.out
          rw [Nat.mod_eq_of_lt hlast] at h2
          unfold decL
          rw [if_pos hneg, ← HM.out, hdl, h2]
          rfl
        have Hfin := Lib.hid hfin
        clear hfin hdl
        go_wp2_with fail
        go_ret
        exact ⟨by rw [decS_eq, Hfin.out]; rfl, hx.alloc _⟩
      · have hdl2 : dig M = dig (m / 10) ++ (c :: L) := by
          rw [dig_big hlast, Hc.out] at hdl
          simpa using hdl
        have Hdl2 := Lib.hid hdl2
        have hlen : (c :: L).length ≤ 19 := by
          have h1 := congrArg List.length hdl2
          rw [List.length_append] at h1
          have := dig_le19 (m := M) (by omega)
          omega
        have Hlen := Lib.hid hlen
        clear hdl hdl2 hlen
        go_wp2_with fail
        exact ⟨⟨m / 10, c :: L, by go_num, rfl, by omega, by have := Hlen.out; omega, Hdl2.out, hx.alloc _⟩, by simp [intOf]; omega⟩
  · obtain ⟨M, rfl⟩ : ∃ M : Nat, n = (M : Int) := ⟨n.natAbs, by omega⟩
    go_enter Try.func48, Try.ntmps48
    go_wp2_with fail
    go_loopw [3, 5] (fun u v wr => ∃ (m : Nat) (L : List UInt8), u = .int .u64 (m : Int) ∧ v = .string (bstr L) ∧ m ≤ 9223372036854775808 ∧ L.length ≤ 30 ∧ dig M = dig m ++ L ∧ Ext w wr) (fun u _ _ => (intOf u).toNat)
    case atStart => exact ⟨M, [], rfl, rfl, by omega, by simp, by simp, Ext.refl _⟩
    case round =>
      obtain ⟨m, L, rfl, rfl, hm, hL, hdig, hx⟩ := hrel
      have Hdig := Lib.hid hdig
      clear hdig
      have ec : (48 + ((m : Int) % 10)) = ((UInt8.ofNat (48 + m % 10)).toNat : Int) := by rw [dig_byte]; omega
      have hsl : SliceOf rByte (wr.alloc (.cells #[.int .u8 (48 + (m : Int) % 10)] 5)) (.slice (some ⟨wr.heap.size, 0, none⟩) 1 1) [UInt8.ofNat (48 + m % 10)] :=
        sliceOf_one (r := rByte) rfl wr rfl _ _ _ (by show [Value.int .u8 _] = [Value.int .u8 _]; rw [ec])
      have hconv := conv_bytes hsl
      generalize hc : UInt8.ofNat (48 + m % 10) = c at hconv
      have Hc := Lib.hid hc
      have hap : bstr [c] ++ bstr L = bstr (c :: L) := bstr_append [c] L
      have hap2 : (⟨#[45]⟩ : ByteArray) ++ bstr (c :: L) = bstr (45 :: c :: L) := bstr_append [45] (c :: L)
      have hap3 : (⟨#[]⟩ : ByteArray) ++ bstr (c :: L) = bstr (c :: L) := bstr_append [] (c :: L)
      have hz0 : (bstr [c]).size = 1 := bstr_size _
      have hz1 : (bstr L).size ≤ 30 := by rw [bstr_size]; omega
      have hz2 : (bstr (c :: L)).size ≤ 40 := by rw [bstr_size, List.length_cons]; omega
      clear hsl ec hc
      have hdl := Hdig.out
      by_cases hlast : m < 10
      · have hfin : decL (M : Int) = c :: L := by
          rw [dig_small hlast] at hdl
          have h2 := Hc.out
          rw [Nat.mod_eq_of_lt hlast] at h2
          unfold decL
          rw [if_neg (by omega), Int.natAbs_natCast, hdl, h2]
          rfl
        have Hfin := Lib.hid hfin
        clear hfin hdl
        go_wp2_with fail
        go_ret
        exact ⟨by rw [decS_eq, Hfin.out]; rfl, hx.alloc _⟩
      · have hdl2 : dig M = dig (m / 10) ++ (c :: L) := by
          rw [dig_big hlast, Hc.out] at hdl
          simpa using hdl
        have Hdl2 := Lib.hid hdl2
        have hlen : (c :: L).length ≤ 19 := by
          have h1 := congrArg List.length hdl2
          rw [List.length_append] at h1
          have := dig_le19 (m := M) (by omega)
          omega
        have Hlen := Lib.hid hlen
        clear hdl hdl2 hlen
        go_wp2_with fail
        exact ⟨⟨m / 10, c :: L, by go_num, rfl, by omega, by have := Hlen.out; omega, Hdl2.out, hx.alloc _⟩, by simp [intOf]; omega⟩

set_option maxRecDepth 100000 in
set_option maxHeartbeats 2000000 in
theorem refparse_bad (s : ByteArray) (w : World) (hs : s.size ≤ 9223372036854775807) (hbad : ∀ n, Fits n → decS n ≠ s) :
    Calls Try.prog 34 #[.string s] w fun e w' => e = .returned (.tuple #[.int .i64 0, .bool false]) ∧ Ext w w' := by
  have Hbad := Lib.hid hbad
  clear hbad
  by_cases h0 : 0 < s.size
  · have hz0 : ((s.size : Int) == 0) = false := beq_eq_false_iff_ne.2 (by omega)
    by_cases h20 : 20 < s.size
    · go_enter Try.func34, Try.ntmps34
      go_wp2_with fail
      go_ret2
      exact ⟨rfl, Ext.refl _⟩
    · by_cases h45 : s[0].toNat = 45
      · have hb : ((s[0].toNat : Int) == 45) = true := by simp; omega
        go_enter Try.func34, Try.ntmps34
        go_wp2_with fail
        go_loopw [5, 6] (fun u i wr => ∃ (k : Nat) (q : Int), k ≤ s.size ∧ i = .int .i64 k ∧ u = .int .u64 q ∧ 0 ≤ q ∧ q ≤ 18446744073709551615 ∧ wr = w) (fun _ i _ => s.size - (intOf i).toNat)
        case atStart => exact ⟨1, 0, by omega, by go_num, rfl, by omega, by omega, rfl⟩
        case round =>
          obtain ⟨k, q, hk, rfl, rfl, hq1, hq2, rfl⟩ := hrel
          by_cases hlt : k < s.size
          · have hc := s[k].toNat_lt
            by_cases hd1 : s[k].toNat < 48
            · go_wp2_with fail
              go_ret2
              exact ⟨rfl, Ext.refl _⟩
            · by_cases hd2 : 57 < s[k].toNat
              · go_wp2_with fail
                go_ret2
                exact ⟨rfl, Ext.refl _⟩
              · obtain ⟨x, hx⟩ : ∃ x, IntKind.u64.wrap (q * 10) = x := ⟨_, rfl⟩
                have Hx := Lib.hid (show x = (q * 10) % 18446744073709551616 by rw [← hx, uw])
                have hx1 : 0 ≤ x := by have := Hx.out; omega
                have hx2 : x ≤ 18446744073709551615 := by have := Hx.out; omega
                obtain ⟨y, hy⟩ : ∃ y, IntKind.u64.wrap (x + ((s[k].toNat : Int) - 48)) = y := ⟨_, rfl⟩
                have Hy := Lib.hid (show y = (x + ((s[k].toNat : Int) - 48)) % 18446744073709551616 by rw [← hy, uw])
                have hy1 : 0 ≤ y := by have := Hy.out; omega
                have hy2 : y ≤ 18446744073709551615 := by have := Hy.out; omega
                go_wp2_with fail
                all_goals exact ⟨⟨k + 1, _, by omega, by go_num, rfl, by omega, by omega, by first | exact trivial | rfl⟩, by simp [intOf]; omega⟩
          · obtain ⟨x, hx⟩ : ∃ x, IntKind.u64.wrap (-q) = x := ⟨_, rfl⟩
            have Hx := Lib.hid (show x = (-q) % 18446744073709551616 by rw [← hx, uw])
            have hx1 : 0 ≤ x := by have := Hx.out; omega
            have hx2 : x ≤ 18446744073709551615 := by have := Hx.out; omega
            obtain ⟨z, hz⟩ : ∃ z, wrap64 x = z := ⟨_, rfl⟩
            have Hz := Lib.hid (show z = (x + 9223372036854775808) % 18446744073709551616 - 9223372036854775808 by rw [← hz]; unfold wrap64; rfl)
            have hz1 : -9223372036854775808 ≤ z := by have := Hz.out; omega
            have hz2 : z ≤ 9223372036854775807 := by have := Hz.out; omega
            have hne2 := str_ne (Hbad.out z ⟨hz1, hz2⟩)
            go_wp2_with fail
            all_goals
              refine (refprint_any z _ ⟨hz1, hz2⟩).mono ?_
              rintro e w1 ⟨rfl, hx1⟩
              go_wp2
              go_ret2
              exact ⟨rfl, hx1⟩
      · have hb : ((s[0].toNat : Int) == 45) = false := by simp; omega
        go_enter Try.func34, Try.ntmps34
        go_wp2_with fail
        go_loopw [5, 6] (fun u i wr => ∃ (k : Nat) (q : Int), k ≤ s.size ∧ i = .int .i64 k ∧ u = .int .u64 q ∧ 0 ≤ q ∧ q ≤ 18446744073709551615 ∧ wr = w) (fun _ i _ => s.size - (intOf i).toNat)
        case atStart => exact ⟨0, 0, by omega, by go_num, rfl, by omega, by omega, rfl⟩
        case round =>
          obtain ⟨k, q, hk, rfl, rfl, hq1, hq2, rfl⟩ := hrel
          by_cases hlt : k < s.size
          · have hc := s[k].toNat_lt
            by_cases hd1 : s[k].toNat < 48
            · go_wp2_with fail
              go_ret2
              exact ⟨rfl, Ext.refl _⟩
            · by_cases hd2 : 57 < s[k].toNat
              · go_wp2_with fail
                go_ret2
                exact ⟨rfl, Ext.refl _⟩
              · obtain ⟨x, hx⟩ : ∃ x, IntKind.u64.wrap (q * 10) = x := ⟨_, rfl⟩
                have Hx := Lib.hid (show x = (q * 10) % 18446744073709551616 by rw [← hx, uw])
                have hx1 : 0 ≤ x := by have := Hx.out; omega
                have hx2 : x ≤ 18446744073709551615 := by have := Hx.out; omega
                obtain ⟨y, hy⟩ : ∃ y, IntKind.u64.wrap (x + ((s[k].toNat : Int) - 48)) = y := ⟨_, rfl⟩
                have Hy := Lib.hid (show y = (x + ((s[k].toNat : Int) - 48)) % 18446744073709551616 by rw [← hy, uw])
                have hy1 : 0 ≤ y := by have := Hy.out; omega
                have hy2 : y ≤ 18446744073709551615 := by have := Hy.out; omega
                go_wp2_with fail
                all_goals exact ⟨⟨k + 1, _, by omega, by go_num, rfl, by omega, by omega, by first | exact trivial | rfl⟩, by simp [intOf]; omega⟩
          · obtain ⟨z, hz⟩ : ∃ z, wrap64 q = z := ⟨_, rfl⟩
            have Hz := Lib.hid (show z = (q + 9223372036854775808) % 18446744073709551616 - 9223372036854775808 by rw [← hz]; unfold wrap64; rfl)
            have hz1 : -9223372036854775808 ≤ z := by have := Hz.out; omega
            have hz2 : z ≤ 9223372036854775807 := by have := Hz.out; omega
            have hne2 := str_ne (Hbad.out z ⟨hz1, hz2⟩)
            go_wp2_with fail
            all_goals
              refine (refprint_any z _ ⟨hz1, hz2⟩).mono ?_
              rintro e w1 ⟨rfl, hx1⟩
              go_wp2
              go_ret2
              exact ⟨rfl, hx1⟩
  · have hsz : s.size = 0 := by omega
    obtain rfl : s = ⟨#[]⟩ := by
      cases s with | mk d => congr 1; exact Array.eq_empty_of_size_eq_zero hsz
    go_enter Try.func34, Try.ntmps34
    go_wp2
    go_ret2
    exact ⟨rfl, Ext.refl _⟩
end Go.Proofs.Ytlobedanjbcfkaa
