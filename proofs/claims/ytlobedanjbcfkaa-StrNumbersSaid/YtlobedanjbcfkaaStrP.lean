/-
  The reference's Parse of a number's own text; Incr and its reference, walked.
-/
import Derived.Test.YtlobedanjbcfkaaStrW
set_option linter.unusedVariables false
set_option linter.unusedSimpArgs false
namespace Go.Proofs.Ytlobedanjbcfkaa
open Go.RowKit Go.Proofs

set_option maxRecDepth 100000 in
set_option maxHeartbeats 400000 in
theorem refparse_good (n : Int) (w : World) (hn : Fits n) :
    Calls Try.prog 34 #[.string (decS n)] w fun e w' => e = .returned (.tuple #[.int .i64 n, .bool true]) ∧ Ext w w' := by
  have Hfit := Lib.hid hn
  obtain ⟨hn1, hn2⟩ := hn
  generalize hm : n.natAbs = m
  have hml : m ≤ 9223372036854775808 := by omega
  have hdl := dig_le19 hml
  have hdp : 0 < (dig m).length := List.length_pos_iff.2 (dig_ne m)
  generalize hD : dig m = D at hdl hdp
  have hdD : ∀ c ∈ D, isDigit c := by rw [← hD]; exact dig_digits m
  generalize hS : decS n = s
  have HS := Lib.hid hS
  have HvD : Hid (valD D = m) := Lib.hid (by rw [← hD, valD_dig])
  have HdD := Lib.hid hdD
  by_cases hneg : n < 0
  · have Hmn := Lib.hid (show n = -(m : Int) by omega)
    have hsl : s.data.toList = 45 :: D := by
      rw [← hS]
      unfold decS decL
      rw [if_pos hneg, hm, hD]
    have hss : s.size = D.length + 1 := by
      rw [show s.size = s.data.toList.length from Array.length_toList.symm, hsl]
      try rfl
    have h0 : 0 < s.size := by omega
    have h45 : s[0].toNat = 45 := by
      have := get_of_data hsl 0 h0 (by simp)
      rw [this]; rfl
    have hb : ((s[0].toNat : Int) == 45) = true := by simp; omega
    have Hget := Lib.hid (show ∀ (k : Nat) (h1 : k < s.size) (h0 : 1 ≤ k) (h2 : k - 1 < D.length), s[k] = D[k - 1] by
      intro k h1 h0 h2
      obtain ⟨j, rfl⟩ : ∃ j, k = j + 1 := ⟨k - 1, by omega⟩
      exact get_of_data hsl (j + 1) h1 (by simpa using h2))
    have Hts := Lib.hid hss
    have h20 : ¬ 20 < s.size := by omega
    have hz0 : ((s.size : Int) == 0) = false := beq_eq_false_iff_ne.2 (by omega)
    clear hsl hD hS hm hdD hss
    go_enter Try.func34, Try.ntmps34
    go_wp2_with fail
    go_loopw [5, 6] (fun u i wr => ∃ (k q : Nat), 1 ≤ k ∧ k ≤ s.size ∧ i = .int .i64 (k : Int) ∧ u = .int .u64 (q : Int) ∧ q ≤ 9223372036854775808 ∧ q = valD (D.take (k - 1)) ∧ wr = w) (fun _ i _ => s.size - (intOf i).toNat)
    case atStart => exact ⟨1, 0, by omega, by omega, by go_num, rfl, by omega, by simp [valD], rfl⟩
    case round =>
      obtain ⟨k, q, hk0, hk, rfl, rfl, hq, hqv, rfl⟩ := hrel
      have Hq := Lib.hid hqv
      clear hqv
      by_cases hlt : k < s.size
      · have hkD : (k - 1) < D.length := by have := Hts.out; omega
        have hcD : s[k] = D[(k - 1)] := Hget.out k hlt hk0 hkD
        have hdg : isDigit D[(k - 1)] := HdD.out _ (List.getElem_mem hkD)
        have hp := valD_take_le D ((k - 1) + 1)
        rw [HvD.out] at hp
        rw [take_snoc D (k - 1) hkD, valD_snoc] at hp
        have hrel2 : valD (D.take ((k - 1) + 1)) = 10 * q + (s[k].toNat - 48) := by
          rw [take_snoc D (k - 1) hkD, valD_snoc, hcD, Hq.out]
        have Hrel2 := Lib.hid (show valD (D.take k) = 10 * q + (s[k].toNat - 48) by rw [← hrel2]; congr 2; omega)
        unfold isDigit at hdg
        rw [← hcD, ← Hq.out] at hp
        rw [← hcD] at hdg
        have hc := s[k].toNat_lt
        clear hrel2 hcD
        go_wp2_with fail
        exact ⟨⟨k + 1, 10 * q + (s[k].toNat - 48), by omega, by omega, by go_num, by go_num, by omega, by first | exact Hrel2.out.symm | (rw [Nat.add_sub_cancel]; exact Hrel2.out.symm), by first | exact trivial | rfl⟩, by simp [intOf]; omega⟩
      · have hvm : valD (D.take (k - 1)) = m := by rw [List.take_of_length_le (by have := Hts.out; omega), HvD.out]
        obtain rfl : m = q := by rw [Hq.out, hvm]
        clear hvm
        have hmp : 0 < m := by have := Hmn.out; omega
        obtain ⟨x, hx⟩ : ∃ x, IntKind.u64.wrap (-(m : Int)) = x := ⟨_, rfl⟩
        have Hx := Lib.hid (show x = 18446744073709551616 - (m : Int) by rw [← hx, uw]; omega)
        have hx1 : 0 ≤ x := by have := Hx.out; omega
        have hx2 : x ≤ 18446744073709551615 := by have := Hx.out; omega
        have hx3 : wrap64 x = n := by have := Hx.out; have := Hmn.out; unfold wrap64; omega
        have hse : ((decS n).toList == s.toList) = true := by rw [HS.out]; simp
        go_wp2_with fail
        all_goals
          refine (refprint_any n _ Hfit.out).mono ?_
          rintro e w1 ⟨rfl, hx1⟩
          go_wp2
          go_ret2
          exact ⟨by rfl, hx1⟩
  · have Hmn := Lib.hid (show n = (m : Int) by omega)
    have hsl : s.data.toList = D := by
      rw [← hS]
      unfold decS decL
      rw [if_neg hneg, hm, hD]
    have hss : s.size = D.length := by
      rw [show s.size = s.data.toList.length from Array.length_toList.symm, hsl]
    have h0 : 0 < s.size := by omega
    have h45 : ¬ s[0].toNat = 45 := by
      have h1 := get_of_data hsl 0 h0 hdp
      have := hdD D[0] (List.getElem_mem hdp)
      unfold isDigit at this
      rw [h1]; omega
    have hb : ((s[0].toNat : Int) == 45) = false := by simp; omega
    have Hget := Lib.hid (show ∀ (k : Nat) (h1 : k < s.size) (h0 : 0 ≤ k) (h2 : k < D.length), s[k] = D[k] from fun k h1 _ h2 => get_of_data hsl k h1 h2)
    have Hts := Lib.hid hss
    have h20 : ¬ 20 < s.size := by omega
    have hz0 : ((s.size : Int) == 0) = false := beq_eq_false_iff_ne.2 (by omega)
    clear hsl hD hS hm hdD hss
    go_enter Try.func34, Try.ntmps34
    go_wp2_with fail
    go_loopw [5, 6] (fun u i wr => ∃ (k q : Nat), 0 ≤ k ∧ k ≤ s.size ∧ i = .int .i64 (k : Int) ∧ u = .int .u64 (q : Int) ∧ q ≤ 9223372036854775808 ∧ q = valD (D.take k) ∧ wr = w) (fun _ i _ => s.size - (intOf i).toNat)
    case atStart => exact ⟨0, 0, by omega, by omega, by go_num, rfl, by omega, by simp [valD], rfl⟩
    case round =>
      obtain ⟨k, q, hk0, hk, rfl, rfl, hq, hqv, rfl⟩ := hrel
      have Hq := Lib.hid hqv
      clear hqv
      by_cases hlt : k < s.size
      · have hkD : k < D.length := by have := Hts.out; omega
        have hcD : s[k] = D[k] := Hget.out k hlt hk0 hkD
        have hdg : isDigit D[k] := HdD.out _ (List.getElem_mem hkD)
        have hp := valD_take_le D (k + 1)
        rw [HvD.out] at hp
        rw [take_snoc D k hkD, valD_snoc] at hp
        have hrel2 : valD (D.take (k + 1)) = 10 * q + (s[k].toNat - 48) := by
          rw [take_snoc D k hkD, valD_snoc, hcD, Hq.out]
        have Hrel2 := Lib.hid (show valD (D.take (k + 1)) = 10 * q + (s[k].toNat - 48) by rw [← hrel2])
        unfold isDigit at hdg
        rw [← hcD, ← Hq.out] at hp
        rw [← hcD] at hdg
        have hc := s[k].toNat_lt
        clear hrel2 hcD
        go_wp2_with fail
        exact ⟨⟨k + 1, 10 * q + (s[k].toNat - 48), by omega, by omega, by go_num, by go_num, by omega, by first | exact Hrel2.out.symm | (rw [Nat.add_sub_cancel]; exact Hrel2.out.symm), by first | exact trivial | rfl⟩, by simp [intOf]; omega⟩
      · have hvm : valD (D.take k) = m := by rw [List.take_of_length_le (by have := Hts.out; omega), HvD.out]
        obtain rfl : m = q := by rw [Hq.out, hvm]
        clear hvm
        have hx3 : (m : Int) ≤ 9223372036854775807 := by have := Hmn.out; omega
        have hse : ((decS (m : Int)).toList == s.toList) = true := by rw [← Hmn.out, HS.out]; simp
        go_wp2_with fail
        all_goals
          refine (refprint_any (m : Int) _ (by rw [← Hmn.out]; exact Hfit.out)).mono ?_
          rintro e w1 ⟨rfl, hx1⟩
          go_wp2
          go_ret2
          exact ⟨by rw [Hmn.out]; rfl, hx1⟩

def incrAns (n by_ : Int) : Value := match one (n + by_) with
  | some x => .tuple #[.int .i64 x, .int .i64 0]
  | none => .tuple #[.int .i64 0, .int .i64 13]
def badForm : Value := .tuple #[.int .i64 0, .int .i64 10]
theorem decS_ne_empty (n : Int) : decS n ≠ ⟨#[]⟩ := by
  intro h
  have h1 := congrArg ByteArray.size h
  rw [decS_size] at h1
  have : 0 < (decL n).length := by
    unfold decL
    split
    · simp
    · exact List.length_pos_iff.2 (dig_ne _)
  have h2 : (decL n).length = 0 := h1
  omega
theorem decS_size_le (n : Int) (hn : Fits n) : (decS n).size ≤ 20 := by
  obtain ⟨h1, h2⟩ := hn
  rw [decS_size]
  unfold decL
  have := dig_le19 (m := n.natAbs) (by omega)
  split
  · simp; omega
  · omega
def ParsedAs (s : ByteArray) (r : Option Int) : Prop := match r with
  | some n => Fits n ∧ decS n = s
  | none => ∀ n, Fits n → decS n ≠ s
def ansP : Option Int → Value
  | none => .tuple #[.int .i64 0, .bool false]
  | some x => .tuple #[.int .i64 x, .bool true]
theorem parse_is (s : ByteArray) (hs : s.size ≤ 9223372036854775807) : ∃ r, ParsedAs s r ∧
    (∀ w, Calls Try.prog 30 #[.string s] w fun e w' => e = .returned (ansP r) ∧ Ext w w') ∧
    (∀ w, Calls Try.prog 34 #[.string s] w fun e w' => e = .returned (ansP r) ∧ Ext w w') := by
  by_cases h : ∃ n, Fits n ∧ decS n = s
  · obtain ⟨n, hn, rfl⟩ := h
    exact ⟨some n, ⟨hn, rfl⟩, fun w => parse_good n w hn, fun w => refparse_good n w hn⟩
  · have hb : ∀ n, Fits n → decS n ≠ s := fun n hn he => h ⟨n, hn, he⟩
    exact ⟨none, hb, fun w => parse_bad s w hs hb, fun w => refparse_bad s w hs hb⟩
theorem isEmpty_of {s : ByteArray} : (s.toList == []) = decide (s = ⟨#[]⟩) := by
  rw [Bool.eq_iff_iff, beq_iff_eq, decide_eq_true_iff]
  constructor
  · intro h
    apply str_ext
    rw [h, ByteArray.toList_eq]
  · rintro rfl
    rw [ByteArray.toList_eq]
set_option maxRecDepth 100000 in
set_option maxHeartbeats 400000 in
theorem incr_is (s : ByteArray) (hs : s.size ≤ 9223372036854775807) (b : Int) (wb : (Lit.int .i64 b).wf = true) : ∃ v1 v2 : Value, (∃ x y : Int, v1 = .tuple #[.int .i64 x, .int .i64 y] ∧ v2 = .tuple #[.int .i64 x, .int .i64 y]) ∧
    (∀ w, Calls Try.prog 16 #[.string s, .int .i64 b] w fun e w' => e = .returned v1 ∧ Ext w w') ∧
    (∀ w, Calls Try.prog 17 #[.string s, .int .i64 b] w fun e w' => e = .returned v2 ∧ Ext w w') ∧ ∀ n, Fits n → decS n = s → v1 = incrAns n b := by
  obtain ⟨r, hr, hp, hq⟩ := parse_is s hs
  have Fb := Lib.hid (fits_wf wb)
  have Wb := Lib.hid wb
  clear wb
  cases r with
  | none =>
    have Hbad : Hid (∀ n, Fits n → decS n ≠ s) := Lib.hid hr
    clear hr
    by_cases he : s = ⟨#[]⟩
    · subst he
      have hone := Lib.hid (one_pos Fb.out)
      refine ⟨.tuple #[.int .i64 b, .int .i64 0], .tuple #[.int .i64 b, .int .i64 0], ⟨_, _, rfl, rfl⟩, fun w => ?_, fun w => ?_, fun n _ h => absurd h (decS_ne_empty n)⟩
      · go_enter Try.func16, Try.ntmps16
        go_wp2_with fail
        refine (hp _).mono ?_
        rintro e w1 ⟨rfl, hx1⟩
        unfold ansP
        go_wp2_with fail
        refine (add_any 0 _ [b] _ ⟨by omega, by omega⟩ (slice_one _ rfl b Wb.out _)).mono ?_
        rintro e w2 ⟨rfl, rfl⟩
        rw [addF_one, Int.zero_add, hone.out]
        unfold ansN
        go_wp2
        go_ret2
        exact ⟨rfl, hx1.alloc _⟩
      · go_enter Try.func17, Try.ntmps17
        go_wp2_with fail
        refine (refadd_any 0 b _ ⟨by omega, by omega⟩ Fb.out).mono ?_
        rintro e w2 ⟨rfl, rfl⟩
        rw [Int.zero_add, hone.out]
        unfold ansN
        go_wp2
        go_ret2
        exact ⟨rfl, Ext.refl _⟩
    · have hse : (s.toList == []) = false := by rw [isEmpty_of]; simpa using he
      have hie : s.toList.isEmpty = false := by
        cases h : s.toList.isEmpty with
        | false => rfl
        | true => rw [List.isEmpty_iff] at h; rw [h] at hse; simp at hse
      clear he
      refine ⟨badForm, badForm, ⟨_, _, rfl, rfl⟩, fun w => ?_, fun w => ?_, fun n h1 h2 => absurd h2 (Hbad.out n h1)⟩
      · go_enter Try.func16, Try.ntmps16
        go_wp2_with fail
        refine (hp _).mono ?_
        rintro e w1 ⟨rfl, hx1⟩
        unfold ansP
        go_wp2
        go_ret2
        exact ⟨rfl, hx1⟩
      · go_enter Try.func17, Try.ntmps17
        go_wp2_with fail
        refine (hq _).mono ?_
        rintro e w1 ⟨rfl, hx1⟩
        unfold ansP
        go_wp2
        go_ret2
        exact ⟨rfl, hx1⟩
  | some n =>
    obtain ⟨hf, he⟩ : Fits n ∧ decS n = s := hr
    have Hf := Lib.hid hf
    have He := Lib.hid he
    have hne : s ≠ ⟨#[]⟩ := by rw [← he]; exact decS_ne_empty n
    have hse : (s.toList == []) = false := by rw [isEmpty_of]; simpa using hne
    have hie : s.toList.isEmpty = false := by
      cases h : s.toList.isEmpty with
      | false => rfl
      | true => rw [List.isEmpty_iff] at h; rw [h] at hse; simp at hse
    clear hf he hne
    refine ⟨incrAns n b, incrAns n b, ?_, fun w => ?_, fun w => ?_, fun m h1 h2 => by rw [decS_inj (h2.trans He.out.symm)]⟩
    · unfold incrAns
      cases one (n + b) <;> exact ⟨_, _, rfl, rfl⟩
    · go_enter Try.func16, Try.ntmps16
      go_wp2_with fail
      refine (hp _).mono ?_
      rintro e w1 ⟨rfl, hx1⟩
      unfold ansP
      go_wp2_with fail
      refine (add_any n _ [b] _ Hf.out (slice_one _ rfl b Wb.out _)).mono ?_
      rintro e w2 ⟨rfl, rfl⟩
      rw [addF_one]
      obtain ⟨o, ho⟩ : ∃ o, one (n + b) = o := ⟨_, rfl⟩
      have Ho := Lib.hid ho
      rw [ho]
      clear ho
      cases o
      · unfold ansN
        go_wp2
        go_ret2
        exact ⟨by unfold incrAns; rw [Ho.out]; rfl, hx1.alloc _⟩
      · unfold ansN
        go_wp2
        go_ret2
        exact ⟨by unfold incrAns; rw [Ho.out]; rfl, hx1.alloc _⟩
    · go_enter Try.func17, Try.ntmps17
      go_wp2_with fail
      refine (hq _).mono ?_
      rintro e w1 ⟨rfl, hx1⟩
      unfold ansP
      go_wp2_with fail
      refine (refadd_any n b _ Hf.out Fb.out).mono ?_
      rintro e w2 ⟨rfl, rfl⟩
      obtain ⟨o, ho⟩ : ∃ o, one (n + b) = o := ⟨_, rfl⟩
      have Ho := Lib.hid ho
      rw [ho]
      clear ho
      cases o
      · unfold ansN
        go_wp2
        go_ret2
        exact ⟨by unfold incrAns; rw [Ho.out]; rfl, hx1⟩
      · unfold ansN
        go_wp2
        go_ret2
        exact ⟨by unfold incrAns; rw [Ho.out]; rfl, hx1⟩
end Go.Proofs.Ytlobedanjbcfkaa
