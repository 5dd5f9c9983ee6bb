/-
  num.Add, num.Sub, num.Span and the reference's, walked; the statements' example.
-/
import Derived.Test.YtlobedanjbcfkaaNumP
set_option linter.unusedVariables false
namespace Go.Proofs.Ytlobedanjbcfkaa
open Go.RowKit Go.Proofs

instance (x : Int) : Decidable (Fits x) := by unfold Fits; infer_instance
/-- a sum, told to be too great as none -/
def addF : Int → List Int → Option Int
  | a, [] => some a
  | a, b :: bs => if Fits (a + b) then addF (a + b) bs else none
def ansN : Option Int → Value
  | none => .tuple #[.int .i64 0, .bool false]
  | some x => .tuple #[.int .i64 x, .bool true]
def one (x : Int) : Option Int := if Fits x then some x else none
theorem one_pos {x : Int} (h : Fits x) : one x = some x := if_pos h
theorem one_neg {x : Int} (h : ¬ Fits x) : one x = none := if_neg h

set_option maxRecDepth 100000 in
set_option maxHeartbeats 1000000 in
theorem add_any (a : Int) (v : Value) (bs : List Int) (w : World) (ha : Fits a) (hv : SliceOf (rInt .i64) w v bs) :
    Calls Try.prog 11 #[.int .i64 a, v] w fun e w' => e = .returned (ansN (addF a bs)) ∧ w = w' := by
  obtain ⟨A, cap, rfl, hle, hm, h0, _⟩ := id hv
  unfold maxLen at hm
  go_enter Try.func11, Try.ntmps11
  go_wp2_with fail
  go_loopw [0, 7, 10] (fun n b i wr => ∃ (k : Nat) (q : Int), k ≤ bs.length ∧ i = .int .i64 k ∧ n = .int .i64 q ∧ Fits q ∧ addF a bs = addF q (bs.drop k) ∧ wr = w) (fun _ _ i _ => bs.length - (intOf i).toNat)
  case atStart => exact ⟨0, a, by omega, rfl, rfl, ha, by simp, rfl⟩
  case round =>
    obtain ⟨k, q, hk, rfl, rfl, ⟨hq1, hq2⟩, hs, rfl⟩ := hrel
    have Hs := Lib.hid hs
    clear hs
    by_cases hlt : k < bs.length
    · obtain ⟨g, o, u, rfl, hu, hu', hwf⟩ := hv.at1 rfl (List.getElem?_eq_getElem hlt)
      have hd : bs.drop k = bs[k] :: bs.drop (k + 1) := List.drop_eq_getElem_cons hlt
      obtain ⟨hb1, hb2⟩ := fits_wf hwf
      generalize bs[k] = b at hd hb1 hb2 hu' hwf
      obtain rfl : u = .int .i64 b := by simpa using hu'
      clear hu' hwf
      have Hd := Lib.hid hd
      clear hd
      by_cases hf : Fits (q + b)
      · have hn : addF a bs = addF (q + b) (bs.drop (k + 1)) := by
          rw [Hs.out, Hd.out]; simp only [addF]; rw [if_pos hf]
        have Hn := Lib.hid hn
        clear hn
        obtain ⟨hf1, hf2⟩ := hf
        rcases Int.lt_trichotomy b 0 with hb | hb | hb
        · have hx : ¬ q < -9223372036854775808 - b := by omega
          go_wp2_with fail
          exact ⟨⟨k + 1, _, by omega, by go_num, rfl, ⟨by omega, by omega⟩, Hn.out, by first | exact trivial | rfl⟩, by simp [intOf]; omega⟩
        · subst hb
          have Hn2 := Lib.hid (by rw [Hn.out, Int.add_zero] : addF a bs = addF q (bs.drop (k + 1)))
          go_wp2_with fail
          exact ⟨⟨k + 1, _, by omega, by go_num, rfl, ⟨by omega, by omega⟩, by first | exact Hn2.out | exact Hn.out, by first | exact trivial | rfl⟩, by simp [intOf]; omega⟩
        · have hx : ¬ 9223372036854775807 - b < q := by omega
          go_wp2_with fail
          exact ⟨⟨k + 1, _, by omega, by go_num, rfl, ⟨by omega, by omega⟩, Hn.out, by first | exact trivial | rfl⟩, by simp [intOf]; omega⟩
      · have hn : addF a bs = none := by
          rw [Hs.out, Hd.out]; simp only [addF]; rw [if_neg hf]
        have Hn := Lib.hid hn
        clear hn
        have hf' : q + b < -9223372036854775808 ∨ 9223372036854775807 < q + b := by
          unfold Fits at hf; omega
        clear hf
        rcases hf' with hf' | hf'
        · have hx : q < -9223372036854775808 - b := by omega
          have hb : b < 0 := by omega
          go_wp2_with fail
          go_ret2
          exact ⟨by rw [Hn.out]; rfl, by first | exact trivial | rfl⟩
        · have hx : 9223372036854775807 - b < q := by omega
          have hb : 0 < b := by omega
          go_wp2_with fail
          go_ret2
          exact ⟨by rw [Hn.out]; rfl, by first | exact trivial | rfl⟩
    · have hn : addF a bs = some q := by rw [Hs.out, List.drop_of_length_le (by omega)]; rfl
      have Hn := Lib.hid hn
      clear hn
      go_wp2_with fail
      go_ret2
      exact ⟨by rw [Hn.out]; rfl, by first | exact trivial | rfl⟩

set_option maxRecDepth 100000 in
set_option maxHeartbeats 1000000 in
theorem sub_any (a b : Int) (w : World) (ha : Fits a) (hb : Fits b) :
    Calls Try.prog 13 #[.int .i64 a, .int .i64 b] w fun e w' => e = .returned (ansN (one (a - b))) ∧ w = w' := by
  obtain ⟨ha1, ha2⟩ := ha
  obtain ⟨hb1, hb2⟩ := hb
  by_cases hf : Fits (a - b)
  · have Hn := Lib.hid (one_pos hf)
    obtain ⟨hf1, hf2⟩ := hf
    rcases Int.lt_trichotomy b 0 with hb | hb | hb
    · have hx : ¬ 9223372036854775807 + b < a := by omega
      go_enter Try.func13, Try.ntmps13
      go_wp2_with fail
      go_ret2
      exact ⟨by rw [Hn.out]; rfl, by first | exact trivial | rfl⟩
    · subst hb
      go_enter Try.func13, Try.ntmps13
      go_wp2_with fail
      go_ret2
      exact ⟨by rw [Hn.out, Int.sub_zero]; rfl, by first | exact trivial | rfl⟩
    · have hx : ¬ a < -9223372036854775808 + b := by omega
      go_enter Try.func13, Try.ntmps13
      go_wp2_with fail
      go_ret2
      exact ⟨by rw [Hn.out]; rfl, by first | exact trivial | rfl⟩
  · have Hn := Lib.hid (one_neg hf)
    have hf' : a - b < -9223372036854775808 ∨ 9223372036854775807 < a - b := by
      unfold Fits at hf; omega
    clear hf
    rcases hf' with hf' | hf'
    · have hx : a < -9223372036854775808 + b := by omega
      have hb : 0 < b := by omega
      go_enter Try.func13, Try.ntmps13
      go_wp2_with fail
      go_ret2
      exact ⟨by rw [Hn.out]; rfl, by first | exact trivial | rfl⟩
    · have hx : 9223372036854775807 + b < a := by omega
      have hb : b < 0 := by omega
      go_enter Try.func13, Try.ntmps13
      go_wp2_with fail
      go_ret2
      exact ⟨by rw [Hn.out]; rfl, by first | exact trivial | rfl⟩

theorem uw (x : Int) : IntKind.u64.wrap x = x % 18446744073709551616 := by simp [IntKind.wrap, IntKind.bits, IntKind.signed]

set_option maxRecDepth 100000 in
set_option maxHeartbeats 1000000 in
theorem refadd_any (a b : Int) (w : World) (ha : Fits a) (hb : Fits b) :
    Calls Try.prog 12 #[.int .i64 a, .int .i64 b] w fun e w' => e = .returned (ansN (one (a + b))) ∧ w = w' := by
  obtain ⟨ha1, ha2⟩ := ha
  obtain ⟨hb1, hb2⟩ := hb
  by_cases hsa : 0 ≤ a <;> by_cases hsb : 0 ≤ b
  · by_cases hf : Fits (a + b)
    · have Hn := Lib.hid (one_pos hf)
      obtain ⟨hf1, hf2⟩ := hf
      go_enter Try.func12, Try.ntmps12
      go_wp2_with fail
      all_goals go_ret2
      exact ⟨by rw [Hn.out]; rfl, by first | exact trivial | rfl⟩
    · have Hn := Lib.hid (one_neg hf)
      unfold Fits at hf
      have hf3 : 9223372036854775807 < a + b := by omega
      clear hf
      obtain ⟨z, hZ⟩ : ∃ z, wrap64 (a + b) = z := ⟨_, rfl⟩
      have HZ := Lib.hid (show z = (a + b + 9223372036854775808) % 18446744073709551616 - 9223372036854775808 by rw [← hZ]; unfold wrap64; omega)
      have hZ1 : -9223372036854775808 ≤ z := by have := HZ.out; omega
      have hZ2 : z ≤ 9223372036854775807 := by have := HZ.out; omega
      have hZ4 : z < 0 := by have := HZ.out; omega
      go_enter Try.func12, Try.ntmps12
      go_wp2_with fail
      all_goals go_ret2
      all_goals exact ⟨by rw [Hn.out]; rfl, by first | exact trivial | rfl⟩
  · have hf : Fits (a + b) := ⟨by omega, by omega⟩
    have Hn := Lib.hid (one_pos hf)
    obtain ⟨hf1, hf2⟩ := hf
    obtain ⟨b', hB⟩ : ∃ b', IntKind.u64.wrap b = b' := ⟨_, rfl⟩
    have HB := Lib.hid (show b' = b + 18446744073709551616 by rw [← hB, uw]; omega)
    have hB1 : 0 ≤ b' := by have := HB.out; omega
    have hB2 : b' ≤ 18446744073709551615 := by have := HB.out; omega
    obtain ⟨s', hS⟩ : ∃ s', IntKind.u64.wrap (a + b') = s' := ⟨_, rfl⟩
    have HS := Lib.hid (show s' = (a + b) % 18446744073709551616 by have := HB.out; rw [← hS, uw]; try omega)
    have hS1 : 0 ≤ s' := by have := HS.out; omega
    have hS2 : s' ≤ 18446744073709551615 := by have := HS.out; omega
    obtain ⟨z, hZ⟩ : ∃ z, wrap64 s' = z := ⟨_, rfl⟩
    have HZ := Lib.hid (show z = (a + b + 9223372036854775808) % 18446744073709551616 - 9223372036854775808 by have := HS.out; rw [← hZ]; unfold wrap64; omega)
    have hZ1 : -9223372036854775808 ≤ z := by have := HZ.out; omega
    have hZ2 : z ≤ 9223372036854775807 := by have := HZ.out; omega
    have HZ3 := Lib.hid (show z = a + b by have := HZ.out; omega)
    go_enter Try.func12, Try.ntmps12
    go_wp2_with fail
    all_goals go_ret2
    all_goals exact ⟨by rw [Hn.out, ← HZ3.out]; rfl, by first | exact trivial | rfl⟩
  · have hf : Fits (a + b) := ⟨by omega, by omega⟩
    have Hn := Lib.hid (one_pos hf)
    obtain ⟨hf1, hf2⟩ := hf
    obtain ⟨a', hA⟩ : ∃ a', IntKind.u64.wrap a = a' := ⟨_, rfl⟩
    have HA := Lib.hid (show a' = a + 18446744073709551616 by rw [← hA, uw]; omega)
    have hA1 : 0 ≤ a' := by have := HA.out; omega
    have hA2 : a' ≤ 18446744073709551615 := by have := HA.out; omega
    obtain ⟨s', hS⟩ : ∃ s', IntKind.u64.wrap (a' + b) = s' := ⟨_, rfl⟩
    have HS := Lib.hid (show s' = (a + b) % 18446744073709551616 by have := HA.out; rw [← hS, uw]; try omega)
    have hS1 : 0 ≤ s' := by have := HS.out; omega
    have hS2 : s' ≤ 18446744073709551615 := by have := HS.out; omega
    obtain ⟨z, hZ⟩ : ∃ z, wrap64 s' = z := ⟨_, rfl⟩
    have HZ := Lib.hid (show z = (a + b + 9223372036854775808) % 18446744073709551616 - 9223372036854775808 by have := HS.out; rw [← hZ]; unfold wrap64; omega)
    have hZ1 : -9223372036854775808 ≤ z := by have := HZ.out; omega
    have hZ2 : z ≤ 9223372036854775807 := by have := HZ.out; omega
    have HZ3 := Lib.hid (show z = a + b by have := HZ.out; omega)
    go_enter Try.func12, Try.ntmps12
    go_wp2_with fail
    all_goals go_ret2
    all_goals exact ⟨by rw [Hn.out, ← HZ3.out]; rfl, by first | exact trivial | rfl⟩
  · by_cases hf : Fits (a + b)
    · have Hn := Lib.hid (one_pos hf)
      obtain ⟨hf1, hf2⟩ := hf
      obtain ⟨a', hA⟩ : ∃ a', IntKind.u64.wrap a = a' := ⟨_, rfl⟩
      have HA := Lib.hid (show a' = a + 18446744073709551616 by rw [← hA, uw]; omega)
      have hA1 : 0 ≤ a' := by have := HA.out; omega
      have hA2 : a' ≤ 18446744073709551615 := by have := HA.out; omega
      obtain ⟨b', hB⟩ : ∃ b', IntKind.u64.wrap b = b' := ⟨_, rfl⟩
      have HB := Lib.hid (show b' = b + 18446744073709551616 by rw [← hB, uw]; omega)
      have hB1 : 0 ≤ b' := by have := HB.out; omega
      have hB2 : b' ≤ 18446744073709551615 := by have := HB.out; omega
      obtain ⟨s', hS⟩ : ∃ s', IntKind.u64.wrap (a' + b') = s' := ⟨_, rfl⟩
      have HS := Lib.hid (show s' = (a + b) % 18446744073709551616 by have := HA.out; have := HB.out; rw [← hS, uw]; try omega)
      have hS1 : 0 ≤ s' := by have := HS.out; omega
      have hS2 : s' ≤ 18446744073709551615 := by have := HS.out; omega
      obtain ⟨z, hZ⟩ : ∃ z, wrap64 s' = z := ⟨_, rfl⟩
      have HZ := Lib.hid (show z = (a + b + 9223372036854775808) % 18446744073709551616 - 9223372036854775808 by have := HS.out; rw [← hZ]; unfold wrap64; omega)
      have hZ1 : -9223372036854775808 ≤ z := by have := HZ.out; omega
      have hZ2 : z ≤ 9223372036854775807 := by have := HZ.out; omega
      have HZ3 := Lib.hid (show z = a + b by have := HZ.out; omega)
      have hZ4 : z < 0 := by have := HZ3.out; omega
      go_enter Try.func12, Try.ntmps12
      go_wp2_with fail
      all_goals go_ret2
      all_goals exact ⟨by rw [Hn.out, ← HZ3.out]; rfl, by first | exact trivial | rfl⟩
    · have Hn := Lib.hid (one_neg hf)
      unfold Fits at hf
      have hf3 : a + b < -9223372036854775808 := by omega
      clear hf
      obtain ⟨a', hA⟩ : ∃ a', IntKind.u64.wrap a = a' := ⟨_, rfl⟩
      have HA := Lib.hid (show a' = a + 18446744073709551616 by rw [← hA, uw]; omega)
      have hA1 : 0 ≤ a' := by have := HA.out; omega
      have hA2 : a' ≤ 18446744073709551615 := by have := HA.out; omega
      obtain ⟨b', hB⟩ : ∃ b', IntKind.u64.wrap b = b' := ⟨_, rfl⟩
      have HB := Lib.hid (show b' = b + 18446744073709551616 by rw [← hB, uw]; omega)
      have hB1 : 0 ≤ b' := by have := HB.out; omega
      have hB2 : b' ≤ 18446744073709551615 := by have := HB.out; omega
      obtain ⟨s', hS⟩ : ∃ s', IntKind.u64.wrap (a' + b') = s' := ⟨_, rfl⟩
      have HS := Lib.hid (show s' = (a + b) % 18446744073709551616 by have := HA.out; have := HB.out; rw [← hS, uw]; try omega)
      have hS1 : 0 ≤ s' := by have := HS.out; omega
      have hS2 : s' ≤ 18446744073709551615 := by have := HS.out; omega
      obtain ⟨z, hZ⟩ : ∃ z, wrap64 s' = z := ⟨_, rfl⟩
      have HZ := Lib.hid (show z = (a + b + 9223372036854775808) % 18446744073709551616 - 9223372036854775808 by have := HS.out; rw [← hZ]; unfold wrap64; omega)
      have hZ1 : -9223372036854775808 ≤ z := by have := HZ.out; omega
      have hZ2 : z ≤ 9223372036854775807 := by have := HZ.out; omega
      have hZ4 : 0 ≤ z := by have := HZ.out; omega
      go_enter Try.func12, Try.ntmps12
      go_wp2_with fail
      all_goals go_ret2
      all_goals exact ⟨by rw [Hn.out]; rfl, by first | exact trivial | rfl⟩
set_option maxRecDepth 100000 in
set_option maxHeartbeats 1000000 in
theorem refsub_any (a b : Int) (w : World) (ha : Fits a) (hb : Fits b) :
    Calls Try.prog 14 #[.int .i64 a, .int .i64 b] w fun e w' => e = .returned (ansN (one (a - b))) ∧ w = w' := by
  obtain ⟨ha1, ha2⟩ := ha
  obtain ⟨hb1, hb2⟩ := hb
  by_cases hsa : 0 ≤ a <;> by_cases hsb : 0 ≤ b
  · have hf : Fits (a - b) := ⟨by omega, by omega⟩
    have Hn := Lib.hid (one_pos hf)
    obtain ⟨hf1, hf2⟩ := hf
    obtain ⟨s', hS⟩ : ∃ s', IntKind.u64.wrap (a - b) = s' := ⟨_, rfl⟩
    have HS := Lib.hid (show s' = (a - b) % 18446744073709551616 by rw [← hS, uw]; try omega)
    have hS1 : 0 ≤ s' := by have := HS.out; omega
    have hS2 : s' ≤ 18446744073709551615 := by have := HS.out; omega
    obtain ⟨z, hZ⟩ : ∃ z, wrap64 s' = z := ⟨_, rfl⟩
    have HZ := Lib.hid (show z = (a - b + 9223372036854775808) % 18446744073709551616 - 9223372036854775808 by have := HS.out; rw [← hZ]; unfold wrap64; omega)
    have hZ1 : -9223372036854775808 ≤ z := by have := HZ.out; omega
    have hZ2 : z ≤ 9223372036854775807 := by have := HZ.out; omega
    have HZ3 := Lib.hid (show z = a - b by have := HZ.out; omega)
    go_enter Try.func14, Try.ntmps14
    go_wp2_with fail
    all_goals go_ret2
    all_goals exact ⟨by rw [Hn.out, ← HZ3.out]; rfl, by first | exact trivial | rfl⟩
  · by_cases hf : Fits (a - b)
    · have Hn := Lib.hid (one_pos hf)
      obtain ⟨hf1, hf2⟩ := hf
      obtain ⟨b', hB⟩ : ∃ b', IntKind.u64.wrap b = b' := ⟨_, rfl⟩
      have HB := Lib.hid (show b' = b + 18446744073709551616 by rw [← hB, uw]; omega)
      have hB1 : 0 ≤ b' := by have := HB.out; omega
      have hB2 : b' ≤ 18446744073709551615 := by have := HB.out; omega
      obtain ⟨s', hS⟩ : ∃ s', IntKind.u64.wrap (a - b') = s' := ⟨_, rfl⟩
      have HS := Lib.hid (show s' = (a - b) % 18446744073709551616 by have := HB.out; rw [← hS, uw]; try omega)
      have hS1 : 0 ≤ s' := by have := HS.out; omega
      have hS2 : s' ≤ 18446744073709551615 := by have := HS.out; omega
      obtain ⟨z, hZ⟩ : ∃ z, wrap64 s' = z := ⟨_, rfl⟩
      have HZ := Lib.hid (show z = (a - b + 9223372036854775808) % 18446744073709551616 - 9223372036854775808 by have := HS.out; rw [← hZ]; unfold wrap64; omega)
      have hZ1 : -9223372036854775808 ≤ z := by have := HZ.out; omega
      have hZ2 : z ≤ 9223372036854775807 := by have := HZ.out; omega
      have HZ3 := Lib.hid (show z = a - b by have := HZ.out; omega)
      have hZ4 : 0 ≤ z := by have := HZ3.out; omega
      go_enter Try.func14, Try.ntmps14
      go_wp2_with fail
      all_goals go_ret2
      all_goals exact ⟨by rw [Hn.out, ← HZ3.out]; rfl, by first | exact trivial | rfl⟩
    · have Hn := Lib.hid (one_neg hf)
      unfold Fits at hf
      have hf3 : 9223372036854775807 < a - b := by omega
      clear hf
      obtain ⟨b', hB⟩ : ∃ b', IntKind.u64.wrap b = b' := ⟨_, rfl⟩
      have HB := Lib.hid (show b' = b + 18446744073709551616 by rw [← hB, uw]; omega)
      have hB1 : 0 ≤ b' := by have := HB.out; omega
      have hB2 : b' ≤ 18446744073709551615 := by have := HB.out; omega
      obtain ⟨s', hS⟩ : ∃ s', IntKind.u64.wrap (a - b') = s' := ⟨_, rfl⟩
      have HS := Lib.hid (show s' = (a - b) % 18446744073709551616 by have := HB.out; rw [← hS, uw]; try omega)
      have hS1 : 0 ≤ s' := by have := HS.out; omega
      have hS2 : s' ≤ 18446744073709551615 := by have := HS.out; omega
      obtain ⟨z, hZ⟩ : ∃ z, wrap64 s' = z := ⟨_, rfl⟩
      have HZ := Lib.hid (show z = (a - b + 9223372036854775808) % 18446744073709551616 - 9223372036854775808 by have := HS.out; rw [← hZ]; unfold wrap64; omega)
      have hZ1 : -9223372036854775808 ≤ z := by have := HZ.out; omega
      have hZ2 : z ≤ 9223372036854775807 := by have := HZ.out; omega
      have hZ4 : z < 0 := by have := HZ.out; omega
      go_enter Try.func14, Try.ntmps14
      go_wp2_with fail
      all_goals go_ret2
      all_goals exact ⟨by rw [Hn.out]; rfl, by first | exact trivial | rfl⟩
  · by_cases hf : Fits (a - b)
    · have Hn := Lib.hid (one_pos hf)
      obtain ⟨hf1, hf2⟩ := hf
      obtain ⟨a', hA⟩ : ∃ a', IntKind.u64.wrap a = a' := ⟨_, rfl⟩
      have HA := Lib.hid (show a' = a + 18446744073709551616 by rw [← hA, uw]; omega)
      have hA1 : 0 ≤ a' := by have := HA.out; omega
      have hA2 : a' ≤ 18446744073709551615 := by have := HA.out; omega
      obtain ⟨s', hS⟩ : ∃ s', IntKind.u64.wrap (a' - b) = s' := ⟨_, rfl⟩
      have HS := Lib.hid (show s' = (a - b) % 18446744073709551616 by have := HA.out; rw [← hS, uw]; try omega)
      have hS1 : 0 ≤ s' := by have := HS.out; omega
      have hS2 : s' ≤ 18446744073709551615 := by have := HS.out; omega
      obtain ⟨z, hZ⟩ : ∃ z, wrap64 s' = z := ⟨_, rfl⟩
      have HZ := Lib.hid (show z = (a - b + 9223372036854775808) % 18446744073709551616 - 9223372036854775808 by have := HS.out; rw [← hZ]; unfold wrap64; omega)
      have hZ1 : -9223372036854775808 ≤ z := by have := HZ.out; omega
      have hZ2 : z ≤ 9223372036854775807 := by have := HZ.out; omega
      have HZ3 := Lib.hid (show z = a - b by have := HZ.out; omega)
      have hZ4 : z < 0 := by have := HZ3.out; omega
      go_enter Try.func14, Try.ntmps14
      go_wp2_with fail
      all_goals go_ret2
      all_goals exact ⟨by rw [Hn.out, ← HZ3.out]; rfl, by first | exact trivial | rfl⟩
    · have Hn := Lib.hid (one_neg hf)
      unfold Fits at hf
      have hf3 : a - b < -9223372036854775808 := by omega
      clear hf
      obtain ⟨a', hA⟩ : ∃ a', IntKind.u64.wrap a = a' := ⟨_, rfl⟩
      have HA := Lib.hid (show a' = a + 18446744073709551616 by rw [← hA, uw]; omega)
      have hA1 : 0 ≤ a' := by have := HA.out; omega
      have hA2 : a' ≤ 18446744073709551615 := by have := HA.out; omega
      obtain ⟨s', hS⟩ : ∃ s', IntKind.u64.wrap (a' - b) = s' := ⟨_, rfl⟩
      have HS := Lib.hid (show s' = (a - b) % 18446744073709551616 by have := HA.out; rw [← hS, uw]; try omega)
      have hS1 : 0 ≤ s' := by have := HS.out; omega
      have hS2 : s' ≤ 18446744073709551615 := by have := HS.out; omega
      obtain ⟨z, hZ⟩ : ∃ z, wrap64 s' = z := ⟨_, rfl⟩
      have HZ := Lib.hid (show z = (a - b + 9223372036854775808) % 18446744073709551616 - 9223372036854775808 by have := HS.out; rw [← hZ]; unfold wrap64; omega)
      have hZ1 : -9223372036854775808 ≤ z := by have := HZ.out; omega
      have hZ2 : z ≤ 9223372036854775807 := by have := HZ.out; omega
      have hZ4 : 0 ≤ z := by have := HZ.out; omega
      go_enter Try.func14, Try.ntmps14
      go_wp2_with fail
      all_goals go_ret2
      all_goals exact ⟨by rw [Hn.out]; rfl, by first | exact trivial | rfl⟩
  · have hf : Fits (a - b) := ⟨by omega, by omega⟩
    have Hn := Lib.hid (one_pos hf)
    obtain ⟨hf1, hf2⟩ := hf
    obtain ⟨a', hA⟩ : ∃ a', IntKind.u64.wrap a = a' := ⟨_, rfl⟩
    have HA := Lib.hid (show a' = a + 18446744073709551616 by rw [← hA, uw]; omega)
    have hA1 : 0 ≤ a' := by have := HA.out; omega
    have hA2 : a' ≤ 18446744073709551615 := by have := HA.out; omega
    obtain ⟨b', hB⟩ : ∃ b', IntKind.u64.wrap b = b' := ⟨_, rfl⟩
    have HB := Lib.hid (show b' = b + 18446744073709551616 by rw [← hB, uw]; omega)
    have hB1 : 0 ≤ b' := by have := HB.out; omega
    have hB2 : b' ≤ 18446744073709551615 := by have := HB.out; omega
    obtain ⟨s', hS⟩ : ∃ s', IntKind.u64.wrap (a' - b') = s' := ⟨_, rfl⟩
    have HS := Lib.hid (show s' = (a - b) % 18446744073709551616 by have := HA.out; have := HB.out; rw [← hS, uw]; try omega)
    have hS1 : 0 ≤ s' := by have := HS.out; omega
    have hS2 : s' ≤ 18446744073709551615 := by have := HS.out; omega
    obtain ⟨z, hZ⟩ : ∃ z, wrap64 s' = z := ⟨_, rfl⟩
    have HZ := Lib.hid (show z = (a - b + 9223372036854775808) % 18446744073709551616 - 9223372036854775808 by have := HS.out; rw [← hZ]; unfold wrap64; omega)
    have hZ1 : -9223372036854775808 ≤ z := by have := HZ.out; omega
    have hZ2 : z ≤ 9223372036854775807 := by have := HZ.out; omega
    have HZ3 := Lib.hid (show z = a - b by have := HZ.out; omega)
    go_enter Try.func14, Try.ntmps14
    go_wp2_with fail
    all_goals go_ret2
    all_goals exact ⟨by rw [Hn.out, ← HZ3.out]; rfl, by first | exact trivial | rfl⟩

theorem span1 (w : World) :
    Calls Try.prog 31 #[.int .i64 (-3), .int .i64 (-1), .int .i64 5] w fun e w' => e = .returned (.tuple #[.int .i64 2, .int .i64 5]) ∧ w = w' := by
  go_enter Try.func31, Try.ntmps31
  go_wp2
  go_ret2
  exact ⟨rfl, rfl⟩
theorem span2 (w : World) :
    Calls Try.prog 31 #[.int .i64 3, .int .i64 1, .int .i64 5] w fun e w' => e = .returned (.tuple #[.int .i64 0, .int .i64 0]) ∧ w = w' := by
  go_enter Try.func31, Try.ntmps31
  go_wp2
  go_ret2
  exact ⟨rfl, rfl⟩
set_option maxRecDepth 100000 in
set_option maxHeartbeats 1000000 in
theorem awake1 (w : World) :
    Calls Try.prog 9 #[] w fun e w' => e = .returned (.bool true) ∧ Ext w w' := by
  have hs : decS (-9223372036854775808) = ⟨#[45, 57, 50, 50, 51, 51, 55, 50, 48, 51, 54, 56, 53, 52, 55, 55, 53, 56, 48, 56]⟩ := by
    unfold decS decL
    simp [dig]
  have Hs := Lib.hid hs
  clear hs
  go_enter Try.func9, Try.ntmps9
  go_wp2_with fail
  rw [← Hs.out]
  refine (parse_good _ _ ⟨by omega, by omega⟩).mono ?_
  rintro e w1 ⟨rfl, hx1⟩
  go_wp2_with fail
  refine (span1 _).mono ?_
  rintro e w2 ⟨rfl, rfl⟩
  go_wp2_with fail
  refine (span2 _).mono ?_
  rintro e w2 ⟨rfl, rfl⟩
  go_wp2
  go_ret
  exact ⟨rfl, hx1⟩
end Go.Proofs.Ytlobedanjbcfkaa
