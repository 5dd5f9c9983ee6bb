/-
  The statement NumSums, walked: sums and differences are the document's.
-/
import Derived.Test.YtlobedanjbcfkaaNumBack
set_option linter.unusedVariables false
namespace Go.Proofs.Ytlobedanjbcfkaa
open Go.RowKit Go.Proofs

theorem slice_two {g : Nat} (w : World) (hg : g = w.heap.size) (b c : Int) (wb : (Lit.int .i64 b).wf = true) (wc : (Lit.int .i64 c).wf = true) (t : TypeId) :
    SliceOf (rInt .i64) (w.alloc (.cells #[.int .i64 b, .int .i64 c] t)) (.slice (some ⟨g, 0, none⟩) 2 2) [b, c] :=
  sliceOf_alloc rfl w hg _ t _ _ 2 rfl (by decide) fun j x hx => by
    match j, hx with
    | 0, hx => obtain rfl : b = x := by simpa using hx
               exact ⟨_, rfl, rfl, wb⟩
    | 1, hx => obtain rfl : c = x := by simpa using hx
               exact ⟨_, rfl, rfl, wc⟩
    | (n + 2), hx => simp at hx
set_option maxRecDepth 100000 in
set_option maxHeartbeats 2000000 in
theorem numSums_walk (w : World) (a : Int) (wa : (Lit.int .i64 a).wf = true) (b : Int) (wb : (Lit.int .i64 b).wf = true) (c : Int) (wc : (Lit.int .i64 c).wf = true) :
    Calls Try.prog 4 #[.int .i64 a, .int .i64 b, .int .i64 c] w fun e w' => e = .returned (.bool true) ∧ Ext w w' := by
  have fa := fits_wf wa
  have fb := fits_wf wb
  have fc := fits_wf wc
  obtain ⟨ha1, ha2⟩ := id fa
  obtain ⟨hb1, hb2⟩ := id fb
  obtain ⟨hc1, hc2⟩ := id fc
  have Fa := Lib.hid fa
  have Fb := Lib.hid fb
  have Fc := Lib.hid fc
  have Wa := Lib.hid wa
  have Wb := Lib.hid wb
  have Wc := Lib.hid wc
  clear wa wb wc fa fb fc
  go_enter Try.func4, Try.ntmps4
  go_wp2_with fail
  refine (awake1 _).mono ?_
  rintro e w1 ⟨rfl, hx1⟩
  go_wp2_with fail
  refine (add_any a _ [b] _ Fa.out (slice_one _ rfl b Wb.out _)).mono ?_
  rintro e w2 ⟨rfl, rfl⟩
  rw [addF_one]
  by_cases hf : Fits (a + b)
  · by_cases hd : Fits (a - b)
    · have Fd := Lib.hid hd
      have Ff := Lib.hid hf
      clear hd hf
      have hf1 := Ff.out.1
      have hf2 := Ff.out.2
      have hd1 := Fd.out.1
      have hd2 := Fd.out.2
      rw [one_pos Ff.out]
      unfold ansN
      go_wp2_with fail
      refine (refadd_any a b _ Fa.out Fb.out).mono ?_
      rintro e w2 ⟨rfl, rfl⟩
      rw [one_pos Ff.out]
      unfold ansN
      go_wp2_with fail
      refine (sub_any a b _ Fa.out Fb.out).mono ?_
      rintro e w2 ⟨rfl, rfl⟩
      rw [one_pos Fd.out]
      unfold ansN
      go_wp2_with fail
      refine (refsub_any a b _ Fa.out Fb.out).mono ?_
      rintro e w2 ⟨rfl, rfl⟩
      rw [one_pos Fd.out]
      unfold ansN
      go_wp2_with fail
      refine (add_any a _ [b, c] _ Fa.out (slice_two _ (by simp) b c Wb.out Wc.out _)).mono ?_
      rintro e w2 ⟨rfl, rfl⟩
      rw [addF_two, one_pos Ff.out]
      simp only [Option.bind_some]
      by_cases hg : Fits (a + b + c)
      · have Fg := Lib.hid hg
        clear hg
        have hg1 := Fg.out.1
        have hg2 := Fg.out.2
        rw [one_pos Fg.out]
        unfold ansN
        go_wp2_with fail
        refine (refadd_any (a + b) c _ Ff.out Fc.out).mono ?_
        rintro e w2 ⟨rfl, rfl⟩
        rw [one_pos Fg.out]
        unfold ansN
        go_wp2_with fail
        refine (add_any a _ [] _ Fa.out (sliceOf_nil _ _)).mono ?_
        rintro e w2 ⟨rfl, rfl⟩
        unfold addF
        simp only [ansN]
        go_wp2
        go_ret
        exact ⟨rfl, (hx1.alloc _).alloc _⟩
      · have Fg := Lib.hid hg
        clear hg
        rw [one_neg Fg.out]
        unfold ansN
        go_wp2_with fail
        refine (refadd_any (a + b) c _ Ff.out Fc.out).mono ?_
        rintro e w2 ⟨rfl, rfl⟩
        rw [one_neg Fg.out]
        unfold ansN
        go_wp2
        go_ret
        exact ⟨rfl, (hx1.alloc _).alloc _⟩
    · have Fd := Lib.hid hd
      have Ff := Lib.hid hf
      clear hd hf
      have hf1 := Ff.out.1
      have hf2 := Ff.out.2
      rw [one_pos Ff.out]
      unfold ansN
      go_wp2_with fail
      refine (refadd_any a b _ Fa.out Fb.out).mono ?_
      rintro e w2 ⟨rfl, rfl⟩
      rw [one_pos Ff.out]
      unfold ansN
      go_wp2_with fail
      refine (sub_any a b _ Fa.out Fb.out).mono ?_
      rintro e w2 ⟨rfl, rfl⟩
      rw [one_neg Fd.out]
      unfold ansN
      go_wp2_with fail
      refine (refsub_any a b _ Fa.out Fb.out).mono ?_
      rintro e w2 ⟨rfl, rfl⟩
      rw [one_neg Fd.out]
      unfold ansN
      go_wp2_with fail
      refine (add_any a _ [b, c] _ Fa.out (slice_two _ (by simp) b c Wb.out Wc.out _)).mono ?_
      rintro e w2 ⟨rfl, rfl⟩
      rw [addF_two, one_pos Ff.out]
      simp only [Option.bind_some]
      by_cases hg : Fits (a + b + c)
      · have Fg := Lib.hid hg
        clear hg
        have hg1 := Fg.out.1
        have hg2 := Fg.out.2
        rw [one_pos Fg.out]
        unfold ansN
        go_wp2_with fail
        refine (refadd_any (a + b) c _ Ff.out Fc.out).mono ?_
        rintro e w2 ⟨rfl, rfl⟩
        rw [one_pos Fg.out]
        unfold ansN
        go_wp2_with fail
        refine (add_any a _ [] _ Fa.out (sliceOf_nil _ _)).mono ?_
        rintro e w2 ⟨rfl, rfl⟩
        unfold addF
        simp only [ansN]
        go_wp2
        go_ret
        exact ⟨rfl, (hx1.alloc _).alloc _⟩
      · have Fg := Lib.hid hg
        clear hg
        rw [one_neg Fg.out]
        unfold ansN
        go_wp2_with fail
        refine (refadd_any (a + b) c _ Ff.out Fc.out).mono ?_
        rintro e w2 ⟨rfl, rfl⟩
        rw [one_neg Fg.out]
        unfold ansN
        go_wp2
        go_ret
        exact ⟨rfl, (hx1.alloc _).alloc _⟩
  · by_cases hd : Fits (a - b)
    · have Fd := Lib.hid hd
      have Ff := Lib.hid hf
      clear hd hf
      have hd1 := Fd.out.1
      have hd2 := Fd.out.2
      rw [one_neg Ff.out]
      unfold ansN
      go_wp2_with fail
      refine (refadd_any a b _ Fa.out Fb.out).mono ?_
      rintro e w2 ⟨rfl, rfl⟩
      rw [one_neg Ff.out]
      unfold ansN
      go_wp2_with fail
      refine (sub_any a b _ Fa.out Fb.out).mono ?_
      rintro e w2 ⟨rfl, rfl⟩
      rw [one_pos Fd.out]
      unfold ansN
      go_wp2_with fail
      refine (refsub_any a b _ Fa.out Fb.out).mono ?_
      rintro e w2 ⟨rfl, rfl⟩
      rw [one_pos Fd.out]
      unfold ansN
      go_wp2_with fail
      refine (add_any a _ [b, c] _ Fa.out (slice_two _ (by simp) b c Wb.out Wc.out _)).mono ?_
      rintro e w2 ⟨rfl, rfl⟩
      rw [addF_two, one_neg Ff.out]
      simp only [Option.bind_none]
      unfold ansN
      go_wp2_with fail
      refine (refadd_any 0 c _ ⟨by omega, by omega⟩ Fc.out).mono ?_
      rintro e w2 ⟨rfl, rfl⟩
      rw [Int.zero_add, one_pos Fc.out]
      unfold ansN
      go_wp2
      go_ret
      exact ⟨rfl, (hx1.alloc _).alloc _⟩
    · have Fd := Lib.hid hd
      have Ff := Lib.hid hf
      clear hd hf
      rw [one_neg Ff.out]
      unfold ansN
      go_wp2_with fail
      refine (refadd_any a b _ Fa.out Fb.out).mono ?_
      rintro e w2 ⟨rfl, rfl⟩
      rw [one_neg Ff.out]
      unfold ansN
      go_wp2_with fail
      refine (sub_any a b _ Fa.out Fb.out).mono ?_
      rintro e w2 ⟨rfl, rfl⟩
      rw [one_neg Fd.out]
      unfold ansN
      go_wp2_with fail
      refine (refsub_any a b _ Fa.out Fb.out).mono ?_
      rintro e w2 ⟨rfl, rfl⟩
      rw [one_neg Fd.out]
      unfold ansN
      go_wp2_with fail
      refine (add_any a _ [b, c] _ Fa.out (slice_two _ (by simp) b c Wb.out Wc.out _)).mono ?_
      rintro e w2 ⟨rfl, rfl⟩
      rw [addF_two, one_neg Ff.out]
      simp only [Option.bind_none]
      unfold ansN
      go_wp2_with fail
      refine (refadd_any 0 c _ ⟨by omega, by omega⟩ Fc.out).mono ?_
      rintro e w2 ⟨rfl, rfl⟩
      rw [Int.zero_add, one_pos Fc.out]
      unfold ansN
      go_wp2
      go_ret
      exact ⟨rfl, (hx1.alloc _).alloc _⟩
end Go.Proofs.Ytlobedanjbcfkaa
