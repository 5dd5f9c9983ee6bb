/-
  The statement NumBack, walked: a sum less what came is what was there.
-/
import Derived.Test.YtlobedanjbcfkaaNumA
set_option linter.unusedVariables false
namespace Go.Proofs.Ytlobedanjbcfkaa
open Go.RowKit Go.Proofs

theorem addF_one (a b : Int) : addF a [b] = one (a + b) := by
  simp only [addF]; unfold one; rfl
theorem addF_two (a b c : Int) : addF a [b, c] = (one (a + b)).bind fun y => one (y + c) := by
  simp only [addF]; unfold one
  by_cases h : Fits (a + b)
  · rw [if_pos h, if_pos h]; rfl
  · rw [if_neg h, if_neg h]; rfl
theorem slice_one {g : Nat} (w : World) (hg : g = w.heap.size) (b : Int) (wb : (Lit.int .i64 b).wf = true) (t : TypeId) :
    SliceOf (rInt .i64) (w.alloc (.cells #[.int .i64 b] t)) (.slice (some ⟨g, 0, none⟩) 1 1) [b] :=
  sliceOf_one rfl w hg _ t b ⟨rfl, wb⟩
set_option maxRecDepth 100000 in
set_option maxHeartbeats 2000000 in
theorem numBack_walk (w : World) (a : Int) (wa : (Lit.int .i64 a).wf = true) (b : Int) (wb : (Lit.int .i64 b).wf = true) :
    Calls Try.prog 5 #[.int .i64 a, .int .i64 b] w fun e w' => e = .returned (.bool true) ∧ Ext w w' := by
  have fa := fits_wf wa
  have fb := fits_wf wb
  obtain ⟨ha1, ha2⟩ := id fa
  obtain ⟨hb1, hb2⟩ := id fb
  have Fa := Lib.hid fa
  have Fb := Lib.hid fb
  have Wa := Lib.hid wa
  have Wb := Lib.hid wb
  clear wa wb fa fb
  go_enter Try.func5, Try.ntmps5
  go_wp2_with fail
  refine (awake1 _).mono ?_
  rintro e w1 ⟨rfl, hx1⟩
  go_wp2_with fail
  refine (add_any a _ [b] _ Fa.out (slice_one _ rfl b Wb.out _)).mono ?_
  rintro e w2 ⟨rfl, rfl⟩
  rw [addF_one]
  by_cases hf : Fits (a + b)
  · obtain ⟨hf1, hf2⟩ := id hf
    rw [one_pos hf]
    clear hf
    unfold ansN
    go_wp2_with fail
    refine (add_any b _ [a] _ Fb.out (slice_one _ (by simp) a Wa.out _)).mono ?_
    rintro e w2 ⟨rfl, rfl⟩
    rw [addF_one, Int.add_comm b a, one_pos ⟨hf1, hf2⟩]
    unfold ansN
    go_wp2_with fail
    refine (sub_any (a + b) b _ ⟨hf1, hf2⟩ Fb.out).mono ?_
    rintro e w2 ⟨rfl, rfl⟩
    rw [Int.add_sub_cancel, one_pos ⟨by omega, by omega⟩]
    unfold ansN
    go_wp2
    go_ret
    exact ⟨rfl, (hx1.alloc _).alloc _⟩
  · rw [one_neg hf]
    have Hf := Lib.hid hf
    clear hf
    unfold ansN
    go_wp2_with fail
    refine (add_any b _ [a] _ Fb.out (slice_one _ (by simp) a Wa.out _)).mono ?_
    rintro e w2 ⟨rfl, rfl⟩
    rw [addF_one, Int.add_comm b a, one_neg Hf.out]
    unfold ansN
    go_wp2
    go_ret
    exact ⟨rfl, (hx1.alloc _).alloc _⟩
end Go.Proofs.Ytlobedanjbcfkaa
