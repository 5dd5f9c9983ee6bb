/-
  The statement NumOrder, walked: the numbers' texts keep their order.
-/
import Derived.Test.YtlobedanjbcfkaaNumA
set_option linter.unusedVariables false
set_option linter.unusedSimpArgs false
namespace Go.Proofs.Ytlobedanjbcfkaa
open Go.RowKit Go.Proofs

set_option maxRecDepth 100000 in
set_option maxHeartbeats 2000000 in
theorem numOrder_walk (w : World) (a : Int) (wa : (Lit.int .i64 a).wf = true) (b : Int) (wb : (Lit.int .i64 b).wf = true) :
    Calls Try.prog 3 #[.int .i64 a, .int .i64 b] w fun e w' => e = .returned (.bool true) ∧ Ext w w' := by
  have fa := fits_wf wa
  have fb := fits_wf wb
  obtain ⟨ha1, ha2⟩ := id fa
  obtain ⟨hb1, hb2⟩ := id fb
  have Fa := Lib.hid fa
  have Fb := Lib.hid fb
  clear wa wb fa fb
  have hs : ((decS a).toList == (decS b).toList) = (a == b) := by
    rw [Bool.eq_iff_iff, beq_iff_eq, beq_iff_eq]
    exact ⟨fun h => decS_inj (str_ext h), fun h => by rw [h]⟩
  go_enter Try.func3, Try.ntmps3
  go_wp2_with fail
  refine (awake1 _).mono ?_
  rintro e w1 ⟨rfl, hx1⟩
  go_wp2_with fail
  refine (print_any a _ Fa.out).mono ?_
  rintro e w2 ⟨rfl, hx2⟩
  go_wp2_with fail
  refine (print_any b _ Fb.out).mono ?_
  rintro e w3 ⟨rfl, hx3⟩
  by_cases h0 : a < 0
  · go_wp2_with fail
    all_goals (try go_ret)
    all_goals exact ⟨by simp [hs], (hx1.then hx2).then hx3⟩
  by_cases h1 : b < 0
  · go_wp2_with fail
    all_goals (try go_ret)
    all_goals exact ⟨by simp [hs], (hx1.then hx2).then hx3⟩
  by_cases hl : (decS a).size = (decS b).size
  · have hb2 : ((decS a).toList.length == (decS b).toList.length) = true := by
      rw [decS_size, decS_size] at hl; rw [decS_toList, decS_toList]; simpa using hl
    have hless : Op.bytesLess (decS a).toList (decS b).toList = decide (a < b) := by
      rw [decS_toList, decS_toList]
      exact decL_less (by omega) (by omega) (by rw [decS_size, decS_size] at hl; exact hl)
    go_wp2_with fail
    all_goals (try go_ret)
    all_goals exact ⟨by first | rfl | simp [hs, hless], (hx1.then hx2).then hx3⟩
  · go_wp2_with fail
    all_goals (try go_ret)
    all_goals exact ⟨by first | rfl | simp [hs], (hx1.then hx2).then hx3⟩
end Go.Proofs.Ytlobedanjbcfkaa
