/-
  The statement ChainPrunes, for every input: the row over the walk of the law.
-/
import Derived.Test.YthclkljdnmokcaaRows
import Derived.Test.YthclkljdnmokcaaOpensTwo
import Derived.Test.YthclkljdnmokcaaChainPrunes
namespace Go.Proofs.Ythclkljdnmokcaa
open Go.ChangeShapes Go.WideShapes Go.ChangeAt Go.RowKit
set_option linter.unusedVariables false

theorem chainPrunes_pars : ∀ t ∈ Try.f8.params.toList, Try.prog.readableRec t = true ∧ t < Try.prog.types.size := by
  have h : (Try.f8.params.toList.all fun t => Try.prog.readableRec t && decide (t < Try.prog.types.size)) = true := by kernel_rfl
  intro t ht
  simpa using List.all_eq_true.1 h t ht
theorem chainPrunes_own : ownKnob Try.prog.godebug = none := by kernel_rfl
theorem chainPrunes_laid : laidOutB Try.prog = true := by kernel_rfl

set_option maxRecDepth 100000 in
theorem chainPrunes_lifted (os : Os) (started : os.Started) (H : Type) (enc : TypeId × Value → H) :
    ReturnsInHanded {} Try.checked os 8 .any (Rows.chainPrunesSpec.pre6 enc Try.prog Try.f8 Rows.chainPrunesRow.domain false) (Rows.chainPrunesSpec.post enc Try.prog Try.f8 false true false false) := by
  refine returnsInHanded_of_change (C := Try.checked) chainPrunes_own started (by kernel_rfl) Try.func8
    (ChangeSpec.witness6 (enc := enc) (C := Try.checked) false ⟨#[], #[.slice none 0 0, .agg #[.int .i64 0, .int .i64 0], .agg #[.int .i64 0, .int .i64 0]], []⟩ 8 (by kernel_rfl) (by kernel_rfl) (by kernel_rfl) (by kernel_rfl)) ?_
  intro W base args ds gs before hval0 hW hcnd _
  have hval : ∀ (j : Nat) t v, Try.f8.params[j]? = some t → args[j]? = some v → Value.okWide Try.prog W .any base t v := hval0
  have hW' := hW
  obtain ⟨p, q, hA0, hV, rfl, hfz, hnd⟩ := hW
  have hA : DataW.TrodAll enc Try.prog W 0 (fun _ => true) true Try.f8.params.toList args.toList ds p := hA0
  rw [Try.params8] at hA hval
  obtain ⟨v0, vs0, d0, ds0, p0, q0, hargs, rfl, rfl, h0, r0⟩ := trodAll_cons hA
  obtain ⟨v1, vs1, d1, ds1, p1, q1, rfl, rfl, rfl, h1, r1⟩ := trodAll_cons r0
  obtain ⟨v2, vs2, d2, ds2, p2, q2, rfl, rfl, rfl, h2, r2⟩ := trodAll_cons r1
  obtain ⟨rfl, rfl, rfl⟩ := trodAll_nil r2
  obtain rfl : args = #[v0, v1, v2] := by cases args; simp_all
  obtain ⟨rfl, rfl⟩ := trodVars_none hV
  obtain ⟨l0, s0⟩ := arg_slice Try.underlying22 op_versions (hval 0 22 v0 rfl rfl) h0
  obtain ⟨cs1, y1, rfl, z1, s1⟩ := arg_agg (.inr ⟨_, _, Try.underlying53⟩) op_two (hval 1 53 v1 rfl rfl) h1
  obtain ⟨cs2, y2, rfl, z2, s2⟩ := arg_agg (.inr ⟨_, _, Try.underlying53⟩) op_two (hval 2 53 v2 rfl rfl) h2
  refine (chainPrunes_all W v0 l0 s0 cs1 y1 z1 s1 cs2 y2 z2 s2).mono fun e W' ⟨he, hg⟩ => ?_
  subst he
  exact ⟨_, rfl, law_post chainPrunes_laid chainPrunes_pars rfl Try.underlying4 rfl hW' ⟨rfl, rfl, rfl⟩ hg⟩

theorem chainPrunes_over : Rows.chainPrunesRow.holds Try.pinned (OpenSpec.ofChange Rows.chainPrunesSpec) :=
  OpenClaim.holds_of_wide 8 Try.f8 rfl rfl rfl rfl rfl rfl rfl ⟨rfl, rfl, rfl, rfl, rfl⟩ rfl rfl rfl rfl rfl (by kernel_rfl) Try.func8 (by kernel_rfl)
    (of_decide_eq_true (by kernel_rfl)) (by unfold Func.isWrapper; first | (rw [if_pos (by decide +kernel)]; kernel_rfl) | (rw [if_neg (by decide +kernel)]; exact ⟨rfl, rfl⟩))
    (fun os started H enc _ => chainPrunes_lifted os started H enc)

theorem chainPrunes_holds : Rows.ChainPrunesSaid := chainPrunes_over
#print axioms chainPrunes_holds
end Go.Proofs.Ythclkljdnmokcaa
