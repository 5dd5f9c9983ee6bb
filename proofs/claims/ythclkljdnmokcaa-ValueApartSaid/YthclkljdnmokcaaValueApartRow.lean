/-
  The statement ValueApart, for every input: the row over the walk of the law.
-/
import Derived.Test.YthclkljdnmokcaaRows
import Derived.Test.YthclkljdnmokcaaOpens15
import Derived.Test.YthclkljdnmokcaaValueApart
namespace Go.Proofs.Ythclkljdnmokcaa
open Go.ChangeShapes Go.WideShapes Go.ChangeAt Go.RowKit
set_option linter.unusedVariables false

theorem valueApart_pars : ∀ t ∈ Try.f4.params.toList, Try.prog.readableRec t = true ∧ t < Try.prog.types.size := by
  have h : (Try.f4.params.toList.all fun t => Try.prog.readableRec t && decide (t < Try.prog.types.size)) = true := by kernel_rfl
  intro t ht
  simpa using List.all_eq_true.1 h t ht
theorem valueApart_own : ownKnob Try.prog.godebug = none := by kernel_rfl
theorem valueApart_laid : laidOutB Try.prog = true := by kernel_rfl

set_option maxRecDepth 100000 in
theorem valueApart_lifted (os : Os) (started : os.Started) (H : Type) (enc : TypeId × Value → H) :
    ReturnsInHanded {} Try.checked os 4 .any (Rows.valueApartSpec.pre6 enc Try.prog Try.f4 Rows.valueApartRow.domain false) (Rows.valueApartSpec.post enc Try.prog Try.f4 false true false false) := by
  refine returnsInHanded_of_change (C := Try.checked) valueApart_own started (by kernel_rfl) Try.func4
    (ChangeSpec.witness6 (enc := enc) (C := Try.checked) false ⟨#[], #[.agg #[.int .i64 0, .string ⟨#[]⟩, .slice none 0 0, .slice none 0 0, .slice none 0 0], .agg #[.int .i64 0, .string ⟨#[]⟩, .slice none 0 0, .slice none 0 0, .slice none 0 0]], []⟩ 8 (by kernel_rfl) (by kernel_rfl) (by kernel_rfl) (by kernel_rfl)) ?_
  intro W base args ds gs before hval0 hW hcnd _
  have hval : ∀ (j : Nat) t v, Try.f4.params[j]? = some t → args[j]? = some v → Value.okWide Try.prog W .any base t v := hval0
  have hW' := hW
  obtain ⟨p, q, hA0, hV, rfl, hfz, hnd⟩ := hW
  have hA : DataW.TrodAll enc Try.prog W 0 (fun _ => true) true Try.f4.params.toList args.toList ds p := hA0
  rw [Try.params4] at hA hval
  obtain ⟨v0, vs0, d0, ds0, p0, q0, hargs, rfl, rfl, h0, r0⟩ := trodAll_cons hA
  obtain ⟨v1, vs1, d1, ds1, p1, q1, rfl, rfl, rfl, h1, r1⟩ := trodAll_cons r0
  obtain ⟨rfl, rfl, rfl⟩ := trodAll_nil r1
  obtain rfl : args = #[v0, v1] := by cases args; simp_all
  obtain ⟨rfl, rfl⟩ := trodVars_none hV
  obtain ⟨cs0, y0, rfl, z0, s0⟩ := arg_agg (.inl ⟨_, Try.underlying30⟩) op_value (hval 0 30 v0 rfl rfl) h0
  obtain ⟨cs1, y1, rfl, z1, s1⟩ := arg_agg (.inl ⟨_, Try.underlying30⟩) op_value (hval 1 30 v1 rfl rfl) h1
  refine (valueApart_all W cs0 y0 z0 s0 cs1 y1 z1 s1).mono fun e W' ⟨he, hg⟩ => ?_
  subst he
  exact ⟨_, rfl, law_post valueApart_laid valueApart_pars rfl Try.underlying4 rfl hW' ⟨rfl, rfl, rfl⟩ hg⟩

theorem valueApart_over : Rows.valueApartRow.holds Try.pinned (OpenSpec.ofChange Rows.valueApartSpec) :=
  OpenClaim.holds_of_wide 4 Try.f4 rfl rfl rfl rfl rfl rfl rfl ⟨rfl, rfl, rfl, rfl, rfl⟩ rfl rfl rfl rfl rfl (by kernel_rfl) Try.func4 (by kernel_rfl)
    (of_decide_eq_true (by kernel_rfl)) (by unfold Func.isWrapper; first | (rw [if_pos (by decide +kernel)]; kernel_rfl) | (rw [if_neg (by decide +kernel)]; exact ⟨rfl, rfl⟩))
    (fun os started H enc _ => valueApart_lifted os started H enc)

theorem valueApart_holds : Rows.ValueApartSaid := valueApart_over
#print axioms valueApart_holds
end Go.Proofs.Ythclkljdnmokcaa
