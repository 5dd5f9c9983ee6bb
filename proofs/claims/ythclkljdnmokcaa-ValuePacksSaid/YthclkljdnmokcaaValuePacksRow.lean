/-
  The statement ValuePacks, for every input: the row over the walk of the law.
-/
import Derived.Test.YthclkljdnmokcaaRows
import Derived.Test.YthclkljdnmokcaaOpens14
import Derived.Test.YthclkljdnmokcaaValuePacks
namespace Go.Proofs.Ythclkljdnmokcaa
open Go.ChangeShapes Go.WideShapes Go.ChangeAt Go.RowKit
set_option linter.unusedVariables false

theorem valuePacks_pars : ∀ t ∈ Try.f9.params.toList, Try.prog.readableRec t = true ∧ t < Try.prog.types.size := by
  have h : (Try.f9.params.toList.all fun t => Try.prog.readableRec t && decide (t < Try.prog.types.size)) = true := by kernel_rfl
  intro t ht
  simpa using List.all_eq_true.1 h t ht
theorem valuePacks_own : ownKnob Try.prog.godebug = none := by kernel_rfl
theorem valuePacks_laid : laidOutB Try.prog = true := by kernel_rfl

set_option maxRecDepth 100000 in
theorem valuePacks_lifted (os : Os) (started : os.Started) (H : Type) (enc : TypeId × Value → H) :
    ReturnsInHanded {} Try.checked os 9 .any (Rows.valuePacksSpec.pre6 enc Try.prog Try.f9 Rows.valuePacksRow.domain false) (Rows.valuePacksSpec.post enc Try.prog Try.f9 false true false false) := by
  refine returnsInHanded_of_change (C := Try.checked) valuePacks_own started (by kernel_rfl) Try.func9
    (ChangeSpec.witness6 (enc := enc) (C := Try.checked) false ⟨#[], #[.agg #[.int .i64 0, .string ⟨#[]⟩, .slice none 0 0, .slice none 0 0, .slice none 0 0], .agg #[.int .i64 0, .string ⟨#[]⟩, .slice none 0 0, .slice none 0 0, .slice none 0 0], .slice none 0 0], []⟩ 8 (by kernel_rfl) (by kernel_rfl) (by kernel_rfl) (by kernel_rfl)) ?_
  intro W base args ds gs before hval0 hW hcnd _
  have hval : ∀ (j : Nat) t v, Try.f9.params[j]? = some t → args[j]? = some v → Value.okWide Try.prog W .any base t v := hval0
  have hW' := hW
  obtain ⟨p, q, hA0, hV, rfl, hfz, hnd⟩ := hW
  have hA : DataW.TrodAll enc Try.prog W 0 (fun _ => true) true Try.f9.params.toList args.toList ds p := hA0
  rw [Try.params9] at hA hval
  obtain ⟨v0, vs0, d0, ds0, p0, q0, hargs, rfl, rfl, h0, r0⟩ := trodAll_cons hA
  obtain ⟨v1, vs1, d1, ds1, p1, q1, rfl, rfl, rfl, h1, r1⟩ := trodAll_cons r0
  obtain ⟨v2, vs2, d2, ds2, p2, q2, rfl, rfl, rfl, h2, r2⟩ := trodAll_cons r1
  obtain ⟨rfl, rfl, rfl⟩ := trodAll_nil r2
  obtain rfl : args = #[v0, v1, v2] := by cases args; simp_all
  obtain ⟨rfl, rfl⟩ := trodVars_none hV
  obtain ⟨cs0, y0, rfl, z0, s0⟩ := arg_agg (.inl ⟨_, Try.underlying30⟩) op_value (hval 0 30 v0 rfl rfl) h0
  obtain ⟨cs1, y1, rfl, z1, s1⟩ := arg_agg (.inl ⟨_, Try.underlying30⟩) op_value (hval 1 30 v1 rfl rfl) h1
  obtain ⟨l2, s2⟩ := arg_slice Try.underlying38 op_bytes (hval 2 38 v2 rfl rfl) h2
  refine (valuePacks_all W cs0 y0 z0 s0 cs1 y1 z1 s1 v2 l2 s2).mono fun e W' ⟨he, hg⟩ => ?_
  subst he
  exact ⟨_, rfl, law_post valuePacks_laid valuePacks_pars rfl Try.underlying4 rfl hW' ⟨rfl, rfl, rfl⟩ hg⟩

theorem valuePacks_over : Rows.valuePacksRow.holds Try.pinned (OpenSpec.ofChange Rows.valuePacksSpec) :=
  OpenClaim.holds_of_wide 9 Try.f9 rfl rfl rfl rfl rfl rfl rfl ⟨rfl, rfl, rfl, rfl, rfl⟩ rfl rfl rfl rfl rfl (by kernel_rfl) Try.func9 (by kernel_rfl)
    (of_decide_eq_true (by kernel_rfl)) (by unfold Func.isWrapper; first | (rw [if_pos (by decide +kernel)]; kernel_rfl) | (rw [if_neg (by decide +kernel)]; exact ⟨rfl, rfl⟩))
    (fun os started H enc _ => valuePacks_lifted os started H enc)

theorem valuePacks_holds : Rows.ValuePacksSaid := valuePacks_over
#print axioms valuePacks_holds
end Go.Proofs.Ythclkljdnmokcaa
