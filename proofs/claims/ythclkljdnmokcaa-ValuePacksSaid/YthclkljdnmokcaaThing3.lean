/-
  value.reading.thing: a text; walked.
-/
import Derived.Test.YthclkljdnmokcaaThing
set_option linter.unusedVariables false
set_option linter.unusedSimpArgs false
namespace Go.Proofs.Ythclkljdnmokcaa
open Go.RowKit Go.Proofs
attribute [local go_sem ↓] Go.wp_at_zero Go.wp_at_succ

theorem one_text {G : Nat} (w : World) (hg : G = w.heap.size) (s : ByteArray) (hs : s.size ≤ maxLen) {ty : TypeId} : SliceOf rStr (w.alloc (.cells #[.string s] ty)) (.slice (some ⟨G, 0, none⟩) 1 1) [s] :=
  sliceOf_one rfl w hg _ ty _ ⟨rfl, hs⟩
set_option maxRecDepth 100000 in
set_option maxHeartbeats 4000000 in
theorem thing_text (g h : Nat) (bv : Value) (l : List UInt8) (s : Option Nat) (w0 w : World) (k : Int) (T0 : ByteArray) (T : List ByteArray) (t : Value) (hr : RdO g w0 w bv l s) (hgh : g < h) (hk2 : k ≠ 2) (hk5 : k ≠ 5)
    (hu : UnV h w ⟨k, T0, [], T, []⟩ (.slice none 0 0) t (.slice none 0 0)) (ho : Own rStr (h + 1) 9 w t T) (hP : T.length ≤ 100000) :
    Calls Try.prog 55 #[.pointer (some ⟨g, 0, none⟩), .pointer (some ⟨h, 0, none⟩)] w fun e w' => (∃ u, e = .returned u) ∧ RdO g w0 w' bv l (wordO l s).2 ∧
      ∃ t', UnV h w' ⟨k, T0, [], T ++ [(wordO l s).1], []⟩ (.slice none 0 0) t' (.slice none 0 0) ∧ Own rStr (h + 1) 9 w' t' (T ++ [(wordO l s).1]) := by
  have hz1 := wordO_size l s
  obtain ⟨a1, ha1⟩ : ∃ a, (wordO l s).1 = a := ⟨_, rfl⟩
  obtain ⟨s1, hs1⟩ : ∃ a, (wordO l s).2 = a := ⟨_, rfl⟩
  rw [ha1] at hz1
  rw [ha1, hs1]
  have e2 : (k == 2) = false := beq_eq_false_iff_ne.2 hk2
  have e5 : (k == 5) = false := beq_eq_false_iff_ne.2 hk5
  have Ha1 := Lib.hid ha1
  have Hs1 := Lib.hid hs1
  have Hr := Lib.hid hr
  have Hu := Lib.hid hu
  have Ho := Lib.hid ho
  obtain ⟨ta, tc, rfl, hpl, hpm⟩ := len_of' ho.slice
  obtain ⟨⟨c0, _, _, u3, _⟩, hfu, hlt⟩ := id hu
  have u3f := hfu 3
  have hne : some h ≠ (Value.slice ta T.length tc).ownBlock := fun e => by have := ho.lt h e.symm; omega
  have hneg : some g ≠ (Value.slice ta T.length tc).ownBlock := fun e => by have := ho.lt g e.symm; omega
  have HA : Hid (T.length + [a1].length ≤ maxLen) := Lib.hid (by unfold maxLen; simp; omega)
  have HB : Hid ((T.length + [a1].length) * 16 ≤ 140737488355328) := Lib.hid (by simp; omega)
  have HZ1 : Hid (a1.size ≤ maxLen) := Lib.hid (by unfold maxLen; omega)
  have hnn := World.new_ne w _ u3
  have hn5 : h ≠ g := by omega
  clear ha1 hs1 hr ho hu hfu hk2 hk5
  go_enter Try.func55, Try.ntmps55
  go_wp2_with fail
  go_region_law (first
    | (go_simp; refine (word_any g bv l s w0 _ (Hr.out.later (Ext.refl w).drew)).mono ?_; rintro e w1 ⟨rfl, hr1, hf1⟩; rw [Ha1.out]; rw [Hs1.out] at hr1; have hu1 := (Hu.out.later (Ext.refl w).drew).keep hf1 (by simp; omega); have ho1 := ((Ho.out.mono rStr_mono (Ext.refl w).drew).grow rStr_flat hf1 (by omega)); obtain ⟨⟨_, _, _, q3, _⟩, hfq, hltq⟩ := id hu1; have q3f := hfq 3; clear hfq; have hnn1 := World.new_ne w1 _ q3)
    | (refine step_append_own (by rfl) (.tmp 14) (.tmp 17) (by rfl) el_S rStr_one rStr_flat (.slice ta T.length tc) T (by rfl) (ho1.mono rStr_mono ((Ext.refl w1).alloc _)) _ [a1] (by rfl) (one_text w1 rfl a1 HZ1.out) (by simp) HA.out HB.out (by simp; omega) ?_; intro v1 w4 hown1 hgrow hnew; obtain ⟨A1, C1, hv1, _, _, _, _⟩ := id hown1.slice; subst hv1; have hU4 := (hu1.later ((Ext.refl w1).alloc (.cells #[.string a1] 9))).keep hgrow hne; obtain ⟨⟨_, _, _, r3, _⟩, hf4, hlt4⟩ := id hU4; have r3f := hf4 3; clear hf4))
  all_goals
    have hxa : Ext w1 _ := (Ext.refl w1).alloc (.cells #[.string a1] 9)
    have hr4 := (hr1.later hxa).keep hgrow hneg ((hr1.ext.then hxa).grown hgrow (hr1.ext.then hxa).size (fun q hq => by have := ho1.lt q hq; have := hr1.low; omega))
    have hr5 := hr4.keep (grown_set h 3 (.slice A1 (T.length + 1) C1) w4) (by simp; omega) (Below.setCell hr4.ext (p := ⟨h, 3, none⟩) (by have := hr1.low; show w0.heap.size ≤ h; omega) _)
    go_wp2
    refine bodyPost_end (results_none rfl _ _ _) rfl ?_
    rw [show (T ++ [a1]).length = T.length + 1 by simp] at hown1
    exact ⟨⟨_, rfl⟩, hr5, .slice A1 (T.length + 1) C1, hU4.set3 _ _, hown1.far rStr_flat (fun e => by have := hown1.lt _ e; simp at this; omega) _⟩
end Go.Proofs.Ythclkljdnmokcaa
