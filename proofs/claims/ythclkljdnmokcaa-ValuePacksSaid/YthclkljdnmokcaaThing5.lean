/-
  value.reading.thing: a member; walked.
-/
import Derived.Test.YthclkljdnmokcaaThing3
set_option linter.unusedVariables false
set_option linter.unusedSimpArgs false
namespace Go.Proofs.Ythclkljdnmokcaa
open Go.RowKit Go.Proofs
attribute [local go_sem ↓] Go.wp_at_zero Go.wp_at_succ

theorem i64Of_wf (m : Nat) : (Lit.int .i64 (i64Of m)).wf = true := by
  unfold i64Of
  rw [i64_wrap]
  simp [Lit.wf, IntKind.min, IntKind.max, IntKind.signed, IntKind.bits]
  omega
set_option maxRecDepth 100000 in
set_option maxHeartbeats 4000000 in
theorem thing_memb (g h : Nat) (bv : Value) (l : List UInt8) (s : Option Nat) (w0 w : World) (T0 : ByteArray) (Z : List (Int × ByteArray)) (z : Value) (hr : RdO g w0 w bv l s) (hgh : g < h)
    (hu : UnV h w ⟨5, T0, [], [], Z⟩ (.slice none 0 0) (.slice none 0 0) z) (ho : Own rMb (h + 1) 45 w z Z) (hP : Z.length ≤ 100000) :
    Calls Try.prog 55 #[.pointer (some ⟨g, 0, none⟩), .pointer (some ⟨h, 0, none⟩)] w fun e w' => (∃ u, e = .returned u) ∧ RdO g w0 w' bv l (wordO l (numB l s 8).2).2 ∧
      ∃ p', UnV h w' ⟨5, T0, [], [], Z ++ [((numB l s 8).1, (wordO l (numB l s 8).2).1)]⟩ (.slice none 0 0) (.slice none 0 0) p' ∧ Own rMb (h + 1) 45 w' p' (Z ++ [((numB l s 8).1, (wordO l (numB l s 8).2).1)]) := by
  have hz1 := i64Of_wf (bNum (takeB l s 8).1)
  have hz2 := wordO_size l (numB l s 8).2
  obtain ⟨a1, ha1⟩ : ∃ a, (numB l s 8).1 = a := ⟨_, rfl⟩
  obtain ⟨s1, hs1⟩ : ∃ a, (numB l s 8).2 = a := ⟨_, rfl⟩
  rw [show i64Of (bNum (takeB l s 8).1) = a1 from ha1] at hz1
  rw [hs1] at hz2
  rw [ha1, hs1]
  obtain ⟨a2, ha2⟩ : ∃ a, (wordO l s1).1 = a := ⟨_, rfl⟩
  obtain ⟨s2, hs2⟩ : ∃ a, (wordO l s1).2 = a := ⟨_, rfl⟩
  rw [ha2] at hz2
  rw [ha2, hs2]
  have Ha1 := Lib.hid ha1
  have Hs1 := Lib.hid hs1
  have Ha2 := Lib.hid ha2
  have Hs2 := Lib.hid hs2
  have Hr := Lib.hid hr
  have Hu := Lib.hid hu
  have Ho := Lib.hid ho
  have HpB := Lib.hid ho.below
  obtain ⟨⟨c0, _, _, _, _⟩, _, _⟩ := hu
  clear ha1 hs1 ha2 hs2 hr ho
  go_enter Try.func55, Try.ntmps55
  go_wp2_with fail
  refine (num_any g bv l s 8 w0 _ Hr.out (by omega)).mono ?_
  rintro e w1 ⟨rfl, hr1, hf1⟩
  rw [Hs1.out] at hr1
  rw [Ha1.out]
  have Hr1 := Lib.hid (hr1.later ((Ext.refl w1).alloc (.cells #[.int .i64 a1, .string ⟨#[]⟩] 45)))
  have Hu1 := Lib.hid ((Hu.out.keep hf1 (by simp; omega)).later ((Ext.refl w1).alloc (.cells #[.int .i64 a1, .string ⟨#[]⟩] 45)))
  have Ho1 := Lib.hid ((Ho.out.grow rMb_flat hf1 (by omega)).mono rMb_mono ((Ext.refl w1).alloc (.cells #[.int .i64 a1, .string ⟨#[]⟩] 45)))
  have Hlt1 := Lib.hid (Hu.out.keep hf1 (by simp; omega)).lt
  have Hnew := Lib.hid (heap_alloc_new w1 (.cells #[.int .i64 a1, .string ⟨#[]⟩] 45))
  have Hsz := Lib.hid hf1.size
  clear c0 hr1 hf1
  go_wp2_with fail
  refine (word_any g bv l s1 w0 _ Hr1.out).mono ?_
  rintro e w2 ⟨rfl, hr2, hf2⟩
  rw [Hs2.out] at hr2
  rw [Ha2.out]
  have hk0 : w2.cell? ⟨w1.heap.size, 0, none⟩ = some (.int .i64 a1) := by
    rw [hf2.cell_far ⟨w1.heap.size, 0, none⟩ (by simp) (by have := Hlt1.out; simp; omega)]
    exact (cells_at (i := 0) (v := .int .i64 a1) Hnew.out rfl).1
  obtain ⟨hk1, hkf⟩ : w2.cell? ⟨w1.heap.size, 1, none⟩ = some (.string ⟨#[]⟩) ∧ w2.frozen? ⟨w1.heap.size, 1, none⟩ = false := by
    obtain ⟨q1, q2⟩ := cells_at (i := 1) (v := .string ⟨#[]⟩) Hnew.out rfl
    exact ⟨by rw [hf2.cell_far ⟨w1.heap.size, 1, none⟩ (by simp) (by have := Hlt1.out; simp; omega)]; exact q1, by rw [hf2.frozen_far ⟨w1.heap.size, 1, none⟩ (by simp) (by have := Hlt1.out; simp; omega)]; exact q2⟩
  have hlow := hr2.low
  have hgr := grown_set w1.heap.size 1 (.string a2) w2
  have hx3 : Ext w0 (w2.setCell ⟨w1.heap.size, 1, none⟩ (.string a2)) := Below.setCell hr2.ext (p := ⟨w1.heap.size, 1, none⟩) (by have := Hlt1.out; show w0.heap.size ≤ w1.heap.size; omega) _
  have Hr3 := Lib.hid (hr2.keep hgr (by have := Hlt1.out; simp; omega) hx3)
  have hu3 := (Hu1.out.keep hf2 (by simp; omega)).keep hgr (by have := Hlt1.out; simp; omega)
  have ho3 := (Ho1.out.grow rMb_flat hf2 (by omega)).far rMb_flat (p := ⟨w1.heap.size, 1, none⟩) (fun e => by have h1 := HpB.out _ e; have h2 := Hsz.out; simp at h1; omega) (.string a2)
  have e0 : (w2.setCell ⟨w1.heap.size, 1, none⟩ (.string a2)).cell? ⟨w1.heap.size, 0, none⟩ = some (.int .i64 a1) := cell_set_other hk0 (by decide)
  have e1 : (w2.setCell ⟨w1.heap.size, 1, none⟩ (.string a2)).cell? ⟨w1.heap.size, 1, none⟩ = some (.string a2) := World.cell?_setCell_same' _ _ _ (by rw [hk1]; rfl)
  have hr3 := Hr3.out
  have hlk := Hlt1.out
  clear hr2 hf2 hgr hk0 hlow hx3 Hu Hu1 Ho Ho1 Hr1 Hr3
  go_wp2_with fail
  clear hk1 hkf
  generalize w2.setCell ⟨w1.heap.size, 1, none⟩ (.string a2) = W3 at e0 e1 hu3 ho3 hr3 ⊢
  obtain ⟨pa, pc, rfl, hpl, hpm⟩ := len_of' ho3.slice
  obtain ⟨⟨_, _, _, _, u2⟩, hf, hlt⟩ := id hu3
  have f2 := hf 4
  have hne : some h ≠ (Value.slice pa Z.length pc).ownBlock := fun e => by have := ho3.lt h e.symm; omega
  have hneg : some g ≠ (Value.slice pa Z.length pc).ownBlock := fun e => by have := ho3.lt g e.symm; omega
  have HU := Lib.hid hu3
  have HR := Lib.hid hr3
  have HO := Lib.hid ho3
  have HA : Hid (Z.length + [(a1, a2)].length ≤ maxLen) := Lib.hid (by unfold maxLen; simp; omega)
  have HB : Hid ((Z.length + [(a1, a2)].length) * 24 ≤ 140737488355328) := Lib.hid (by simp; omega)
  have HC : Hid (h + 1 ≤ W3.heap.size) := Lib.hid (by omega)
  have HZ1 := Lib.hid hz1
  have HZ2 : Hid (a2.size ≤ maxLen) := Lib.hid (by unfold maxLen; omega)
  have hnn := World.new_ne W3 _ u2
  have hnk := World.new_ne W3 _ e0
  clear hu3 hr3 ho3 hf
  go_region_law ((refine step_append_own (by rfl) (.tmp 51) (.tmp 53) (by rfl) el_M rMb_one rMb_flat (.slice pa Z.length pc) Z (by rfl) (HO.out.mono rMb_mono (by first | exact ((Ext.refl W3).alloc _).drew | exact (Ext.refl W3).drew.alloc _)) _ [(a1, a2)] (by rfl) (by first | exact (one_memb W3 rfl a1 a2 HZ1.out HZ2.out).mono rMb_mono (Ext.refl _).drew | exact one_memb W3.drew rfl a1 a2 HZ1.out HZ2.out) (by simp) HA.out HB.out (by have := HC.out; simp; omega) ?_; intro v1 w4 hown1 hgrow hnew; obtain ⟨A1, C1, hv1, _, _, _, _⟩ := id hown1.slice; subst hv1; have hU4 := (HU.out.later (((Ext.refl W3).alloc (.cells #[.int .i64 a1, .string a2] 45)).drew)).keep hgrow hne; obtain ⟨⟨_, _, _, _, q2⟩, hf4, hlt4⟩ := id hU4; have q2f := hf4 4))
  all_goals
    have hxa : Ext W3 _ := (((Ext.refl W3).alloc (.cells #[.int .i64 a1, .string a2] 45)).drew)
    have hr4 := (HR.out.later hxa).keep hgrow hneg ((HR.out.ext.then hxa).grown hgrow (HR.out.ext.then hxa).size (fun q hq => by have := HO.out.lt q hq; have := HR.out.low; omega))
    have hr5 := hr4.keep (grown_set h 4 (.slice A1 (Z.length + 1) C1) w4) (by simp; omega) (Below.setCell hr4.ext (p := ⟨h, 4, none⟩) (by have := HR.out.low; show w0.heap.size ≤ h; omega) _)
    go_wp2
    refine bodyPost_end (results_none rfl _ _ _) rfl ?_
    rw [show (Z ++ [(a1, a2)]).length = Z.length + 1 by simp] at hown1
    exact ⟨⟨_, rfl⟩, hr5, .slice A1 (Z.length + 1) C1, hU4.set4 _ _, hown1.far rMb_flat (fun e => by have := hown1.lt _ e; simp at this; omega) _⟩
end Go.Proofs.Ythclkljdnmokcaa
