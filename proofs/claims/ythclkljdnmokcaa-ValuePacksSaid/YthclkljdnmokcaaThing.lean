/-
  value.reading.thing: one of a value's things; walked.
-/
import Derived.Test.YthclkljdnmokcaaValueApart
import Derived.Test.YthclkljdnmokcaaReading
set_option linter.unusedVariables false
set_option linter.unusedSimpArgs false
namespace Go.Proofs.Ythclkljdnmokcaa
open Go.RowKit Go.Proofs
attribute [local go_sem ↓] Go.wp_at_zero Go.wp_at_succ

/-- the value that grows -/
structure UnV (h : Nat) (w : World) (x : Val) (p t z : Value) : Prop where
  box : VBox w h x p t z
  fr : ∀ i, w.frozen? ⟨h, i, none⟩ = false
  lt : h < w.heap.size
theorem UnV.keep {h : Nat} {w w' : World} {x : Val} {p t z : Value} (hu : UnV h w x p t z) {row : Option Nat} (hg : w.grownBy w' row) (hne : some h ≠ row) : UnV h w' x p t z := by
  obtain ⟨⟨c0, c1, c2, c3, c4⟩, f, lt⟩ := hu
  exact ⟨⟨by rw [hg.cell_far ⟨h, 0, none⟩ lt hne]; exact c0, by rw [hg.cell_far ⟨h, 1, none⟩ lt hne]; exact c1, by rw [hg.cell_far ⟨h, 2, none⟩ lt hne]; exact c2, by rw [hg.cell_far ⟨h, 3, none⟩ lt hne]; exact c3, by rw [hg.cell_far ⟨h, 4, none⟩ lt hne]; exact c4⟩,
    fun i => by rw [hg.frozen_far ⟨h, i, none⟩ lt hne]; exact f i, Nat.lt_of_lt_of_le lt hg.size⟩
theorem UnV.later {h : Nat} {w w' : World} {x : Val} {p t z : Value} (hu : UnV h w x p t z) (hx : Ext w w') : UnV h w' x p t z := by
  obtain ⟨b, f, lt⟩ := hu
  exact ⟨b.mono hx, fun i => by rw [← f i]; exact World.frozen?_of_block (hx.block h lt), Nat.lt_of_lt_of_le lt hx.size⟩
theorem UnV.set2 {h : Nat} {w : World} {x : Val} {p t z : Value} (hu : UnV h w x p t z) (P' : List (ByteArray × ByteArray)) (v : Value) : UnV h (w.setCell ⟨h, 2, none⟩ v) { x with pairs := P' } v t z := by
  obtain ⟨⟨c0, c1, c2, c3, c4⟩, f, lt⟩ := hu
  exact ⟨⟨cell_set_other c0 (by decide), cell_set_other c1 (by decide), World.cell?_setCell_same' _ _ _ (by rw [c2]; rfl), cell_set_other c3 (by decide), cell_set_other c4 (by decide)⟩, fun i => by rw [← f i]; exact World.frozen?_setCell .., by simpa using lt⟩
theorem UnV.set3 {h : Nat} {w : World} {x : Val} {p t z : Value} (hu : UnV h w x p t z) (T' : List ByteArray) (v : Value) : UnV h (w.setCell ⟨h, 3, none⟩ v) { x with texts := T' } p v z := by
  obtain ⟨⟨c0, c1, c2, c3, c4⟩, f, lt⟩ := hu
  exact ⟨⟨cell_set_other c0 (by decide), cell_set_other c1 (by decide), cell_set_other c2 (by decide), World.cell?_setCell_same' _ _ _ (by rw [c3]; rfl), cell_set_other c4 (by decide)⟩, fun i => by rw [← f i]; exact World.frozen?_setCell .., by simpa using lt⟩
theorem UnV.set4 {h : Nat} {w : World} {x : Val} {p t z : Value} (hu : UnV h w x p t z) (Z' : List (Int × ByteArray)) (v : Value) : UnV h (w.setCell ⟨h, 4, none⟩ v) { x with zset := Z' } p t v := by
  obtain ⟨⟨c0, c1, c2, c3, c4⟩, f, lt⟩ := hu
  exact ⟨⟨cell_set_other c0 (by decide), cell_set_other c1 (by decide), cell_set_other c2 (by decide), cell_set_other c3 (by decide), World.cell?_setCell_same' _ _ _ (by rw [c4]; rfl)⟩, fun i => by rw [← f i]; exact World.frozen?_setCell .., by simpa using lt⟩
theorem RdSt.keep {g : Nat} {w0 w w' : World} {bv : Value} {l : List UInt8} {p : Nat} {bad : Bool} (h : RdSt g w0 w bv l p bad) {row : Option Nat} (hg : w.grownBy w' row) (hne : some g ≠ row) (hx : Ext w0 w') : RdSt g w0 w' bv l p bad :=
  ⟨by rw [hg.cell_far ⟨g, 0, none⟩ h.lt hne]; exact h.c0, by rw [hg.cell_far ⟨g, 1, none⟩ h.lt hne]; exact h.c1, by rw [hg.cell_far ⟨g, 2, none⟩ h.lt hne]; exact h.c2, by rw [hg.frozen_far ⟨g, 0, none⟩ h.lt hne]; exact h.f0, by rw [hg.frozen_far ⟨g, 1, none⟩ h.lt hne]; exact h.f1, by rw [hg.frozen_far ⟨g, 2, none⟩ h.lt hne]; exact h.f2, h.sl, h.le, h.low, Nat.lt_of_lt_of_le h.lt hg.size, hx⟩
theorem RdO.keep {g : Nat} {w0 w w' : World} {bv : Value} {l : List UInt8} {s : Option Nat} (h : RdO g w0 w bv l s) {row : Option Nat} (hg : w.grownBy w' row) (hne : some g ≠ row) (hx : Ext w0 w') : RdO g w0 w' bv l s := by
  cases s with
  | some p => exact RdSt.keep h hg hne hx
  | none => obtain ⟨p, h⟩ := h; exact ⟨p, h.keep hg hne hx⟩
theorem RdO.ext {g : Nat} {w0 w : World} {bv : Value} {l : List UInt8} {s : Option Nat} (h : RdO g w0 w bv l s) : Ext w0 w := by
  obtain ⟨p, h⟩ := h.st; exact h.ext
theorem RdO.low {g : Nat} {w0 w : World} {bv : Value} {l : List UInt8} {s : Option Nat} (h : RdO g w0 w bv l s) : w0.heap.size ≤ g := by
  obtain ⟨p, h⟩ := h.st; exact h.low
theorem Own.below {α : Type} {r : Rep α} {base : Nat} {e : TypeId} {w : World} {v : Value} {l : List α} (h : Own r base e w v l) : ∀ b, v.ownBlock = some b → b < w.heap.size := by
  obtain ⟨cells, ho, _⟩ := h
  exact fun b hb => (World.ownsRow.lt ho b hb).2
theorem wordO_size (l : List UInt8) (s : Option Nat) : (wordO l s).1.size ≤ 65535 := by
  unfold wordO
  simp only
  rw [bstr_size]
  have h0 := takeB_len l (takeB l s 2).2 (bNum (takeB l s 2).1)
  have h1 := takeB_len l s 2
  have h := bNum_lt (takeB l s 2).1
  have h3 : 256 ^ (takeB l s 2).1.length ≤ 256 ^ 2 := Nat.pow_le_pow_right (by decide) h1
  omega
theorem one_pair {G : Nat} (w : World) (hg : G = w.heap.size) (s t : ByteArray) (hs : s.size ≤ maxLen) (ht : t.size ≤ maxLen) {ty : TypeId} : SliceOf rPr (w.alloc (.cells #[.string s, .string t] ty)) (.slice (some ⟨G, 0, none⟩) 1 1) [(s, t)] := by
  subst hg
  refine sliceOf_heap (heap_alloc_new w _) [(s, t)] rfl (Nat.le_refl _) (by decide) fun j y hy => ?_
  obtain ⟨rfl, rfl⟩ : j = 0 ∧ (s, t) = y := by cases j <;> simp_all
  refine ⟨[.string s, .string t], rfl, fun i hi => ?_, rfl, hs, ht⟩
  simp
theorem one_memb {G : Nat} (w : World) (hg : G = w.heap.size) (n : Int) (t : ByteArray) (hn : (Lit.int .i64 n).wf = true) (ht : t.size ≤ maxLen) {ty : TypeId} : SliceOf rMb (w.alloc (.cells #[.int .i64 n, .string t] ty)) (.slice (some ⟨G, 0, none⟩) 1 1) [(n, t)] := by
  subst hg
  refine sliceOf_heap (heap_alloc_new w _) [(n, t)] rfl (Nat.le_refl _) (by decide) fun j y hy => ?_
  obtain ⟨rfl, rfl⟩ : j = 0 ∧ (n, t) = y := by cases j <;> simp_all
  refine ⟨[.int .i64 n, .string t], rfl, fun i hi => ?_, rfl, hn, ht⟩
  simp
set_option maxRecDepth 100000 in
set_option maxHeartbeats 4000000 in
theorem thing_pair (g h : Nat) (bv : Value) (l : List UInt8) (s : Option Nat) (w0 w : World) (T0 : ByteArray) (P : List (ByteArray × ByteArray)) (p : Value) (hr : RdO g w0 w bv l s) (hgh : g < h)
    (hu : UnV h w ⟨2, T0, P, [], []⟩ p (.slice none 0 0) (.slice none 0 0)) (ho : Own rPr (h + 1) 43 w p P) (hP : P.length ≤ 100000) :
    Calls Try.prog 55 #[.pointer (some ⟨g, 0, none⟩), .pointer (some ⟨h, 0, none⟩)] w fun e w' => (∃ u, e = .returned u) ∧ RdO g w0 w' bv l (wordO l (wordO l s).2).2 ∧
      ∃ p', UnV h w' ⟨2, T0, P ++ [((wordO l s).1, (wordO l (wordO l s).2).1)], [], []⟩ p' (.slice none 0 0) (.slice none 0 0) ∧ Own rPr (h + 1) 43 w' p' (P ++ [((wordO l s).1, (wordO l (wordO l s).2).1)]) := by
  have hz1 := wordO_size l s
  have hz2 := wordO_size l (wordO l s).2
  obtain ⟨a1, ha1⟩ : ∃ a, (wordO l s).1 = a := ⟨_, rfl⟩
  obtain ⟨s1, hs1⟩ : ∃ a, (wordO l s).2 = a := ⟨_, rfl⟩
  rw [ha1] at hz1
  rw [hs1] at hz2
  rw [ha1, hs1]
  obtain ⟨a2, ha2⟩ : ∃ a, (wordO l s1).1 = a := ⟨_, rfl⟩
  obtain ⟨s2, hs2⟩ : ∃ a, (wordO l s1).2 = a := ⟨_, rfl⟩
  rw [ha2] at hz2
  rw [ha2, hs2]
  have Ha1 := Lib.hid ha1
  have Hs1 := Lib.hid hs1
  have Ha2 := Lib.hid ha2
  have Hs2 := Lib.hid hs2
  have Hr := Lib.hid hr
  have Hu := Lib.hid hu
  have Ho := Lib.hid ho
  have HpB := Lib.hid ho.below
  obtain ⟨⟨c0, _, _, _, _⟩, _, _⟩ := hu
  clear ha1 hs1 ha2 hs2 hr ho
  go_enter Try.func55, Try.ntmps55
  go_wp2_with fail
  refine (word_any g bv l s w0 _ Hr.out).mono ?_
  rintro e w1 ⟨rfl, hr1, hf1⟩
  rw [Hs1.out] at hr1
  rw [Ha1.out]
  have Hr1 := Lib.hid (hr1.later ((Ext.refl w1).alloc (.cells #[.string a1, .string ⟨#[]⟩] 43)))
  have Hu1 := Lib.hid ((Hu.out.keep hf1 (by simp; omega)).later ((Ext.refl w1).alloc (.cells #[.string a1, .string ⟨#[]⟩] 43)))
  have Ho1 := Lib.hid ((Ho.out.grow rPr_flat hf1 (by omega)).mono rPr_mono ((Ext.refl w1).alloc (.cells #[.string a1, .string ⟨#[]⟩] 43)))
  have Hlt1 := Lib.hid (Hu.out.keep hf1 (by simp; omega)).lt
  have Hnew := Lib.hid (heap_alloc_new w1 (.cells #[.string a1, .string ⟨#[]⟩] 43))
  have Hsz := Lib.hid hf1.size
  clear c0 hr1 hf1
  go_wp2_with fail
  refine (word_any g bv l s1 w0 _ Hr1.out).mono ?_
  rintro e w2 ⟨rfl, hr2, hf2⟩
  rw [Hs2.out] at hr2
  rw [Ha2.out]
  have hk0 : w2.cell? ⟨w1.heap.size, 0, none⟩ = some (.string a1) := by
    rw [hf2.cell_far ⟨w1.heap.size, 0, none⟩ (by simp) (by have := Hlt1.out; simp; omega)]
    exact (cells_at (i := 0) (v := .string a1) Hnew.out rfl).1
  obtain ⟨hk1, hkf⟩ : w2.cell? ⟨w1.heap.size, 1, none⟩ = some (.string ⟨#[]⟩) ∧ w2.frozen? ⟨w1.heap.size, 1, none⟩ = false := by
    obtain ⟨q1, q2⟩ := cells_at (i := 1) (v := .string ⟨#[]⟩) Hnew.out rfl
    exact ⟨by rw [hf2.cell_far ⟨w1.heap.size, 1, none⟩ (by simp) (by have := Hlt1.out; simp; omega)]; exact q1, by rw [hf2.frozen_far ⟨w1.heap.size, 1, none⟩ (by simp) (by have := Hlt1.out; simp; omega)]; exact q2⟩
  have hlow := hr2.low
  have hgr := grown_set w1.heap.size 1 (.string a2) w2
  have hx3 : Ext w0 (w2.setCell ⟨w1.heap.size, 1, none⟩ (.string a2)) := Below.setCell hr2.ext (p := ⟨w1.heap.size, 1, none⟩) (by have := Hlt1.out; show w0.heap.size ≤ w1.heap.size; omega) _
  have Hr3 := Lib.hid (hr2.keep hgr (by have := Hlt1.out; simp; omega) hx3)
  have hu3 := (Hu1.out.keep hf2 (by simp; omega)).keep hgr (by have := Hlt1.out; simp; omega)
  have ho3 := (Ho1.out.grow rPr_flat hf2 (by omega)).far rPr_flat (p := ⟨w1.heap.size, 1, none⟩) (fun e => by have h1 := HpB.out _ e; have h2 := Hsz.out; simp at h1; omega) (.string a2)
  have e0 : (w2.setCell ⟨w1.heap.size, 1, none⟩ (.string a2)).cell? ⟨w1.heap.size, 0, none⟩ = some (.string a1) := cell_set_other hk0 (by decide)
  have e1 : (w2.setCell ⟨w1.heap.size, 1, none⟩ (.string a2)).cell? ⟨w1.heap.size, 1, none⟩ = some (.string a2) := World.cell?_setCell_same' _ _ _ (by rw [hk1]; rfl)
  have hr3 := Hr3.out
  have hlk := Hlt1.out
  clear hr2 hf2 hgr hk0 hlow hx3 Hu Hu1 Ho Ho1 Hr1 Hr3
  go_wp2_with fail
  clear hk1 hkf
  generalize w2.setCell ⟨w1.heap.size, 1, none⟩ (.string a2) = W3 at e0 e1 hu3 ho3 hr3 ⊢
  obtain ⟨pa, pc, rfl, hpl, hpm⟩ := len_of' ho3.slice
  obtain ⟨⟨_, _, u2, _, _⟩, hf, hlt⟩ := id hu3
  have f2 := hf 2
  have hne : some h ≠ (Value.slice pa P.length pc).ownBlock := fun e => by have := ho3.lt h e.symm; omega
  have hneg : some g ≠ (Value.slice pa P.length pc).ownBlock := fun e => by have := ho3.lt g e.symm; omega
  have HU := Lib.hid hu3
  have HR := Lib.hid hr3
  have HO := Lib.hid ho3
  have HA : Hid (P.length + [(a1, a2)].length ≤ maxLen) := Lib.hid (by unfold maxLen; simp; omega)
  have HB : Hid ((P.length + [(a1, a2)].length) * 32 ≤ 140737488355328) := Lib.hid (by simp; omega)
  have HC : Hid (h + 1 ≤ W3.heap.size) := Lib.hid (by omega)
  have HZ1 : Hid (a1.size ≤ maxLen) := Lib.hid (by unfold maxLen; omega)
  have HZ2 : Hid (a2.size ≤ maxLen) := Lib.hid (by unfold maxLen; omega)
  have hnn := World.new_ne W3 _ u2
  have hnk := World.new_ne W3 _ e0
  clear hu3 hr3 ho3 hf
  go_region_law ((refine step_append_own (by rfl) (.tmp 33) (.tmp 35) (by rfl) el_P rPr_one rPr_flat (.slice pa P.length pc) P (by rfl) (HO.out.mono rPr_mono (by first | exact ((Ext.refl W3).alloc _).drew | exact (Ext.refl W3).drew.alloc _)) _ [(a1, a2)] (by rfl) (by first | exact (one_pair W3 rfl a1 a2 HZ1.out HZ2.out).mono rPr_mono (Ext.refl _).drew | exact one_pair W3.drew rfl a1 a2 HZ1.out HZ2.out) (by simp) HA.out HB.out (by have := HC.out; simp; omega) ?_; intro v1 w4 hown1 hgrow hnew; obtain ⟨A1, C1, hv1, _, _, _, _⟩ := id hown1.slice; subst hv1; have hU4 := (HU.out.later (((Ext.refl W3).alloc (.cells #[.string a1, .string a2] 43)).drew)).keep hgrow hne; obtain ⟨⟨_, _, q2, _, _⟩, hf4, hlt4⟩ := id hU4; have q2f := hf4 2))
  all_goals
    have hxa : Ext W3 _ := (((Ext.refl W3).alloc (.cells #[.string a1, .string a2] 43)).drew)
    have hr4 := (HR.out.later hxa).keep hgrow hneg ((HR.out.ext.then hxa).grown hgrow (HR.out.ext.then hxa).size (fun q hq => by have := HO.out.lt q hq; have := HR.out.low; omega))
    have hr5 := hr4.keep (grown_set h 2 (.slice A1 (P.length + 1) C1) w4) (by simp; omega) (Below.setCell hr4.ext (p := ⟨h, 2, none⟩) (by have := HR.out.low; show w0.heap.size ≤ h; omega) _)
    go_wp2
    refine bodyPost_end (results_none rfl _ _ _) rfl ?_
    rw [show (P ++ [(a1, a2)]).length = P.length + 1 by simp] at hown1
    exact ⟨⟨_, rfl⟩, hr5, .slice A1 (P.length + 1) C1, hU4.set2 _ _, hown1.far rPr_flat (fun e => by have := hown1.lt _ e; simp at this; omega) _⟩
end Go.Proofs.Ythclkljdnmokcaa
