/-
  value.Unpack of a text, walked.
-/
import Derived.Test.YthclkljdnmokcaaUnpackT
set_option linter.unusedVariables false
set_option linter.unusedSimpArgs false
namespace Go.Proofs.Ythclkljdnmokcaa
open Go.RowKit Go.Proofs
attribute [local go_sem ↓] Go.wp_at_zero Go.wp_at_succ

theorem unpack_one {l : List UInt8} (hk : bNum (l.take 1) = 1) : unpackB l = rightOr ((wordAt l 1).map fun s => (⟨1, s.1, [], [], []⟩, s.2)) := by
  unfold unpackB readB rightOr
  rw [if_pos hk]
  by_cases h3 : 3 ≤ l.length
  · rw [if_pos h3]
  · rw [if_neg h3]
    have e : wordAt l 1 = none := by unfold wordAt; rw [if_neg (by omega)]
    rw [e]; rfl
theorem UnV.setText {h : Nat} {w : World} {x : Val} {p t z : Value} (hu : UnV h w x p t z) (a : ByteArray) : UnV h (w.setCell ⟨h, 1, none⟩ (.string a)) { x with text := a } p t z := by
  obtain ⟨⟨c0, c1, c2, c3, c4⟩, f, lt⟩ := hu
  exact ⟨⟨cell_set_other c0 (by decide), cell_same c1, cell_set_other c2 (by decide), cell_set_other c3 (by decide), cell_set_other c4 (by decide)⟩, fun i => by rw [← f i]; exact World.frozen?_setCell .., by simpa using lt⟩
set_option maxRecDepth 100000 in
set_option maxHeartbeats 8000000 in
theorem unpack_str (bv : Value) (l : List UInt8) (w : World) (hb : SliceOf rByte w bv l) (hl : l.length ≤ 100000000) (h1 : 1 ≤ l.length) (hk : bNum (l.take 1) = 1) :
    Calls Try.prog 23 #[bv] w (UPost l w) := by
  have hnum := num_one l h1
  rw [hk] at hnum
  have hun := unpack_one hk
  have hws := wordO_some l 1
  have hz1 := wordO_size l (some 1)
  obtain ⟨a, ha⟩ : ∃ a, (wordO l (some 1)).1 = a := ⟨_, rfl⟩
  obtain ⟨s2, hs2⟩ : ∃ s, (wordO l (some 1)).2 = s := ⟨_, rfl⟩
  have Hor : Hid ((s2 = none ∧ unpackB l = none) ∨ ∃ q, s2 = some q ∧ unpackB l = rightOr (some (⟨1, a, [], [], []⟩, q))) := Lib.hid (by
    cases h : wordAt l 1 with
    | none =>
      rw [h] at hws hun
      left
      exact ⟨by rw [← hs2, hws], hun⟩
    | some r =>
      obtain ⟨b, q⟩ := r
      rw [h] at hws hun
      right
      rw [hws] at ha hs2
      exact ⟨q, hs2.symm, by rw [hun, ← ha]; rfl⟩)
  have Hsz : Hid (a.size ≤ maxLen) := Lib.hid (by rw [← ha]; unfold maxLen; omega)
  have Ha := Lib.hid ha
  have Hs2 := Lib.hid hs2
  clear hun hws hz1 ha hs2
  have Hnum := Lib.hid hnum
  have hW0 : Ext w (w.alloc (.cells #[.int .i64 0, .string ⟨#[]⟩, .slice none 0 0, .slice none 0 0, .slice none 0 0] 30)) := (Ext.refl w).alloc _
  have HZ := Lib.hid (zbox_new w (ty := 30))
  have HW0 := Lib.hid hW0
  have hb0 := hb.mono rByte_mono hW0
  have HS0 : Hid ((w.alloc (.cells #[.int .i64 0, .string ⟨#[]⟩, .slice none 0 0, .slice none 0 0, .slice none 0 0] 30)).heap.size = w.heap.size + 1) := Lib.hid (by simp)
  obtain ⟨ba, bc, rfl, hbl, hbc⟩ := len_of' hb
  clear hnum hW0 hb hk h1
  go_enter Try.func23, Try.ntmps23
  go_wp2_with fail
  generalize w.alloc (.cells #[.int .i64 0, .string ⟨#[]⟩, .slice none 0 0, .slice none 0 0, .slice none 0 0] 30) = W0 at HZ HW0 HS0 hb0 ⊢
  have hr0 := rd_new W0 (g := w.heap.size + 1) HS0.out.symm _ l hb0 (ty := 81)
  refine (num_any (w.heap.size + 1) _ l (some 0) 1 W0 _ hr0 (by omega)).mono ?_
  rintro e w1 ⟨rfl, hr1, hf1⟩
  rw [Hnum.out] at hr1 ⊢
  simp only
  have hs1 : w.heap.size + 1 < w1.heap.size := by have h1 := hf1.size; have h2 := HS0.out; simp at h1; omega
  have Hs1 := Lib.hid hs1
  have Hr1 := Lib.hid hr1
  clear hr0 hr1 hf1
  go_wp2_with fail
  have hxa : Ext w1 (w1.alloc (.cells #[.int .i64 1, .string ⟨#[]⟩, .slice none 0 0, .slice none 0 0, .slice none 0 0] 30)) := (Ext.refl w1).alloc _
  have hu1 := unv_new w1 rfl 1 (ty := 30)
  refine (word_any (w.heap.size + 1) _ l (some 1) W0 _ (Hr1.out.later hxa)).mono ?_
  rintro e w2 ⟨rfl, hr2, hf2⟩
  rw [Hs2.out] at hr2
  rw [Ha.out]
  have hu2 := hu1.keep hf2 (by have := Hs1.out; simp; omega)
  have hW0s := hr2.low
  have hx3 : Ext W0 (w2.setCell ⟨w1.heap.size, 1, none⟩ (.string a)) := Below.setCell hr2.ext (p := ⟨w1.heap.size, 1, none⟩) (by have := Hs1.out; show W0.heap.size ≤ w1.heap.size; omega) _
  have Hr := Lib.hid (hr2.keep (grown_set w1.heap.size 1 (.string a) w2) (by have := Hs1.out; simp; omega) hx3)
  have Hr2 := Lib.hid hr2
  have Hu := Lib.hid (hu2.setText a)
  obtain ⟨⟨u0, cc1, u2, u3, u4⟩, cf, _⟩ := hu2
  have cf1 := cf 1
  have hne1 : w1.heap.size ≠ w.heap.size + 1 := by have := Hs1.out; omega
  have hne2 : w.heap.size + 1 ≠ w1.heap.size := by have := Hs1.out; omega
  have hne3 : w1.heap.size ≠ w.heap.size := by have := Hs1.out; omega
  have hne4 : w.heap.size ≠ w1.heap.size := by have := Hs1.out; omega
  clear hu1 hr2 hf2 hxa hx3 hW0s cf
  rcases Hor.out with ⟨rfl, hno⟩ | ⟨q, rfl, hun0⟩
  · have Hno := Lib.hid hno
    clear hno
    obtain ⟨⟨r0, r1, r2, r3, r4⟩, rlt, rf⟩ := HZ.out.mono Hr2.out.ext
    obtain ⟨q, hst⟩ := Hr2.out
    have bad := hst.c2
    have rf0 := rf 0
    have rf1 := rf 1
    have rf2 := rf 2
    have rf3 := rf 3
    have rf4 := rf 4
    clear hst rf
    go_wp2_with fail
    clear r0 r1 r2 r3 r4
    obtain ⟨wr, hwr⟩ : ∃ wr, w2.setCell ⟨w1.heap.size, 1, none⟩ (.string a) = wr := ⟨_, rfl⟩
    rw [hwr] at Hr Hu ⊢
    obtain ⟨⟨r0, r1, r2, r3, r4⟩, _, _⟩ := HZ.out.mono Hr.out.ext
    obtain ⟨d0, d1, d2, d3, d4⟩ := set5_cells r0 r1 r2 r3 r4 (.int .i64 0) (.string ⟨#[]⟩) (.slice none 0 0) (.slice none 0 0) (.slice none 0 0)
    exact unpack_fin (x := zeroV) d0 d1 d2 d3 d4 ⟨sliceOf_nil _ _, sliceOf_nil _ _, sliceOf_nil _ _⟩ (by decide) (by decide) (resU_none Hno.out) (set5_ext (HW0.out.then Hr.out.ext) (Nat.le_refl _) _ _ _ _ _)
  · have Hun := Lib.hid hun0
    clear hun0
    have hst2 : RdSt (w.heap.size + 1) W0 w2 (.slice ba l.length bc) l q false := Hr2.out
    have bad := hst2.c2
    clear hst2
    go_wp2_with fail
    obtain ⟨wr, hwr⟩ : ∃ wr, w2.setCell ⟨w1.heap.size, 1, none⟩ (.string a) = wr := ⟨_, rfl⟩
    rw [hwr] at Hr Hu ⊢
    have hst : RdSt (w.heap.size + 1) W0 wr (.slice ba l.length bc) l q false := Hr.out
    have hat := hst.c1
    clear u0 u2 u3 u4
    obtain ⟨⟨u0, u1, u2, u3, u4⟩, _, hult⟩ := Hu.out
    simp only at u0 u1
    have Hxw := Lib.hid hst.ext
    clear hst
    have Hparts : Hid (Parts wr (.slice none 0 0) (.slice none 0 0) (.slice none 0 0) ⟨1, a, [], [], []⟩) := Lib.hid ⟨sliceOf_nil _ _, sliceOf_nil _ _, sliceOf_nil _ _⟩
    refine (vright_any ⟨1, a, [], [], []⟩ _ _ _ _ Hparts.out Hsz.out (by simp) (by simp)).mono ?_
    rintro e w5 ⟨rfl, hx5⟩
    have hat5 := hx5.cell hat
    have v0 := hx5.cell u0
    have v1 := hx5.cell u1
    have v2 := hx5.cell u2
    have v3 := hx5.cell u3
    have v4 := hx5.cell u4
    obtain ⟨⟨r0, r1, r2, r3, r4⟩, rlt, rf⟩ := HZ.out.mono (Hxw.out.then hx5)
    have rf0 := rf 0
    have rf1 := rf 1
    have rf2 := rf 2
    have rf3 := rf 3
    have rf4 := rf 4
    have Hx5 := Lib.hid (Hxw.out.then hx5)
    have hun := Hun.out
    have Hun2 := Lib.hid hun
    clear rf hx5 hat u0 u1 u2 u3 u4 bad hun
    cases hrv : rightV ⟨1, a, [], [], []⟩ with
    | false =>
      have Hno : Hid (unpackB l = none) := Lib.hid (by rw [Hun2.out]; simp [rightOr, hrv])
      clear hrv
      go_wp2_with fail
      obtain ⟨d0, d1, d2, d3, d4⟩ := set5_cells r0 r1 r2 r3 r4 (.int .i64 0) (.string ⟨#[]⟩) (.slice none 0 0) (.slice none 0 0) (.slice none 0 0)
      exact unpack_fin (x := zeroV) d0 d1 d2 d3 d4 ⟨sliceOf_nil _ _, sliceOf_nil _ _, sliceOf_nil _ _⟩ (by decide) (by decide) (resU_none Hno.out) (set5_ext (HW0.out.then Hx5.out) (Nat.le_refl _) _ _ _ _ _)
    | true =>
      have Hyes : Hid (unpackB l = some (⟨1, a, [], [], []⟩, q)) := Lib.hid (by rw [Hun2.out]; simp [rightOr, hrv])
      clear hrv
      go_wp2_with fail
      go_region
      all_goals
        go_wp2_with fail
        obtain ⟨d0, d1, d2, d3, d4⟩ := set5_cells r0 r1 r2 r3 r4 (.int .i64 1) (.string a) (.slice none 0 0) (.slice none 0 0) (.slice none 0 0)
        exact unpack_fin (x := ⟨1, a, [], [], []⟩) ((Ext.refl _).drew.cell d0) ((Ext.refl _).drew.cell d1) ((Ext.refl _).drew.cell d2) ((Ext.refl _).drew.cell d3) ((Ext.refl _).drew.cell d4) ⟨sliceOf_nil _ _, sliceOf_nil _ _, sliceOf_nil _ _⟩ (show (Lit.int .i64 1).wf = true by decide) Hsz.out (resU_some Hyes.out) (set5_ext (HW0.out.then Hx5.out) (Nat.le_refl _) _ _ _ _ _).drew
theorem unpack_any (bv : Value) (l : List UInt8) (w : World) (hb : SliceOf rByte w bv l) (hl : l.length ≤ 100000000) :
    Calls Try.prog 23 #[bv] w (UPost l w) := by
  by_cases h1 : 1 ≤ l.length
  · by_cases e1 : bNum (l.take 1) = 1
    · exact unpack_str bv l w hb hl h1 e1
    by_cases e2 : bNum (l.take 1) = 2
    · exact unpack_pairs bv l w hb hl h1 e2
    by_cases e5 : bNum (l.take 1) = 5
    · exact unpack_members bv l w hb hl h1 e5
    refine unpack_texts bv l w hb hl h1 _ rfl e1 e2 e5 ?_
    have h := bNum_lt (l.take 1)
    have h2 : 256 ^ (l.take 1).length ≤ 256 ^ 1 := Nat.pow_le_pow_right (by decide) (by simp; omega)
    omega
  · obtain rfl : l = [] := List.length_eq_zero_iff.1 (by omega)
    exact unpack_empty bv w hb
end Go.Proofs.Ythclkljdnmokcaa
