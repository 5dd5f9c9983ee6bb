/-
  The reference's Unpack of a text, walked.
-/
import Derived.Test.YthclkljdnmokcaaRefUnp5
set_option linter.unusedVariables false
set_option linter.unusedSimpArgs false
namespace Go.Proofs.Ythclkljdnmokcaa
open Go.RowKit Go.Proofs

set_option maxRecDepth 100000 in
set_option maxHeartbeats 8000000 in
theorem refunpack_str (bv : Value) (l : List UInt8) (w : World) (hb : SliceOf rByte w bv l) (hl : l.length ≤ 100000000) (h3 : 3 ≤ l.length) (hk : bNum (l.take 1) = 1) :
    Calls Try.prog 24 #[bv] w (RPost l w) := by
  obtain ⟨ba, bc, rfl, hbl, hbc⟩ := len_of' hb
  obtain ⟨x0, hx0⟩ : ∃ x, l[0]? = some x := ⟨_, List.getElem?_eq_getElem (by omega)⟩
  obtain ⟨x1, hx1⟩ : ∃ x, l[1]? = some x := ⟨_, List.getElem?_eq_getElem (by omega)⟩
  obtain ⟨x2, hx2⟩ : ∃ x, l[2]? = some x := ⟨_, List.getElem?_eq_getElem (by omega)⟩
  obtain ⟨g, o, u, rfl, m0, hcu⟩ := hb.at1 rfl hx0
  cases hcu
  obtain ⟨g1, o1, u, e1, m1, hcu⟩ := hb.at1 rfl hx1
  cases hcu
  obtain ⟨g2, o2, u, e2, m2, hcu⟩ := hb.at1 rfl hx2
  cases hcu
  obtain ⟨rfl, rfl⟩ : g = g1 ∧ o = o1 := by simpa using e1
  obtain ⟨rfl, rfl⟩ : g = g2 ∧ o = o2 := by simpa using e2
  rw [Nat.add_zero] at m0
  have hk0 := bNum_first hx0
  rw [hk] at hk0
  have hkk : (x0.toNat : Int) = 1 := by omega
  rw [hkk] at m0
  have hn := two_at hx1 hx2
  have hlt := two_lt l 1
  obtain ⟨n, hnn⟩ : ∃ n, x1.toNat * 256 + x2.toNat = n := ⟨_, rfl⟩
  rw [hnn] at hn
  rw [hn] at hlt
  have hni : (x1.toNat : Int) * 256 + (x2.toNat : Int) = (n : Int) := by omega
  have hx1l := x1.toNat_lt
  have hx2l := x2.toNat_lt
  have Hun0 : Hid (unpackB l = rightOr ((wordAt l 1).map fun s => (⟨1, s.1, [], [], []⟩, s.2))) := Lib.hid (unpack_one hk)
  have hd : decide ((l.length : Int) < 3) = false := decide_eq_false (by omega)
  have hW0 : Ext w (w.alloc (.cells #[.int .i64 0, .string ⟨#[]⟩, .slice none 0 0, .slice none 0 0, .slice none 0 0] 30)) := (Ext.refl w).alloc _
  have HZ := Lib.hid (zbox_new w (ty := 30))
  have HW0 := Lib.hid hW0
  have HB0 := Lib.hid (hb.mono rByte_mono hW0)
  have HS0 : Hid ((w.alloc (.cells #[.int .i64 0, .string ⟨#[]⟩, .slice none 0 0, .slice none 0 0, .slice none 0 0] 30)).heap.size = w.heap.size + 1) := Lib.hid (by simp)
  have M0 := hW0.cell m0
  have M1 := hW0.cell m1
  have M2 := hW0.cell m2
  have hxa := (Ext.refl (w.alloc (.cells #[.int .i64 0, .string ⟨#[]⟩, .slice none 0 0, .slice none 0 0, .slice none 0 0] 30))).alloc (.cells #[.int .i64 1, .string ⟨#[]⟩, .slice none 0 0, .slice none 0 0, .slice none 0 0] 30)
  have N1 := hxa.cell M1
  have N2 := hxa.cell M2
  clear hW0 hb hk hx0 hx1 hx2 e1 e2 hn hk0 hkk m0 m1 m2
  generalize hWW : w.alloc (.cells #[.int .i64 0, .string ⟨#[]⟩, .slice none 0 0, .slice none 0 0, .slice none 0 0] 30) = W0 at HZ HW0 HS0 HB0 M0 M1 M2 hxa N1 N2
  go_enter Try.func24, Try.ntmps24
  go_wp2_with fail
  go_quiet (fail)
  go_wp2_with fail
  have hwle := wordI_le l 1
  have hws := wordI_nat l 1
  refine (refword_any _ l 1 _ (HB0.out.mono rByte_mono (hxa.drewN _)) hl ⟨by omega, by omega⟩).mono ?_
  rintro e w2 ⟨rfl, hx2⟩
  obtain ⟨a, ha⟩ : ∃ a, (wordI l 1).1 = a := ⟨_, rfl⟩
  obtain ⟨i1, hi1⟩ : ∃ a, (wordI l 1).2 = a := ⟨_, rfl⟩
  rw [ha, hi1] at hwle ⊢
  obtain ⟨hb1, hb2, hb3⟩ := hwle
  have Hsz : Hid (a.size ≤ maxLen) := Lib.hid (by unfold maxLen; omega)
  have Hor : Hid ((i1 = -1 ∧ unpackB l = none) ∨ ∃ q : Nat, i1 = (q : Int) ∧ unpackB l = rightOr (some (⟨1, a, [], [], []⟩, q))) := Lib.hid (by
    have hun := Hun0.out
    rw [show ((1 : Nat) : Int) = 1 from rfl] at hws
    cases h : wordAt l 1 with
    | none =>
      rw [h] at hws hun
      left
      exact ⟨by rw [← hi1, hws], hun⟩
    | some r =>
      obtain ⟨b, q⟩ := r
      rw [h] at hws hun
      right
      rw [hws] at ha hi1
      exact ⟨q, hi1.symm, by rw [hun, ← ha]; rfl⟩)
  have hx2' : Ext W0 w2 := (hxa.drewN _).then hx2
  have hu2 := (unv_new W0 rfl 1 (ty := 30)).later ((Ext.refl _).drewN _ |>.then hx2)
  have Hx : Hid (Ext W0 (w2.setCell ⟨W0.heap.size, 1, none⟩ (.string a))) := Lib.hid (Below.setCell hx2' (p := ⟨W0.heap.size, 1, none⟩) (Nat.le_refl _) _)
  have Hx2 := Lib.hid hx2'
  have Hu := Lib.hid (hu2.setText a)
  obtain ⟨⟨qq0, cc1, qq2, qq3, qq4⟩, cf, _⟩ := hu2
  have cf1 := cf 1
  clear hWW hxa N1 N2 M0 M1 M2 cf hx2 hx2' ha hi1 hws
  go_wp2_with fail
  clear qq0 cc1 qq2 qq3 qq4 cf1
  go_loopw [6, 7, 8, 9, 10, 11] (fun at_ i _ _ _ _ wr => at_ = .int .i64 i1 ∧ i = .int .i64 0 ∧ Ext W0 wr ∧ UnV W0.heap.size wr ⟨1, a, [], [], []⟩ (.slice none 0 0) (.slice none 0 0) (.slice none 0 0)) (fun _ _ _ _ _ _ _ => 0)
  case atStart => exact ⟨rfl, rfl, Hx.out, Hu.out⟩
  case round =>
    obtain ⟨rfl, rfl, hx, hu⟩ := hrel
    clear Hx Hu
    have Hx := Lib.hid hx
    have Hu := Lib.hid hu
    clear hx hu
    have q0 := Hu.out.box.c0
    rcases Hor.out with ⟨rfl, hno⟩ | ⟨q, rfl, hun0⟩
    · have Hno := Lib.hid hno
      clear hno
      obtain ⟨⟨r0, r1, r2, r3, r4⟩, rlt, rf⟩ := HZ.out.mono Hx.out
      have rf0 := rf 0
      have rf1 := rf 1
      have rf2 := rf 2
      have rf3 := rf 3
      have rf4 := rf 4
      clear rf
      go_wp2_with fail
      obtain ⟨d0, d1, d2, d3, d4⟩ := set5_cells r0 r1 r2 r3 r4 (.int .i64 0) (.string ⟨#[]⟩) (.slice none 0 0) (.slice none 0 0) (.slice none 0 0)
      exact refunpack_fin (x := zeroV) d0 d1 d2 d3 d4 ⟨sliceOf_nil _ _, sliceOf_nil _ _, sliceOf_nil _ _⟩ (by decide) (by decide) (resU_none Hno.out) (set5_ext (HW0.out.then Hx.out) (Nat.le_refl _) _ _ _ _ _)
    · have Hun := Lib.hid hun0
      clear hun0
      have hdq : decide ((q : Int) < 0) = false := decide_eq_false (by omega)
      obtain ⟨⟨u0, u1, u2, u3, u4⟩, _, hult⟩ := Hu.out
      simp only at u0 u1
      have Hparts : Hid (Parts wr (.slice none 0 0) (.slice none 0 0) (.slice none 0 0) ⟨1, a, [], [], []⟩) := Lib.hid ⟨sliceOf_nil _ _, sliceOf_nil _ _, sliceOf_nil _ _⟩
      go_wp2_with fail
      refine (right14_any ⟨1, a, [], [], []⟩ _ _ _ _ Hparts.out Hsz.out).mono ?_
      rintro e w5 ⟨rfl, hx5⟩
      have v0 := hx5.cell u0
      have v1 := hx5.cell u1
      have v2 := hx5.cell u2
      have v3 := hx5.cell u3
      have v4 := hx5.cell u4
      obtain ⟨⟨r0, r1, r2, r3, r4⟩, rlt, rf⟩ := HZ.out.mono (Hx.out.then hx5)
      have rf0 := rf 0
      have rf1 := rf 1
      have rf2 := rf 2
      have rf3 := rf 3
      have rf4 := rf 4
      have Hx5 := Lib.hid (Hx.out.then hx5)
      have hun := Hun.out
      have Hun2 := Lib.hid hun
      clear rf hx5 u0 u1 u2 u3 u4 hun
      cases hrv : rightV ⟨1, a, [], [], []⟩ with
      | false =>
        have Hno : Hid (unpackB l = none) := Lib.hid (by rw [Hun2.out]; simp [rightOr, hrv])
        clear hrv
        go_wp2_with fail
        obtain ⟨d0, d1, d2, d3, d4⟩ := set5_cells r0 r1 r2 r3 r4 (.int .i64 0) (.string ⟨#[]⟩) (.slice none 0 0) (.slice none 0 0) (.slice none 0 0)
        exact refunpack_fin (x := zeroV) d0 d1 d2 d3 d4 ⟨sliceOf_nil _ _, sliceOf_nil _ _, sliceOf_nil _ _⟩ (by decide) (by decide) (resU_none Hno.out) (set5_ext (HW0.out.then Hx5.out) (Nat.le_refl _) _ _ _ _ _)
      | true =>
        have Hyes : Hid (unpackB l = some (⟨1, a, [], [], []⟩, q)) := Lib.hid (by rw [Hun2.out]; simp [rightOr, hrv])
        clear hrv
        go_wp2_with fail
        obtain ⟨d0, d1, d2, d3, d4⟩ := set5_cells r0 r1 r2 r3 r4 (.int .i64 1) (.string a) (.slice none 0 0) (.slice none 0 0) (.slice none 0 0)
        exact refunpack_fin (x := ⟨1, a, [], [], []⟩) d0 d1 d2 d3 d4 ⟨sliceOf_nil _ _, sliceOf_nil _ _, sliceOf_nil _ _⟩ (show (Lit.int .i64 1).wf = true by decide) Hsz.out (resU_some Hyes.out) (set5_ext (HW0.out.then Hx5.out) (Nat.le_refl _) _ _ _ _ _)
theorem refunpack_any (bv : Value) (l : List UInt8) (w : World) (hb : SliceOf rByte w bv l) (hl : l.length ≤ 100000000) :
    Calls Try.prog 24 #[bv] w (RPost l w) := by
  by_cases h3 : 3 ≤ l.length
  · by_cases e1 : bNum (l.take 1) = 1
    · exact refunpack_str bv l w hb hl h3 e1
    by_cases e2 : bNum (l.take 1) = 2
    · exact refunpack_pairs bv l w hb hl h3 e2
    by_cases e5 : bNum (l.take 1) = 5
    · exact refunpack_members bv l w hb hl h3 e5
    exact refunpack_texts bv l w hb hl h3 _ rfl e1 e2 e5
  · exact refunpack_short bv l w hb h3
end Go.Proofs.Ythclkljdnmokcaa
