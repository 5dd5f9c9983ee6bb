/-
  value.Unpack of texts, walked.
-/
import Derived.Test.YthclkljdnmokcaaUnpack5
set_option linter.unusedVariables false
set_option linter.unusedSimpArgs false
namespace Go.Proofs.Ythclkljdnmokcaa
open Go.RowKit Go.Proofs
attribute [local go_sem ↓] Go.wp_at_zero Go.wp_at_succ

set_option maxRecDepth 100000 in
set_option maxHeartbeats 8000000 in
theorem unpack_textsG (bv : Value) (l : List UInt8) (w : World) (hb : SliceOf rByte w bv l) (hl : l.length ≤ 100000000) (kk : Nat) (k1 : kk ≠ 1) (k2 : kk ≠ 2) (k5 : kk ≠ 5) (k6 : kk < 256) (s1 : Option Nat) (hnum : numB l (some 0) 1 = ((kk : Int), s1)) (n : Nat) (s2 : Option Nat) (hn2 : numB l s1 2 = ((n : Int), s2)) (hnl : n < 65536)
    (hor : (s2 = some 3 ∧ unpackB l = rightOr ((many (wordAt l) n 3).map fun r => (⟨kk, ByteArray.empty, [], r.1, []⟩, r.2))) ∨ (s2 = none ∧ n = 0 ∧ unpackB l = none)) :
    Calls Try.prog 23 #[bv] w (UPost l w) := by
  have g1 : ((kk : Int) == 1) = false := beq_eq_false_iff_ne.2 (by omega)
  have Hwf : Hid ((Lit.int .i64 (kk : Int)).wf = true) := Lib.hid (by simp [Lit.wf, IntKind.min, IntKind.max, IntKind.signed, IntKind.bits]; omega)
  have Hnum := Lib.hid hnum
  have Hn2 := Lib.hid hn2
  have Hor := Lib.hid hor
  have hW0 : Ext w (w.alloc (.cells #[.int .i64 0, .string ⟨#[]⟩, .slice none 0 0, .slice none 0 0, .slice none 0 0] 30)) := (Ext.refl w).alloc _
  have HZ := Lib.hid (zbox_new w (ty := 30))
  have HW0 := Lib.hid hW0
  have hb0 := hb.mono rByte_mono hW0
  have HS0 : Hid ((w.alloc (.cells #[.int .i64 0, .string ⟨#[]⟩, .slice none 0 0, .slice none 0 0, .slice none 0 0] 30)).heap.size = w.heap.size + 1) := Lib.hid (by simp)
  obtain ⟨ba, bc, rfl, hbl, hbc⟩ := len_of' hb
  clear hnum hn2 hor hW0 hb
  go_enter Try.func23, Try.ntmps23
  go_wp2_with fail
  generalize w.alloc (.cells #[.int .i64 0, .string ⟨#[]⟩, .slice none 0 0, .slice none 0 0, .slice none 0 0] 30) = W0 at HZ HW0 HS0 hb0 ⊢
  have hr0 := rd_new W0 (g := w.heap.size + 1) HS0.out.symm _ l hb0 (ty := 81)
  refine (num_any (w.heap.size + 1) _ l (some 0) 1 W0 _ hr0 (by omega)).mono ?_
  rintro e w1 ⟨rfl, hr1, hf1⟩
  rw [Hnum.out] at hr1 ⊢
  simp only
  have hs1 : w.heap.size + 1 < w1.heap.size := by have h1 := hf1.size; have h2 := HS0.out; simp at h1; omega
  have Hs1 := Lib.hid hs1
  have Hr1 := Lib.hid hr1
  clear hr0 hr1 hf1
  go_wp2_with fail
  have hxa : Ext w1 (w1.alloc (.cells #[.int .i64 (kk : Int), .string ⟨#[]⟩, .slice none 0 0, .slice none 0 0, .slice none 0 0] 30)) := (Ext.refl w1).alloc _
  have hu1 := unv_new w1 rfl kk (ty := 30)
  refine (num_any (w.heap.size + 1) _ l s1 2 W0 _ (Hr1.out.later hxa) (by omega)).mono ?_
  rintro e w2 ⟨rfl, hr2, hf2⟩
  rw [Hn2.out] at hr2 ⊢
  simp only
  have hu2 := hu1.keep hf2 (by have := Hs1.out; simp; omega)
  have Hu2 := Lib.hid hu2
  have Hr2 := Lib.hid hr2
  clear hu1 hu2 hr2 hf2 hxa
  go_wp2_with fail
  go_loopw [8] (fun i wr => ∃ (k : Nat) (s : Option Nat) (P : List ByteArray) (p : Value), i = .int .i64 (k : Int) ∧ k ≤ n ∧ RdO (w.heap.size + 1) W0 wr (.slice ba l.length bc) l s ∧ UnV w1.heap.size wr ⟨kk, ByteArray.empty, [], P, []⟩ (.slice none 0 0) p (.slice none 0 0) ∧ Own rStr (w1.heap.size + 1) 9 wr p P ∧ P.length ≤ k ∧
    ((∃ q, s = some q ∧ many (wordAt l) k 3 = some (P, q) ∧ unpackB l = rightOr ((many (wordAt l) n 3).map fun r => (⟨kk, ByteArray.empty, [], r.1, []⟩, r.2))) ∨ (s = none ∧ unpackB l = none))) (fun i _ => n - (intOf i).toNat)
  case atStart =>
    refine ⟨0, s2, [], .slice none 0 0, rfl, by omega, Hr2.out, Hu2.out, Own.nil _ _ _ _, by simp, ?_⟩
    rcases Hor.out with ⟨e, hu⟩ | ⟨e, _, hu⟩
    · exact .inl ⟨3, e, rfl, hu⟩
    · exact .inr ⟨e, hu⟩
  case round =>
    obtain ⟨k, s, P, p, rfl, hkn, hr, hu, ho, hPk, hst⟩ := hrel
    rcases hst with ⟨q, rfl, hmany, hunp⟩ | ⟨rfl, hunp⟩
    · have Hr := Lib.hid hr
      have Hu := Lib.hid hu
      have Ho := Lib.hid ho
      have Hm := Lib.hid hmany
      have Hun := Lib.hid hunp
      have bad := (show RdSt _ _ _ _ _ q false from hr).c2
      clear hr hu ho hmany hunp
      by_cases hlt : k < n
      · go_wp2_with fail
        refine (thing_text (w.heap.size + 1) w1.heap.size _ l (some q) W0 _ kk ByteArray.empty P p Hr.out Hs1.out (by omega) (by omega) Hu.out Ho.out (by omega)).mono ?_
        rintro e w3 ⟨⟨u, rfl⟩, hr3, p3, hu3, ho3⟩
        have hstep := many_snd (wordAt l) Hm.out
        have hcase : (∃ q', (wordO l (some q)).2 = some q' ∧ many (wordAt l) (k + 1) 3 = some (P ++ [(wordO l (some q)).1], q')) ∨ ((wordO l (some q)).2 = none ∧ unpackB l = none) := by
          rw [wordO_some]
          cases h1 : wordAt l q with
          | none =>
            rw [h1] at hstep
            right
            refine ⟨rfl, ?_⟩
            rw [Hun.out, many_none (wordAt l) 3 (i := k + 1) hstep (by omega)]
            rfl
          | some r =>
            obtain ⟨a, q1⟩ := r
            rw [h1] at hstep
            left
            exact ⟨q1, rfl, hstep⟩
        have hun2 : (∃ q', (wordO l (some q)).2 = some q' ∧ many (wordAt l) (k + 1) 3 = some (P ++ [(wordO l (some q)).1], q') ∧ unpackB l = rightOr ((many (wordAt l) n 3).map fun r => (⟨kk, ByteArray.empty, [], r.1, []⟩, r.2))) ∨ ((wordO l (some q)).2 = none ∧ unpackB l = none) := by
          rcases hcase with ⟨q', e1, e2⟩ | h
          · exact .inl ⟨q', e1, e2, Hun.out⟩
          · exact .inr h
        have Hres := Lib.hid hun2
        have Hr3 := Lib.hid hr3
        have Hu3 := Lib.hid hu3
        have Ho3 := Lib.hid ho3
        clear hr3 hu3 ho3 hstep hcase hun2 bad
        go_wp2_with fail
        exact ⟨⟨k + 1, _, _, _, by go_num, by omega, Hr3.out, Hu3.out, Ho3.out, by simp; omega, Hres.out⟩, by simp [intOf]; omega⟩
      · obtain rfl : k = n := by omega
        obtain ⟨pa, pc, rfl, hpl, hpm⟩ := len_of' Ho.out.slice
        have hst : RdSt (w.heap.size + 1) W0 wr (.slice ba l.length bc) l q false := Hr.out
        obtain ⟨⟨r0, r1, r2, r3, r4⟩, rlt, rf⟩ := HZ.out.mono hst.ext
        have hat := hst.c1
        obtain ⟨⟨u0, u1, u2, u3, u4⟩, _, hult⟩ := Hu.out
        simp only at u0 u1
        have Hparts : Hid (Parts wr (.slice none 0 0) (.slice pa P.length pc) (.slice none 0 0) ⟨kk, ByteArray.empty, [], P, []⟩) := Lib.hid ⟨sliceOf_nil _ _, Ho.out.slice, sliceOf_nil _ _⟩
        have Hxw := Lib.hid hst.ext
        clear hst rf rlt r0 r1 r2 r3 r4
        go_wp2_with fail
        refine (vright_any ⟨kk, ByteArray.empty, [], P, []⟩ _ _ _ _ Hparts.out (show ByteArray.empty.size ≤ maxLen by decide) (by simp only; omega) (by simp)).mono ?_
        rintro e w5 ⟨rfl, hx5⟩
        have hat5 := hx5.cell hat
        have v0 := hx5.cell u0
        have v1 := hx5.cell u1
        have v2 := hx5.cell u2
        have v3 := hx5.cell u3
        have v4 := hx5.cell u4
        obtain ⟨⟨r0, r1, r2, r3, r4⟩, rlt, rf⟩ := HZ.out.mono (Hxw.out.then hx5)
        have rf0 := rf 0
        have rf1 := rf 1
        have rf2 := rf 2
        have rf3 := rf 3
        have rf4 := rf 4
        have Hx5 := Lib.hid (Hxw.out.then hx5)
        have Ho5 := Lib.hid (Ho.out.mono rStr_mono hx5)
        have hun := Hun.out
        rw [Hm.out] at hun
        have Hun2 := Lib.hid hun
        clear rf hx5 hat u0 u1 u2 u3 u4 bad hun
        cases hrv : rightV ⟨kk, ByteArray.empty, [], P, []⟩ with
        | false =>
          have Hno : Hid (unpackB l = none) := Lib.hid (by rw [Hun2.out]; simp [rightOr, hrv])
          clear hrv
          go_wp2_with fail
          obtain ⟨d0, d1, d2, d3, d4⟩ := set5_cells r0 r1 r2 r3 r4 (.int .i64 0) (.string ⟨#[]⟩) (.slice none 0 0) (.slice none 0 0) (.slice none 0 0)
          exact unpack_fin (x := zeroV) d0 d1 d2 d3 d4 ⟨sliceOf_nil _ _, sliceOf_nil _ _, sliceOf_nil _ _⟩ (by decide) (by decide) (resU_none Hno.out) (set5_ext (HW0.out.then Hx5.out) (Nat.le_refl _) _ _ _ _ _)
        | true =>
          have Hyes : Hid (unpackB l = some (⟨kk, ByteArray.empty, [], P, []⟩, q)) := Lib.hid (by rw [Hun2.out]; simp [rightOr, hrv])
          clear hrv
          go_wp2_with fail
          go_region
          all_goals
            go_wp2_with fail
            obtain ⟨d0, d1, d2, d3, d4⟩ := set5_cells r0 r1 r2 r3 r4 (.int .i64 (kk : Int)) (.string ByteArray.empty) (.slice none 0 0) (.slice pa P.length pc) (.slice none 0 0)
            have ho6 := (Ho5.out.grow rStr_flat (set5_grown w5 w.heap.size (.int .i64 (kk : Int)) (.string ByteArray.empty) (.slice none 0 0) (.slice pa P.length pc) (.slice none 0 0)) (by have := Hs1.out; omega)).mono rStr_mono (Ext.refl _).drew
            exact unpack_fin (x := ⟨kk, ByteArray.empty, [], P, []⟩) ((Ext.refl _).drew.cell d0) ((Ext.refl _).drew.cell d1) ((Ext.refl _).drew.cell d2) ((Ext.refl _).drew.cell d3) ((Ext.refl _).drew.cell d4) ⟨sliceOf_nil _ _, ho6.slice, sliceOf_nil _ _⟩ Hwf.out (show ByteArray.empty.size ≤ maxLen by decide) (resU_some Hyes.out) (set5_ext (HW0.out.then Hx5.out) (Nat.le_refl _) _ _ _ _ _).drew
    · have Hno := Lib.hid hunp
      have Hr := Lib.hid hr
      clear hr hunp hu ho
      by_cases hlt : k < n
      · obtain ⟨⟨r0, r1, r2, r3, r4⟩, rlt, rf⟩ := HZ.out.mono Hr.out.ext
        obtain ⟨q, hst⟩ := Hr.out
        have bad := hst.c2
        have rf0 := rf 0
        have rf1 := rf 1
        have rf2 := rf 2
        have rf3 := rf 3
        have rf4 := rf 4
        clear hst rf
        go_wp2_with fail
        obtain ⟨d0, d1, d2, d3, d4⟩ := set5_cells r0 r1 r2 r3 r4 (.int .i64 0) (.string ⟨#[]⟩) (.slice none 0 0) (.slice none 0 0) (.slice none 0 0)
        exact unpack_fin (x := zeroV) d0 d1 d2 d3 d4 ⟨sliceOf_nil _ _, sliceOf_nil _ _, sliceOf_nil _ _⟩ (by decide) (by decide) (resU_none Hno.out) (set5_ext (HW0.out.then Hr.out.ext) (Nat.le_refl _) _ _ _ _ _)
      · obtain ⟨⟨r0, r1, r2, r3, r4⟩, rlt, rf⟩ := HZ.out.mono Hr.out.ext
        obtain ⟨q, hst⟩ := Hr.out
        have bad := hst.c2
        have rf0 := rf 0
        have rf1 := rf 1
        have rf2 := rf 2
        have rf3 := rf 3
        have rf4 := rf 4
        clear hst rf
        go_wp2_with fail
        obtain ⟨d0, d1, d2, d3, d4⟩ := set5_cells r0 r1 r2 r3 r4 (.int .i64 0) (.string ⟨#[]⟩) (.slice none 0 0) (.slice none 0 0) (.slice none 0 0)
        exact unpack_fin (x := zeroV) d0 d1 d2 d3 d4 ⟨sliceOf_nil _ _, sliceOf_nil _ _, sliceOf_nil _ _⟩ (by decide) (by decide) (resU_none Hno.out) (set5_ext (HW0.out.then Hr.out.ext) (Nat.le_refl _) _ _ _ _ _)
theorem unpack_texts (bv : Value) (l : List UInt8) (w : World) (hb : SliceOf rByte w bv l) (hl : l.length ≤ 100000000) (h1 : 1 ≤ l.length) (kk : Nat) (hk : bNum (l.take 1) = kk) (k1 : kk ≠ 1) (k2 : kk ≠ 2) (k5 : kk ≠ 5) (k6 : kk < 256) :
    Calls Try.prog 23 #[bv] w (UPost l w) := by
  have hnum := num_one l h1
  rw [hk] at hnum
  rcases num_two l with ⟨e, h3, hlt⟩ | ⟨e, hu⟩
  · exact unpack_textsG bv l w hb hl kk k1 k2 k5 k6 _ hnum _ _ e hlt (.inl ⟨rfl, unpackT h3 hk k1 k2 k5⟩)
  · exact unpack_textsG bv l w hb hl kk k1 k2 k5 k6 _ hnum 0 none (by rw [e]; rfl) (by omega) (.inr ⟨rfl, rfl, hu⟩)
theorem unpack_empty (bv : Value) (w : World) (hb : SliceOf rByte w bv []) : Calls Try.prog 23 #[bv] w (UPost [] w) :=
  unpack_textsG bv [] w hb (by simp) 0 (by omega) (by omega) (by omega) (by omega) none rfl 0 none rfl (by omega) (.inr ⟨rfl, rfl, rfl⟩)
end Go.Proofs.Ythclkljdnmokcaa
