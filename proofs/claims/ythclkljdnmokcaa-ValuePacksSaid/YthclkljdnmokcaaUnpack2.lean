/-
  value.Unpack of pairs, walked.
-/
import Derived.Test.YthclkljdnmokcaaUnpackH
set_option linter.unusedVariables false
set_option linter.unusedSimpArgs false
namespace Go.Proofs.Ythclkljdnmokcaa
open Go.RowKit Go.Proofs
attribute [local go_sem ↓] Go.wp_at_zero Go.wp_at_succ

set_option maxRecDepth 100000 in
set_option maxHeartbeats 8000000 in
theorem unpack_pairs (bv : Value) (l : List UInt8) (w : World) (hb : SliceOf rByte w bv l) (hl : l.length ≤ 100000000) (h1 : 1 ≤ l.length) (hk : bNum (l.take 1) = 2) :
    Calls Try.prog 23 #[bv] w (UPost l w) := by
  have hnum := num_one l h1
  rw [hk] at hnum
  obtain ⟨n, s2, hn2, hnl, hor⟩ : ∃ (n : Nat) (s2 : Option Nat), numB l (some 1) 2 = ((n : Int), s2) ∧ n < 65536 ∧ ((s2 = some 3 ∧ unpackB l = rightOr ((many (pairAt l) n 3).map fun r => (⟨2, ByteArray.empty, r.1, [], []⟩, r.2))) ∨ (s2 = none ∧ n = 0 ∧ unpackB l = none)) := by
    rcases num_two l with ⟨e, h3, hlt⟩ | ⟨e, hu⟩
    · exact ⟨_, _, e, hlt, .inl ⟨rfl, unpack2 h3 hk⟩⟩
    · exact ⟨0, none, by rw [e]; rfl, by omega, .inr ⟨rfl, rfl, hu⟩⟩
  have Hnum := Lib.hid hnum
  have Hn2 := Lib.hid hn2
  have Hor := Lib.hid hor
  have hW0 : Ext w (w.alloc (.cells #[.int .i64 0, .string ⟨#[]⟩, .slice none 0 0, .slice none 0 0, .slice none 0 0] 30)) := (Ext.refl w).alloc _
  have HZ := Lib.hid (zbox_new w (ty := 30))
  have HW0 := Lib.hid hW0
  have hb0 := hb.mono rByte_mono hW0
  have HS0 : Hid ((w.alloc (.cells #[.int .i64 0, .string ⟨#[]⟩, .slice none 0 0, .slice none 0 0, .slice none 0 0] 30)).heap.size = w.heap.size + 1) := Lib.hid (by simp)
  obtain ⟨ba, bc, rfl, hbl, hbc⟩ := len_of' hb
  clear hnum hn2 hor hW0 hb hk h1
  go_enter Try.func23, Try.ntmps23
  go_wp2_with fail
  generalize w.alloc (.cells #[.int .i64 0, .string ⟨#[]⟩, .slice none 0 0, .slice none 0 0, .slice none 0 0] 30) = W0 at HZ HW0 HS0 hb0 ⊢
  have hr0 := rd_new W0 (g := w.heap.size + 1) HS0.out.symm _ l hb0 (ty := 81)
  refine (num_any (w.heap.size + 1) _ l (some 0) 1 W0 _ hr0 (by omega)).mono ?_
  rintro e w1 ⟨rfl, hr1, hf1⟩
  rw [Hnum.out] at hr1 ⊢
  simp only
  have hs1 : w.heap.size + 1 < w1.heap.size := by have h1 := hf1.size; have h2 := HS0.out; simp at h1; omega
  have Hs1 := Lib.hid hs1
  have Hr1 := Lib.hid hr1
  clear hr0 hr1 hf1
  go_wp2_with fail
  have hxa : Ext w1 (w1.alloc (.cells #[.int .i64 2, .string ⟨#[]⟩, .slice none 0 0, .slice none 0 0, .slice none 0 0] 30)) := (Ext.refl w1).alloc _
  have hu1 := unv_new w1 rfl 2 (ty := 30)
  refine (num_any (w.heap.size + 1) _ l (some 1) 2 W0 _ (Hr1.out.later hxa) (by omega)).mono ?_
  rintro e w2 ⟨rfl, hr2, hf2⟩
  rw [Hn2.out] at hr2 ⊢
  simp only
  have hu2 := hu1.keep hf2 (by have := Hs1.out; simp; omega)
  have Hu2 := Lib.hid hu2
  have Hr2 := Lib.hid hr2
  clear hu1 hu2 hr2 hf2 hxa
  go_wp2_with fail
  go_loopw [8] (fun i wr => ∃ (k : Nat) (s : Option Nat) (P : List (ByteArray × ByteArray)) (p : Value), i = .int .i64 (k : Int) ∧ k ≤ n ∧ RdO (w.heap.size + 1) W0 wr (.slice ba l.length bc) l s ∧ UnV w1.heap.size wr ⟨2, ByteArray.empty, P, [], []⟩ p (.slice none 0 0) (.slice none 0 0) ∧ Own rPr (w1.heap.size + 1) 43 wr p P ∧ P.length ≤ k ∧
    ((∃ q, s = some q ∧ many (pairAt l) k 3 = some (P, q) ∧ unpackB l = rightOr ((many (pairAt l) n 3).map fun r => (⟨2, ByteArray.empty, r.1, [], []⟩, r.2))) ∨ (s = none ∧ unpackB l = none))) (fun i _ => n - (intOf i).toNat)
  case atStart =>
    refine ⟨0, s2, [], .slice none 0 0, rfl, by omega, Hr2.out, Hu2.out, Own.nil _ _ _ _, by simp, ?_⟩
    rcases Hor.out with ⟨e, hu⟩ | ⟨e, _, hu⟩
    · exact .inl ⟨3, e, rfl, hu⟩
    · exact .inr ⟨e, hu⟩
  case round =>
    obtain ⟨k, s, P, p, rfl, hkn, hr, hu, ho, hPk, hst⟩ := hrel
    rcases hst with ⟨q, rfl, hmany, hunp⟩ | ⟨rfl, hunp⟩
    · have Hr := Lib.hid hr
      have Hu := Lib.hid hu
      have Ho := Lib.hid ho
      have Hm := Lib.hid hmany
      have Hun := Lib.hid hunp
      have bad := (show RdSt _ _ _ _ _ q false from hr).c2
      clear hr hu ho hmany hunp
      by_cases hlt : k < n
      · go_wp2_with fail
        refine (thing_pair (w.heap.size + 1) w1.heap.size _ l (some q) W0 _ ByteArray.empty P p Hr.out Hs1.out Hu.out Ho.out (by omega)).mono ?_
        rintro e w3 ⟨⟨u, rfl⟩, hr3, p3, hu3, ho3⟩
        have hstep := many_snd (pairAt l) Hm.out
        have hcase : (∃ q', (wordO l (wordO l (some q)).2).2 = some q' ∧ many (pairAt l) (k + 1) 3 = some (P ++ [((wordO l (some q)).1, (wordO l (wordO l (some q)).2).1)], q')) ∨ ((wordO l (wordO l (some q)).2).2 = none ∧ unpackB l = none) := by
          unfold pairAt at hstep
          rw [wordO_some]
          cases h1 : wordAt l q with
          | none =>
            rw [h1] at hstep
            right
            refine ⟨rfl, ?_⟩
            rw [Hun.out, many_none (pairAt l) 3 (i := k + 1) hstep (by omega)]
            rfl
          | some r =>
            obtain ⟨a, q1⟩ := r
            rw [h1] at hstep
            simp only [Option.bind_some] at hstep ⊢
            rw [wordO_some]
            cases h2 : wordAt l q1 with
            | none =>
              rw [h2] at hstep
              right
              refine ⟨rfl, ?_⟩
              rw [Hun.out, many_none (pairAt l) 3 (i := k + 1) hstep (by omega)]
              rfl
            | some r2 =>
              obtain ⟨b, q2⟩ := r2
              rw [h2] at hstep
              left
              exact ⟨q2, rfl, hstep⟩
        have hun2 : (∃ q', (wordO l (wordO l (some q)).2).2 = some q' ∧ many (pairAt l) (k + 1) 3 = some (P ++ [((wordO l (some q)).1, (wordO l (wordO l (some q)).2).1)], q') ∧ unpackB l = rightOr ((many (pairAt l) n 3).map fun r => (⟨2, ByteArray.empty, r.1, [], []⟩, r.2))) ∨ ((wordO l (wordO l (some q)).2).2 = none ∧ unpackB l = none) := by
          rcases hcase with ⟨q', e1, e2⟩ | h
          · exact .inl ⟨q', e1, e2, Hun.out⟩
          · exact .inr h
        have Hres := Lib.hid hun2
        have Hr3 := Lib.hid hr3
        have Hu3 := Lib.hid hu3
        have Ho3 := Lib.hid ho3
        clear hr3 hu3 ho3 hstep hcase hun2 bad
        go_wp2_with fail
        exact ⟨⟨k + 1, _, _, _, by go_num, by omega, Hr3.out, Hu3.out, Ho3.out, by simp; omega, Hres.out⟩, by simp [intOf]; omega⟩
      · obtain rfl : k = n := by omega
        obtain ⟨pa, pc, rfl, hpl, hpm⟩ := len_of' Ho.out.slice
        have hst : RdSt (w.heap.size + 1) W0 wr (.slice ba l.length bc) l q false := Hr.out
        obtain ⟨⟨r0, r1, r2, r3, r4⟩, rlt, rf⟩ := HZ.out.mono hst.ext
        have hat := hst.c1
        obtain ⟨⟨u0, u1, u2, u3, u4⟩, _, hult⟩ := Hu.out
        simp only at u0 u1
        have Hparts : Hid (Parts wr (.slice pa P.length pc) (.slice none 0 0) (.slice none 0 0) ⟨2, ByteArray.empty, P, [], []⟩) := Lib.hid ⟨Ho.out.slice, sliceOf_nil _ _, sliceOf_nil _ _⟩
        have Hxw := Lib.hid hst.ext
        clear hst rf rlt r0 r1 r2 r3 r4
        go_wp2_with fail
        refine (vright_any ⟨2, ByteArray.empty, P, [], []⟩ _ _ _ _ Hparts.out (show ByteArray.empty.size ≤ maxLen by decide) (by simp) (by simp)).mono ?_
        rintro e w5 ⟨rfl, hx5⟩
        have hat5 := hx5.cell hat
        have v0 := hx5.cell u0
        have v1 := hx5.cell u1
        have v2 := hx5.cell u2
        have v3 := hx5.cell u3
        have v4 := hx5.cell u4
        obtain ⟨⟨r0, r1, r2, r3, r4⟩, rlt, rf⟩ := HZ.out.mono (Hxw.out.then hx5)
        have rf0 := rf 0
        have rf1 := rf 1
        have rf2 := rf 2
        have rf3 := rf 3
        have rf4 := rf 4
        have Hx5 := Lib.hid (Hxw.out.then hx5)
        have Ho5 := Lib.hid (Ho.out.mono rPr_mono hx5)
        have hun := Hun.out
        rw [Hm.out] at hun
        have Hun2 := Lib.hid hun
        clear rf hx5 hat u0 u1 u2 u3 u4 bad hun
        cases hrv : rightV ⟨2, ByteArray.empty, P, [], []⟩ with
        | false =>
          have Hno : Hid (unpackB l = none) := Lib.hid (by rw [Hun2.out]; simp [rightOr, hrv])
          clear hrv
          go_wp2_with fail
          obtain ⟨d0, d1, d2, d3, d4⟩ := set5_cells r0 r1 r2 r3 r4 (.int .i64 0) (.string ⟨#[]⟩) (.slice none 0 0) (.slice none 0 0) (.slice none 0 0)
          exact unpack_fin (x := zeroV) d0 d1 d2 d3 d4 ⟨sliceOf_nil _ _, sliceOf_nil _ _, sliceOf_nil _ _⟩ (by decide) (by decide) (resU_none Hno.out) (set5_ext (HW0.out.then Hx5.out) (Nat.le_refl _) _ _ _ _ _)
        | true =>
          have Hyes : Hid (unpackB l = some (⟨2, ByteArray.empty, P, [], []⟩, q)) := Lib.hid (by rw [Hun2.out]; simp [rightOr, hrv])
          clear hrv
          go_wp2_with fail
          go_region
          all_goals
            go_wp2_with fail
            obtain ⟨d0, d1, d2, d3, d4⟩ := set5_cells r0 r1 r2 r3 r4 (.int .i64 2) (.string ByteArray.empty) (.slice pa P.length pc) (.slice none 0 0) (.slice none 0 0)
            have ho6 := (Ho5.out.grow rPr_flat (set5_grown w5 w.heap.size (.int .i64 2) (.string ByteArray.empty) (.slice pa P.length pc) (.slice none 0 0) (.slice none 0 0)) (by have := Hs1.out; omega)).mono rPr_mono (Ext.refl _).drew
            exact unpack_fin (x := ⟨2, ByteArray.empty, P, [], []⟩) ((Ext.refl _).drew.cell d0) ((Ext.refl _).drew.cell d1) ((Ext.refl _).drew.cell d2) ((Ext.refl _).drew.cell d3) ((Ext.refl _).drew.cell d4) ⟨ho6.slice, sliceOf_nil _ _, sliceOf_nil _ _⟩ (show (Lit.int .i64 2).wf = true by decide) (show ByteArray.empty.size ≤ maxLen by decide) (resU_some Hyes.out) (set5_ext (HW0.out.then Hx5.out) (Nat.le_refl _) _ _ _ _ _).drew
    · have Hno := Lib.hid hunp
      have Hr := Lib.hid hr
      clear hr hunp hu ho
      by_cases hlt : k < n
      · obtain ⟨⟨r0, r1, r2, r3, r4⟩, rlt, rf⟩ := HZ.out.mono Hr.out.ext
        obtain ⟨q, hst⟩ := Hr.out
        have bad := hst.c2
        have rf0 := rf 0
        have rf1 := rf 1
        have rf2 := rf 2
        have rf3 := rf 3
        have rf4 := rf 4
        clear hst rf
        go_wp2_with fail
        obtain ⟨d0, d1, d2, d3, d4⟩ := set5_cells r0 r1 r2 r3 r4 (.int .i64 0) (.string ⟨#[]⟩) (.slice none 0 0) (.slice none 0 0) (.slice none 0 0)
        exact unpack_fin (x := zeroV) d0 d1 d2 d3 d4 ⟨sliceOf_nil _ _, sliceOf_nil _ _, sliceOf_nil _ _⟩ (by decide) (by decide) (resU_none Hno.out) (set5_ext (HW0.out.then Hr.out.ext) (Nat.le_refl _) _ _ _ _ _)
      · obtain ⟨⟨r0, r1, r2, r3, r4⟩, rlt, rf⟩ := HZ.out.mono Hr.out.ext
        obtain ⟨q, hst⟩ := Hr.out
        have bad := hst.c2
        have rf0 := rf 0
        have rf1 := rf 1
        have rf2 := rf 2
        have rf3 := rf 3
        have rf4 := rf 4
        clear hst rf
        go_wp2_with fail
        obtain ⟨d0, d1, d2, d3, d4⟩ := set5_cells r0 r1 r2 r3 r4 (.int .i64 0) (.string ⟨#[]⟩) (.slice none 0 0) (.slice none 0 0) (.slice none 0 0)
        exact unpack_fin (x := zeroV) d0 d1 d2 d3 d4 ⟨sliceOf_nil _ _, sliceOf_nil _ _, sliceOf_nil _ _⟩ (by decide) (by decide) (resU_none Hno.out) (set5_ext (HW0.out.then Hr.out.ext) (Nat.le_refl _) _ _ _ _ _)
end Go.Proofs.Ythclkljdnmokcaa
