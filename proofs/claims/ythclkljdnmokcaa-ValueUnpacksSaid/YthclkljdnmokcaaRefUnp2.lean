/-
  The reference's Unpack of pairs, walked.
-/
import Derived.Test.YthclkljdnmokcaaRefUnpH
set_option linter.unusedVariables false
set_option linter.unusedSimpArgs false
namespace Go.Proofs.Ythclkljdnmokcaa
open Go.RowKit Go.Proofs

theorem wordAt_le {l : List UInt8} {i : Nat} {r : ByteArray × Nat} (h : wordAt l i = some r) : r.2 ≤ l.length ∧ r.1.size ≤ 65535 := by
  unfold wordAt at h
  split at h
  · split at h
    · cases h
      have := two_lt l i
      refine ⟨by simp only; omega, ?_⟩
      simp only [ByteArray.size, List.size_toArray, List.length_take]
      omega
    · cases h
  · cases h
theorem wordI_le (l : List UInt8) (i : Int) : -1 ≤ (wordI l i).2 ∧ (wordI l i).2 ≤ l.length ∧ (wordI l i).1.size ≤ 65535 := by
  unfold wordI
  split
  · exact ⟨by simp, by simp only; omega, by decide⟩
  · cases h : wordAt l i.toNat with
    | none => exact ⟨by simp, by simp only; omega, by decide⟩
    | some r => have := wordAt_le h; exact ⟨by simp only; omega, by simp only; omega, by simp only; omega⟩
set_option maxRecDepth 100000 in
set_option maxHeartbeats 8000000 in
theorem refunpack_pairs (bv : Value) (l : List UInt8) (w : World) (hb : SliceOf rByte w bv l) (hl : l.length ≤ 100000000) (h3 : 3 ≤ l.length) (hk : bNum (l.take 1) = 2) :
    Calls Try.prog 24 #[bv] w (RPost l w) := by
  obtain ⟨ba, bc, rfl, hbl, hbc⟩ := len_of' hb
  obtain ⟨x0, hx0⟩ : ∃ x, l[0]? = some x := ⟨_, List.getElem?_eq_getElem (by omega)⟩
  obtain ⟨x1, hx1⟩ : ∃ x, l[1]? = some x := ⟨_, List.getElem?_eq_getElem (by omega)⟩
  obtain ⟨x2, hx2⟩ : ∃ x, l[2]? = some x := ⟨_, List.getElem?_eq_getElem (by omega)⟩
  obtain ⟨g, o, u, rfl, m0, hcu⟩ := hb.at1 rfl hx0
  cases hcu
  obtain ⟨g1, o1, u, e1, m1, hcu⟩ := hb.at1 rfl hx1
  cases hcu
  obtain ⟨g2, o2, u, e2, m2, hcu⟩ := hb.at1 rfl hx2
  cases hcu
  obtain ⟨rfl, rfl⟩ : g = g1 ∧ o = o1 := by simpa using e1
  obtain ⟨rfl, rfl⟩ : g = g2 ∧ o = o2 := by simpa using e2
  rw [Nat.add_zero] at m0
  have hk0 := bNum_first hx0
  rw [hk] at hk0
  have hkk : (x0.toNat : Int) = 2 := by omega
  rw [hkk] at m0
  have hn := two_at hx1 hx2
  have hlt := two_lt l 1
  obtain ⟨n, hnn⟩ : ∃ n, x1.toNat * 256 + x2.toNat = n := ⟨_, rfl⟩
  rw [hnn] at hn
  rw [hn] at hlt
  have hni : (x1.toNat : Int) * 256 + (x2.toNat : Int) = (n : Int) := by omega
  have hx1l := x1.toNat_lt
  have hx2l := x2.toNat_lt
  have Hun : Hid (unpackB l = rightOr ((many (pairAt l) n 3).map fun r => (⟨2, ByteArray.empty, r.1, [], []⟩, r.2))) := Lib.hid (by rw [unpack2 h3 hk, hn])
  have hd : decide ((l.length : Int) < 3) = false := decide_eq_false (by omega)
  have hW0 : Ext w (w.alloc (.cells #[.int .i64 0, .string ⟨#[]⟩, .slice none 0 0, .slice none 0 0, .slice none 0 0] 30)) := (Ext.refl w).alloc _
  have HZ := Lib.hid (zbox_new w (ty := 30))
  have HW0 := Lib.hid hW0
  have HB0 := Lib.hid (hb.mono rByte_mono hW0)
  have HS0 : Hid ((w.alloc (.cells #[.int .i64 0, .string ⟨#[]⟩, .slice none 0 0, .slice none 0 0, .slice none 0 0] 30)).heap.size = w.heap.size + 1) := Lib.hid (by simp)
  have M0 := hW0.cell m0
  have M1 := hW0.cell m1
  have M2 := hW0.cell m2
  have hxa := (Ext.refl (w.alloc (.cells #[.int .i64 0, .string ⟨#[]⟩, .slice none 0 0, .slice none 0 0, .slice none 0 0] 30))).alloc (.cells #[.int .i64 2, .string ⟨#[]⟩, .slice none 0 0, .slice none 0 0, .slice none 0 0] 30)
  have N1 := hxa.cell M1
  have N2 := hxa.cell M2
  clear hW0 hb hk hx0 hx1 hx2 e1 e2 hn hk0 hkk m0 m1 m2
  generalize hWW : w.alloc (.cells #[.int .i64 0, .string ⟨#[]⟩, .slice none 0 0, .slice none 0 0, .slice none 0 0] 30) = W0 at HZ HW0 HS0 HB0 M0 M1 M2 hxa N1 N2
  go_enter Try.func24, Try.ntmps24
  go_wp2_with fail
  go_quiet (fail)
  go_wp2_with fail
  have Hu0 := Lib.hid ((unv_new W0 rfl 2 (ty := 30)))
  have Hxa := Lib.hid hxa
  clear hWW hxa N1 N2 M0 M1 M2
  go_loopw [6, 7, 8, 9, 10, 11] (fun at_ i _ _ _ _ wr => ∃ (k : Nat) (ai : Int) (P : List (ByteArray × ByteArray)) (p : Value), i = .int .i64 (k : Int) ∧ at_ = .int .i64 ai ∧ k ≤ n ∧ Ext W0 wr ∧ UnV W0.heap.size wr ⟨2, ByteArray.empty, P, [], []⟩ p (.slice none 0 0) (.slice none 0 0) ∧ Own rPr (W0.heap.size + 1) 43 wr p P ∧ P.length ≤ k ∧
    ((∃ q : Nat, ai = (q : Int) ∧ q ≤ l.length ∧ many (pairAt l) k 3 = some (P, q)) ∨ (ai = -1 ∧ unpackB l = none))) (fun _ i _ _ _ _ _ => n - (intOf i).toNat)
  case atStart =>
    exact ⟨0, 3, [], .slice none 0 0, rfl, rfl, by omega, Hxa.out.drewN _, Hu0.out.later ((Ext.refl _).drewN _), Own.nil _ _ _ _, by simp, .inl ⟨3, rfl, h3, rfl⟩⟩
  case round =>
    obtain ⟨k, ai, P, p, rfl, rfl, hkn, hx, hu, ho, hPk, hst⟩ := hrel
    have Hx := Lib.hid hx
    have Hu := Lib.hid hu
    have Ho := Lib.hid ho
    have c0 := hu.box.c0
    clear hx hu ho
    rcases hst with ⟨q, rfl, hql, hmany⟩ | ⟨rfl, hunp⟩
    · have Hm := Lib.hid hmany
      clear hmany
      have hdq : decide ((0 : Int) ≤ (q : Int)) = true := decide_eq_true (by omega)
      by_cases hlt : k < n
      · go_wp2_with fail
        refine (refword_any _ l q _ (HB0.out.mono rByte_mono Hx.out) hl ⟨by omega, by omega⟩).mono ?_
        rintro e w2 ⟨rfl, hx2⟩
        obtain ⟨a1, ha1⟩ : ∃ a, (wordI l q).1 = a := ⟨_, rfl⟩
        obtain ⟨i1, hi1⟩ : ∃ a, (wordI l q).2 = a := ⟨_, rfl⟩
        have hwb := wordI_le l q
        rw [ha1, hi1] at hwb ⊢
        obtain ⟨hb1, hb2, hb3⟩ := hwb
        have Ha1 := Lib.hid ha1
        have Hi1 := Lib.hid hi1
        have Hx2 := Lib.hid (Hx.out.then hx2)
        have Hu2 := Lib.hid (Hu.out.later hx2)
        have Ho2 := Lib.hid (Ho.out.mono rPr_mono hx2)
        clear hx2 ha1 hi1 c0
        go_wp2_with fail
        refine (refword_any _ l i1 _ (HB0.out.mono rByte_mono Hx2.out) hl ⟨by omega, by omega⟩).mono ?_
        rintro e w3 ⟨rfl, hx3⟩
        obtain ⟨a2, ha2⟩ : ∃ a, (wordI l i1).1 = a := ⟨_, rfl⟩
        obtain ⟨i2, hi2⟩ : ∃ a, (wordI l i1).2 = a := ⟨_, rfl⟩
        have hwb := wordI_le l i1
        rw [ha2, hi2] at hwb ⊢
        obtain ⟨hb4, hb5, hb6⟩ := hwb
        have Ha2 := Lib.hid ha2
        have Hi2 := Lib.hid hi2
        have Hx3 := Lib.hid (Hx2.out.then hx3)
        have Hu3 := Lib.hid (Hu2.out.later hx3)
        have Ho3 := Lib.hid (Ho2.out.mono rPr_mono hx3)
        clear hx3 ha2 hi2
        obtain ⟨pa, pc, rfl, hpl, hpm⟩ := len_of' Ho3.out.slice
        obtain ⟨⟨u0, _, u2, _, _⟩, hf, hult⟩ := Hu3.out
        have f2 := hf 2
        have hne : some W0.heap.size ≠ (Value.slice pa P.length pc).ownBlock := fun e => by have := Ho3.out.lt W0.heap.size e.symm; omega
        have HA : Hid (P.length + [(a1, a2)].length ≤ maxLen) := Lib.hid (by unfold maxLen; simp; omega)
        have HB : Hid ((P.length + [(a1, a2)].length) * 32 ≤ 140737488355328) := Lib.hid (by simp; omega)
        have HZ1 : Hid (a1.size ≤ maxLen) := Lib.hid (by unfold maxLen; omega)
        have HZ2 : Hid (a2.size ≤ maxLen) := Lib.hid (by unfold maxLen; omega)
        have Hult := Lib.hid hult
        have hnn := World.new_ne w3 _ u2
        clear hf u0
        go_wp2_with (at_builtin; (refine append_law rfl (.tmp 104) (.tmp 108) rfl el_P rPr_one (.slice pa P.length pc) P rfl (Ho3.out.mono rPr_mono ((Ext.refl w3).alloc _)) _ [(a1, a2)] rfl (one_pair w3 rfl a1 a2 HZ1.out HZ2.out) (fun _ _ _ _ _ h => h) HA.out HB.out (by have := Hult.out; simp; omega) ?_); intro v1 w4 hown1 hgrow; obtain ⟨A1, C1, hv1, _, _, _, _⟩ := id hown1.slice; subst hv1; have hU4 := (Hu3.out.later ((Ext.refl w3).alloc (.cells #[.string a1, .string a2] 43))).keep hgrow hne; obtain ⟨⟨_, _, q2, _, _⟩, hf4, hlt4⟩ := id hU4; have q2f := hf4 2; clear hf4)
        have hx4 : Ext W0 w4 := (Hx3.out.then ((Ext.refl w3).alloc (.cells #[.string a1, .string a2] 43))).grown hgrow (Hx3.out.then ((Ext.refl w3).alloc (.cells #[.string a1, .string a2] 43))).size (fun z hz => by have := Ho3.out.lt z hz; omega)
        rw [show (P ++ [(a1, a2)]).length = P.length + 1 by simp] at hown1
        refine ⟨⟨k + 1, i2, P ++ [(a1, a2)], .slice A1 (P.length + 1) C1, by go_num, rfl, by omega, Below.setCell hx4 (p := ⟨W0.heap.size, 2, none⟩) (Nat.le_refl _) _, hU4.set2 _ _, hown1.far rPr_flat (fun e => by have := hown1.lt _ e; simp at this; omega) _, by simp; omega, ?_⟩, by simp [intOf]; omega⟩
        have hstep := many_snd (pairAt l) Hm.out
        have hA1 := Ha1.out
        have hI1 := Hi1.out
        have hA2 := Ha2.out
        have hI2 := Hi2.out
        unfold pairAt at hstep
        rw [wordI_nat] at hA1 hI1
        cases h1 : wordAt l q with
        | none =>
          rw [h1] at hstep hI1
          simp only at hI1
          right
          refine ⟨by rw [← hI2, ← hI1, wordI_neg], ?_⟩
          rw [Hun.out, many_none (pairAt l) 3 (i := k + 1) hstep (by omega)]
          rfl
        | some r =>
          obtain ⟨a, q1⟩ := r
          rw [h1] at hstep hI1 hA1
          simp only [Option.bind_some] at hstep hI1 hA1
          rw [← hI1, wordI_nat] at hA2 hI2
          cases h2 : wordAt l q1 with
          | none =>
            rw [h2] at hstep hI2
            simp only at hI2
            right
            refine ⟨hI2.symm, ?_⟩
            rw [Hun.out, many_none (pairAt l) 3 (i := k + 1) hstep (by omega)]
            rfl
          | some r2 =>
            obtain ⟨b, q2⟩ := r2
            have hle := wordAt_le h2
            rw [h2] at hstep hI2 hA2
            simp only at hI2 hA2 hle
            left
            refine ⟨q2, hI2.symm, hle.1, ?_⟩
            rw [← hA1, ← hA2]
            exact hstep
      · obtain rfl : k = n := by omega
        obtain ⟨pa, pc, rfl, hpl, hpm⟩ := len_of' Ho.out.slice
        obtain ⟨⟨u0, u1, u2, u3, u4⟩, _, hult⟩ := Hu.out
        simp only at u0 u1
        have Hparts : Hid (Parts wr (.slice pa P.length pc) (.slice none 0 0) (.slice none 0 0) ⟨2, ByteArray.empty, P, [], []⟩) := Lib.hid ⟨Ho.out.slice, sliceOf_nil _ _, sliceOf_nil _ _⟩
        clear c0
        go_wp2_with fail
        refine (right14_any ⟨2, ByteArray.empty, P, [], []⟩ _ _ _ _ Hparts.out (show ByteArray.empty.size ≤ maxLen by decide)).mono ?_
        rintro e w5 ⟨rfl, hx5⟩
        have v0 := hx5.cell u0
        have v1 := hx5.cell u1
        have v2 := hx5.cell u2
        have v3 := hx5.cell u3
        have v4 := hx5.cell u4
        obtain ⟨⟨r0, r1, r2, r3, r4⟩, rlt, rf⟩ := HZ.out.mono (Hx.out.then hx5)
        have rf0 := rf 0
        have rf1 := rf 1
        have rf2 := rf 2
        have rf3 := rf 3
        have rf4 := rf 4
        have Hx5 := Lib.hid (Hx.out.then hx5)
        have Ho5 := Lib.hid (Ho.out.mono rPr_mono hx5)
        have hun := Hun.out
        rw [Hm.out] at hun
        have Hun2 := Lib.hid hun
        clear rf hx5 u0 u1 u2 u3 u4 hun
        cases hrv : rightV ⟨2, ByteArray.empty, P, [], []⟩ with
        | false =>
          have Hno : Hid (unpackB l = none) := Lib.hid (by rw [Hun2.out]; simp [rightOr, hrv])
          clear hrv
          go_wp2_with fail
          obtain ⟨d0, d1, d2, d3, d4⟩ := set5_cells r0 r1 r2 r3 r4 (.int .i64 0) (.string ⟨#[]⟩) (.slice none 0 0) (.slice none 0 0) (.slice none 0 0)
          exact refunpack_fin (x := zeroV) d0 d1 d2 d3 d4 ⟨sliceOf_nil _ _, sliceOf_nil _ _, sliceOf_nil _ _⟩ (by decide) (by decide) (resU_none Hno.out) (set5_ext (HW0.out.then Hx5.out) (Nat.le_refl _) _ _ _ _ _)
        | true =>
          have Hyes : Hid (unpackB l = some (⟨2, ByteArray.empty, P, [], []⟩, q)) := Lib.hid (by rw [Hun2.out]; simp [rightOr, hrv])
          clear hrv
          go_wp2_with fail
          obtain ⟨d0, d1, d2, d3, d4⟩ := set5_cells r0 r1 r2 r3 r4 (.int .i64 2) (.string ByteArray.empty) (.slice pa P.length pc) (.slice none 0 0) (.slice none 0 0)
          have ho6 := Ho5.out.grow rPr_flat (set5_grown w5 w.heap.size (.int .i64 2) (.string ByteArray.empty) (.slice pa P.length pc) (.slice none 0 0) (.slice none 0 0)) (by have := HS0.out; omega)
          exact refunpack_fin (x := ⟨2, ByteArray.empty, P, [], []⟩) d0 d1 d2 d3 d4 ⟨ho6.slice, sliceOf_nil _ _, sliceOf_nil _ _⟩ (show (Lit.int .i64 2).wf = true by decide) (show ByteArray.empty.size ≤ maxLen by decide) (resU_some Hyes.out) (set5_ext (HW0.out.then Hx5.out) (Nat.le_refl _) _ _ _ _ _)
    · have Hno := Lib.hid hunp
      clear hunp c0
      by_cases hlt : k < n
      · obtain ⟨⟨r0, r1, r2, r3, r4⟩, rlt, rf⟩ := HZ.out.mono Hx.out
        have rf0 := rf 0
        have rf1 := rf 1
        have rf2 := rf 2
        have rf3 := rf 3
        have rf4 := rf 4
        clear rf
        go_wp2_with fail
        obtain ⟨d0, d1, d2, d3, d4⟩ := set5_cells r0 r1 r2 r3 r4 (.int .i64 0) (.string ⟨#[]⟩) (.slice none 0 0) (.slice none 0 0) (.slice none 0 0)
        exact refunpack_fin (x := zeroV) d0 d1 d2 d3 d4 ⟨sliceOf_nil _ _, sliceOf_nil _ _, sliceOf_nil _ _⟩ (by decide) (by decide) (resU_none Hno.out) (set5_ext (HW0.out.then Hx.out) (Nat.le_refl _) _ _ _ _ _)
      · obtain ⟨⟨r0, r1, r2, r3, r4⟩, rlt, rf⟩ := HZ.out.mono Hx.out
        have rf0 := rf 0
        have rf1 := rf 1
        have rf2 := rf 2
        have rf3 := rf 3
        have rf4 := rf 4
        clear rf
        go_wp2_with fail
        obtain ⟨d0, d1, d2, d3, d4⟩ := set5_cells r0 r1 r2 r3 r4 (.int .i64 0) (.string ⟨#[]⟩) (.slice none 0 0) (.slice none 0 0) (.slice none 0 0)
        exact refunpack_fin (x := zeroV) d0 d1 d2 d3 d4 ⟨sliceOf_nil _ _, sliceOf_nil _ _, sliceOf_nil _ _⟩ (by decide) (by decide) (resU_none Hno.out) (set5_ext (HW0.out.then Hx.out) (Nat.le_refl _) _ _ _ _ _)
end Go.Proofs.Ythclkljdnmokcaa
