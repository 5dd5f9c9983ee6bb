/-
  The reference's Unpack of members, walked.
-/
import Derived.Test.YthclkljdnmokcaaRefUnpT
set_option linter.unusedVariables false
set_option linter.unusedSimpArgs false
namespace Go.Proofs.Ythclkljdnmokcaa
open Go.RowKit Go.Proofs

set_option maxRecDepth 100000 in
set_option maxHeartbeats 8000000 in
theorem refunpack_members (bv : Value) (l : List UInt8) (w : World) (hb : SliceOf rByte w bv l) (hl : l.length ≤ 100000000) (h3 : 3 ≤ l.length) (hk : bNum (l.take 1) = 5) :
    Calls Try.prog 24 #[bv] w (RPost l w) := by
  obtain ⟨ba, bc, rfl, hbl, hbc⟩ := len_of' hb
  obtain ⟨x0, hx0⟩ : ∃ x, l[0]? = some x := ⟨_, List.getElem?_eq_getElem (by omega)⟩
  obtain ⟨x1, hx1⟩ : ∃ x, l[1]? = some x := ⟨_, List.getElem?_eq_getElem (by omega)⟩
  obtain ⟨x2, hx2⟩ : ∃ x, l[2]? = some x := ⟨_, List.getElem?_eq_getElem (by omega)⟩
  obtain ⟨g, o, u, rfl, m0, hcu⟩ := hb.at1 rfl hx0
  cases hcu
  obtain ⟨g1, o1, u, e1, m1, hcu⟩ := hb.at1 rfl hx1
  cases hcu
  obtain ⟨g2, o2, u, e2, m2, hcu⟩ := hb.at1 rfl hx2
  cases hcu
  obtain ⟨rfl, rfl⟩ : g = g1 ∧ o = o1 := by simpa using e1
  obtain ⟨rfl, rfl⟩ : g = g2 ∧ o = o2 := by simpa using e2
  rw [Nat.add_zero] at m0
  have hk0 := bNum_first hx0
  rw [hk] at hk0
  have hkk : (x0.toNat : Int) = 5 := by omega
  rw [hkk] at m0
  have hn := two_at hx1 hx2
  have hlt := two_lt l 1
  obtain ⟨n, hnn⟩ : ∃ n, x1.toNat * 256 + x2.toNat = n := ⟨_, rfl⟩
  rw [hnn] at hn
  rw [hn] at hlt
  have hni : (x1.toNat : Int) * 256 + (x2.toNat : Int) = (n : Int) := by omega
  have hx1l := x1.toNat_lt
  have hx2l := x2.toNat_lt
  have Hun : Hid (unpackB l = rightOr ((many (membAt l) n 3).map fun r => (⟨5, ByteArray.empty, [], [], r.1⟩, r.2))) := Lib.hid (by rw [unpack5 h3 hk, hn])
  have hd : decide ((l.length : Int) < 3) = false := decide_eq_false (by omega)
  have hW0 : Ext w (w.alloc (.cells #[.int .i64 0, .string ⟨#[]⟩, .slice none 0 0, .slice none 0 0, .slice none 0 0] 30)) := (Ext.refl w).alloc _
  have HZ := Lib.hid (zbox_new w (ty := 30))
  have HW0 := Lib.hid hW0
  have HB0 := Lib.hid (hb.mono rByte_mono hW0)
  have HS0 : Hid ((w.alloc (.cells #[.int .i64 0, .string ⟨#[]⟩, .slice none 0 0, .slice none 0 0, .slice none 0 0] 30)).heap.size = w.heap.size + 1) := Lib.hid (by simp)
  have M0 := hW0.cell m0
  have M1 := hW0.cell m1
  have M2 := hW0.cell m2
  have hxa := (Ext.refl (w.alloc (.cells #[.int .i64 0, .string ⟨#[]⟩, .slice none 0 0, .slice none 0 0, .slice none 0 0] 30))).alloc (.cells #[.int .i64 5, .string ⟨#[]⟩, .slice none 0 0, .slice none 0 0, .slice none 0 0] 30)
  have N1 := hxa.cell M1
  have N2 := hxa.cell M2
  clear hW0 hb hk hx0 hx1 hx2 e1 e2 hn hk0 hkk m0 m1 m2
  generalize hWW : w.alloc (.cells #[.int .i64 0, .string ⟨#[]⟩, .slice none 0 0, .slice none 0 0, .slice none 0 0] 30) = W0 at HZ HW0 HS0 HB0 M0 M1 M2 hxa N1 N2
  go_enter Try.func24, Try.ntmps24
  go_wp2_with fail
  go_quiet (fail)
  go_wp2_with fail
  have Hu0 := Lib.hid ((unv_new W0 rfl 5 (ty := 30)))
  have Hxa := Lib.hid hxa
  clear hWW hxa N1 N2 M0 M1 M2
  go_loopw [6, 7, 8, 9, 10, 11] (fun at_ i _ _ _ _ wr => ∃ (k : Nat) (ai : Int) (P : List (Int × ByteArray)) (p : Value), i = .int .i64 (k : Int) ∧ at_ = .int .i64 ai ∧ k ≤ n ∧ Ext W0 wr ∧ UnV W0.heap.size wr ⟨5, ByteArray.empty, [], [], P⟩ (.slice none 0 0) (.slice none 0 0) p ∧ Own rMb (W0.heap.size + 1) 45 wr p P ∧ P.length ≤ k ∧
    ((∃ q : Nat, ai = (q : Int) ∧ q ≤ l.length ∧ many (membAt l) k 3 = some (P, q)) ∨ (ai = -1 ∧ unpackB l = none))) (fun _ i _ _ _ _ _ => n - (intOf i).toNat)
  case atStart =>
    exact ⟨0, 3, [], .slice none 0 0, rfl, rfl, by omega, Hxa.out.drewN _, Hu0.out.later ((Ext.refl _).drewN _), Own.nil _ _ _ _, by simp, .inl ⟨3, rfl, h3, rfl⟩⟩
  case round =>
    obtain ⟨k, ai, P, p, rfl, rfl, hkn, hx, hu, ho, hPk, hst⟩ := hrel
    have Hx := Lib.hid hx
    have Hu := Lib.hid hu
    have Ho := Lib.hid ho
    have c0 := hu.box.c0
    clear hx hu ho
    rcases hst with ⟨q, rfl, hql, hmany⟩ | ⟨rfl, hunp⟩
    · have Hm := Lib.hid hmany
      clear hmany
      have hdq : decide ((0 : Int) ≤ (q : Int)) = true := decide_eq_true (by omega)
      by_cases hlt : k < n
      · by_cases h8 : q + 8 ≤ l.length
        case neg =>
          have Hno : Hid (unpackB l = none) := Lib.hid (by
            have hstep := many_snd (membAt l) Hm.out
            have e : membAt l q = none := by unfold membAt; rw [if_neg h8]
            rw [e] at hstep
            rw [Hun.out, many_none (membAt l) 3 (i := k + 1) hstep (by omega)]
            rfl)
          have hw8 : IntKind.i64.wrap ((l.length : Int) - (q : Int)) = (l.length : Int) - (q : Int) := IntWalk.i64_in _ (by omega)
          have hd8 : decide ((l.length : Int) - (q : Int) < 8) = true := decide_eq_true (by omega)
          obtain ⟨⟨r0, r1, r2, r3, r4⟩, rlt, rf⟩ := HZ.out.mono Hx.out
          have rf0 := rf 0
          have rf1 := rf 1
          have rf2 := rf 2
          have rf3 := rf 3
          have rf4 := rf 4
          clear rf
          go_wp2_with fail
          obtain ⟨d0, d1, d2, d3, d4⟩ := set5_cells r0 r1 r2 r3 r4 (.int .i64 0) (.string ⟨#[]⟩) (.slice none 0 0) (.slice none 0 0) (.slice none 0 0)
          exact refunpack_fin (x := zeroV) d0 d1 d2 d3 d4 ⟨sliceOf_nil _ _, sliceOf_nil _ _, sliceOf_nil _ _⟩ (by decide) (by decide) (resU_none Hno.out) (set5_ext (HW0.out.then Hx.out) (Nat.le_refl _) _ _ _ _ _)
        have hw8 : IntKind.i64.wrap ((l.length : Int) - (q : Int)) = (l.length : Int) - (q : Int) := IntWalk.i64_in _ (by omega)
        have hd8 : decide ((l.length : Int) - (q : Int) < 8) = false := decide_eq_false (by omega)
        go_wp2_with fail
        go_loopw [9, 10] (fun u j wq => ∃ m : Nat, u = .int .u64 (bNum ((l.drop q).take m) : Int) ∧ j = .int .i64 (m : Int) ∧ m ≤ 8 ∧ wq = wr) (fun _ j _ => 8 - (intOf j).toNat)
        case atStart => exact ⟨0, rfl, rfl, by omega, rfl⟩
        case round =>
          obtain ⟨m, rfl, rfl, hm8, rfl⟩ := hrel
          by_cases hm : m < 8
          · obtain ⟨x, hx⟩ : ∃ x, l[q + m]? = some x := ⟨_, List.getElem?_eq_getElem (by omega)⟩
            obtain ⟨gx, ox, u, ex, mx, hcu⟩ := (HB0.out.mono rByte_mono Hx.out).at1 rfl hx
            cases hcu
            obtain ⟨rfl, rfl⟩ : g = gx ∧ o = ox := by simpa using ex
            have hxl := x.toNat_lt
            have hbl := bNum_lt ((l.drop q).take m)
            have hbl2 : 256 ^ ((l.drop q).take m).length ≤ 256 ^ 7 := Nat.pow_le_pow_right (by decide) (by simp; omega)
            have hstp := bNum_take_step (l := l.drop q) (k := m) (c := x) (by rw [List.getElem?_drop]; exact hx)
            obtain ⟨B, hB⟩ : ∃ B, bNum ((l.drop q).take m) = B := ⟨_, rfl⟩
            rw [hB] at hstp hbl ⊢
            have hBl : B < 72057594037927936 := by omega
            have Hstp := Lib.hid hstp
            have hqm : ((q + m : Nat) : Int) = (q : Int) + (m : Int) := by omega
            clear hx ex hstp hB hbl hbl2
            go_wp2_with fail
            exact ⟨⟨m + 1, by rw [Hstp.out]; go_num, by go_num, by omega, trivial⟩, by simp [intOf]; omega⟩
          · obtain rfl : m = 8 := by omega
            have hq8 : ((q + 8 : Nat) : Int) = (q : Int) + 8 := by omega
            go_wp2_with fail
            rw [← hq8]
            refine (refword_any _ l ((q + 8 : Nat) : Int) _ (HB0.out.mono rByte_mono Hx.out) hl ⟨by omega, by omega⟩).mono ?_
            rintro e w2 ⟨rfl, hx2⟩
            obtain ⟨a1, ha1⟩ : ∃ a, (wordI l ((q + 8 : Nat) : Int)).1 = a := ⟨_, rfl⟩
            obtain ⟨i1, hi1⟩ : ∃ a, (wordI l ((q + 8 : Nat) : Int)).2 = a := ⟨_, rfl⟩
            have hwb := wordI_le l ((q + 8 : Nat) : Int)
            rw [ha1, hi1] at hwb ⊢
            obtain ⟨hb1, hb2, hb3⟩ := hwb
            have Ha1 := Lib.hid ha1
            have Hi1 := Lib.hid hi1
            have Hx2 := Lib.hid (Hx.out.then hx2)
            have Hu2 := Lib.hid (Hu.out.later hx2)
            have Ho2 := Lib.hid (Ho.out.mono rMb_mono hx2)
            clear hx2 ha1 hi1 c0
            obtain ⟨pa, pc, rfl, hpl, hpm⟩ := len_of' Ho2.out.slice
            obtain ⟨⟨u0, _, _, _, u2⟩, hf, hult⟩ := Hu2.out
            have f2 := hf 4
            have hne : some W0.heap.size ≠ (Value.slice pa P.length pc).ownBlock := fun e => by have := Ho2.out.lt W0.heap.size e.symm; omega
            have HA : Hid (P.length + [(i64Of (bNum ((l.drop q).take 8)), a1)].length ≤ maxLen) := Lib.hid (by unfold maxLen; simp; omega)
            have HB : Hid ((P.length + [(i64Of (bNum ((l.drop q).take 8)), a1)].length) * 24 ≤ 140737488355328) := Lib.hid (by simp; omega)
            have HZ1 : Hid (a1.size ≤ maxLen) := Lib.hid (by unfold maxLen; omega)
            have Hult := Lib.hid hult
            have hnn := World.new_ne w2 _ u2
            clear hf u0
            have hcv : IntKind.i64.wrap ((bNum ((l.drop q).take 8) : Nat) : Int) = i64Of (bNum ((l.drop q).take 8)) := rfl
            have hcv2 : wrap64 ((bNum ((l.drop q).take 8) : Nat) : Int) = i64Of (bNum ((l.drop q).take 8)) := by rw [← hcv, IntWalk.i64_left]
            go_wp2_with (at_builtin; (refine append_law rfl (.tmp 80) (.tmp 85) rfl el_M rMb_one (.slice pa P.length pc) P rfl (Ho2.out.mono rMb_mono ((Ext.refl w2).alloc _)) _ [(i64Of (bNum ((l.drop q).take 8)), a1)] rfl (one_memb w2 rfl _ a1 (i64Of_wf _) HZ1.out) (fun _ _ _ _ _ h => h) HA.out HB.out (by have := Hult.out; simp; omega) ?_); intro v1 w4 hown1 hgrow; obtain ⟨A1, C1, hv1, _, _, _, _⟩ := id hown1.slice; subst hv1; have hU4 := (Hu2.out.later ((Ext.refl w2).alloc (.cells #[.int .i64 (i64Of (bNum ((l.drop q).take 8))), .string a1] 45))).keep hgrow hne; obtain ⟨⟨_, _, _, _, q2⟩, hf4, hlt4⟩ := id hU4; have q2f := hf4 4; clear hf4)
            have hx4 : Ext W0 w4 := (Hx2.out.then ((Ext.refl w2).alloc (.cells #[.int .i64 (i64Of (bNum ((l.drop q).take 8))), .string a1] 45))).grown hgrow (Hx2.out.then ((Ext.refl w2).alloc (.cells #[.int .i64 (i64Of (bNum ((l.drop q).take 8))), .string a1] 45))).size (fun z hz => by have := Ho2.out.lt z hz; omega)
            rw [show (P ++ [(i64Of (bNum ((l.drop q).take 8)), a1)]).length = P.length + 1 by simp] at hown1
            refine ⟨⟨k + 1, i1, P ++ [(i64Of (bNum ((l.drop q).take 8)), a1)], .slice A1 (P.length + 1) C1, by go_num, rfl, by omega, Below.setCell hx4 (p := ⟨W0.heap.size, 4, none⟩) (Nat.le_refl _) _, hU4.set4 _ _, hown1.far rMb_flat (fun e => by have := hown1.lt _ e; simp at this; omega) _, by simp; omega, ?_⟩, by simp [intOf]; omega⟩
            have hstep := many_snd (membAt l) Hm.out
            have hA1 := Ha1.out
            have hI1 := Hi1.out
            unfold membAt at hstep
            rw [if_pos h8] at hstep
            rw [wordI_nat] at hA1 hI1
            cases h1 : wordAt l (q + 8) with
            | none =>
              rw [h1] at hstep hI1
              simp only at hI1
              right
              refine ⟨hI1.symm, ?_⟩
              rw [Hun.out, many_none (membAt l) 3 (i := k + 1) hstep (by omega)]
              rfl
            | some r =>
              obtain ⟨a, q1⟩ := r
              have hle := wordAt_le h1
              rw [h1] at hstep hI1 hA1
              simp only at hI1 hA1 hle
              left
              refine ⟨q1, hI1.symm, hle.1, ?_⟩
              rw [← hA1]
              exact hstep
      · obtain rfl : k = n := by omega
        obtain ⟨pa, pc, rfl, hpl, hpm⟩ := len_of' Ho.out.slice
        obtain ⟨⟨u0, u1, u2, u3, u4⟩, _, hult⟩ := Hu.out
        simp only at u0 u1
        have Hparts : Hid (Parts wr (.slice none 0 0) (.slice none 0 0) (.slice pa P.length pc) ⟨5, ByteArray.empty, [], [], P⟩) := Lib.hid ⟨sliceOf_nil _ _, sliceOf_nil _ _, Ho.out.slice⟩
        clear c0
        go_wp2_with fail
        refine (right14_any ⟨5, ByteArray.empty, [], [], P⟩ _ _ _ _ Hparts.out (show ByteArray.empty.size ≤ maxLen by decide)).mono ?_
        rintro e w5 ⟨rfl, hx5⟩
        have v0 := hx5.cell u0
        have v1 := hx5.cell u1
        have v2 := hx5.cell u2
        have v3 := hx5.cell u3
        have v4 := hx5.cell u4
        obtain ⟨⟨r0, r1, r2, r3, r4⟩, rlt, rf⟩ := HZ.out.mono (Hx.out.then hx5)
        have rf0 := rf 0
        have rf1 := rf 1
        have rf2 := rf 2
        have rf3 := rf 3
        have rf4 := rf 4
        have Hx5 := Lib.hid (Hx.out.then hx5)
        have Ho5 := Lib.hid (Ho.out.mono rMb_mono hx5)
        have hun := Hun.out
        rw [Hm.out] at hun
        have Hun2 := Lib.hid hun
        clear rf hx5 u0 u1 u2 u3 u4 hun
        cases hrv : rightV ⟨5, ByteArray.empty, [], [], P⟩ with
        | false =>
          have Hno : Hid (unpackB l = none) := Lib.hid (by rw [Hun2.out]; simp [rightOr, hrv])
          clear hrv
          go_wp2_with fail
          obtain ⟨d0, d1, d2, d3, d4⟩ := set5_cells r0 r1 r2 r3 r4 (.int .i64 0) (.string ⟨#[]⟩) (.slice none 0 0) (.slice none 0 0) (.slice none 0 0)
          exact refunpack_fin (x := zeroV) d0 d1 d2 d3 d4 ⟨sliceOf_nil _ _, sliceOf_nil _ _, sliceOf_nil _ _⟩ (by decide) (by decide) (resU_none Hno.out) (set5_ext (HW0.out.then Hx5.out) (Nat.le_refl _) _ _ _ _ _)
        | true =>
          have Hyes : Hid (unpackB l = some (⟨5, ByteArray.empty, [], [], P⟩, q)) := Lib.hid (by rw [Hun2.out]; simp [rightOr, hrv])
          clear hrv
          go_wp2_with fail
          obtain ⟨d0, d1, d2, d3, d4⟩ := set5_cells r0 r1 r2 r3 r4 (.int .i64 5) (.string ByteArray.empty) (.slice none 0 0) (.slice none 0 0) (.slice pa P.length pc)
          have ho6 := Ho5.out.grow rMb_flat (set5_grown w5 w.heap.size (.int .i64 5) (.string ByteArray.empty) (.slice none 0 0) (.slice none 0 0) (.slice pa P.length pc)) (by have := HS0.out; omega)
          exact refunpack_fin (x := ⟨5, ByteArray.empty, [], [], P⟩) d0 d1 d2 d3 d4 ⟨sliceOf_nil _ _, sliceOf_nil _ _, ho6.slice⟩ (show (Lit.int .i64 5).wf = true by decide) (show ByteArray.empty.size ≤ maxLen by decide) (resU_some Hyes.out) (set5_ext (HW0.out.then Hx5.out) (Nat.le_refl _) _ _ _ _ _)
    · have Hno := Lib.hid hunp
      clear hunp c0
      by_cases hlt : k < n
      · obtain ⟨⟨r0, r1, r2, r3, r4⟩, rlt, rf⟩ := HZ.out.mono Hx.out
        have rf0 := rf 0
        have rf1 := rf 1
        have rf2 := rf 2
        have rf3 := rf 3
        have rf4 := rf 4
        clear rf
        go_wp2_with fail
        obtain ⟨d0, d1, d2, d3, d4⟩ := set5_cells r0 r1 r2 r3 r4 (.int .i64 0) (.string ⟨#[]⟩) (.slice none 0 0) (.slice none 0 0) (.slice none 0 0)
        exact refunpack_fin (x := zeroV) d0 d1 d2 d3 d4 ⟨sliceOf_nil _ _, sliceOf_nil _ _, sliceOf_nil _ _⟩ (by decide) (by decide) (resU_none Hno.out) (set5_ext (HW0.out.then Hx.out) (Nat.le_refl _) _ _ _ _ _)
      · obtain ⟨⟨r0, r1, r2, r3, r4⟩, rlt, rf⟩ := HZ.out.mono Hx.out
        have rf0 := rf 0
        have rf1 := rf 1
        have rf2 := rf 2
        have rf3 := rf 3
        have rf4 := rf 4
        clear rf
        go_wp2_with fail
        obtain ⟨d0, d1, d2, d3, d4⟩ := set5_cells r0 r1 r2 r3 r4 (.int .i64 0) (.string ⟨#[]⟩) (.slice none 0 0) (.slice none 0 0) (.slice none 0 0)
        exact refunpack_fin (x := zeroV) d0 d1 d2 d3 d4 ⟨sliceOf_nil _ _, sliceOf_nil _ _, sliceOf_nil _ _⟩ (by decide) (by decide) (resU_none Hno.out) (set5_ext (HW0.out.then Hx.out) (Nat.le_refl _) _ _ _ _ _)
end Go.Proofs.Ythclkljdnmokcaa
