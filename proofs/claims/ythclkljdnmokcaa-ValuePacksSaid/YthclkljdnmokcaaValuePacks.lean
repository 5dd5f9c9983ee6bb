/-
  The law ValuePacks, walked.
-/
import Derived.Test.YthclkljdnmokcaaRefPackV
import Derived.Test.YthclkljdnmokcaaVSame
import Derived.Test.YthclkljdnmokcaaConvApp
set_option linter.unusedVariables false
set_option linter.unusedSimpArgs false
namespace Go.Proofs.Ythclkljdnmokcaa
open Go.RowKit Go.Proofs

theorem slice_val2 {g : Nat} (w : World) (hg : g = w.heap.size) {x y : Val} {p t z p2 t2 z2 : Value} (hx : Parts w p t z x) (hk : (Lit.int .i64 x.kind).wf = true) (hs : x.text.size ≤ maxLen) (hy : Parts w p2 t2 z2 y) (hk2 : (Lit.int .i64 y.kind).wf = true) (hs2 : y.text.size ≤ maxLen) {ty : TypeId} : SliceOf rVal (w.alloc (.cells #[.int .i64 x.kind, .string x.text, p, t, z, .int .i64 y.kind, .string y.text, p2, t2, z2] ty)) (.slice (some ⟨g, 0, none⟩) 2 2) [x, y] := by
  subst hg
  refine sliceOf_heap (heap_alloc_new w _) [x, y] rfl (Nat.le_refl _) (by decide) fun j q hq => ?_
  match j, hq with
  | 0, hq =>
    cases hq
    refine ⟨[.int .i64 x.kind, .string x.text, p, t, z], rfl, fun i hi => ?_, p, t, z, rfl, hk, hs, hx.mono ((Ext.refl w).alloc _)⟩
    have : i < 5 := hi
    match i, this with
    | 0, _ => rfl
    | 1, _ => rfl
    | 2, _ => rfl
    | 3, _ => rfl
    | 4, _ => rfl
  | 1, hq =>
    cases hq
    refine ⟨[.int .i64 y.kind, .string y.text, p2, t2, z2], rfl, fun i hi => ?_, p2, t2, z2, rfl, hk2, hs2, hy.mono ((Ext.refl w).alloc _)⟩
    have : i < 5 := hi
    match i, this with
    | 0, _ => rfl
    | 1, _ => rfl
    | 2, _ => rfl
    | 3, _ => rfl
    | 4, _ => rfl
/-- what the comparing region's operations leave -/
def vpV (x y : Val) (p t z p2 t2 z2 : Value) (h : Nat) (S : ByteArray) (i : Nat) (w : World) (v : Value) : Prop :=
  match i with
  | 0 => v = .agg #[.int .i64 x.kind, .string x.text, p, t, z]
  | 1 => v = .bool (rightV x)
  | 2 => v = .agg #[.int .i64 x.kind, .string x.text, p, t, z]
  | 3 => v = .bool (rightV x)
  | 4 => v = .bool false
  | 5 => v = .bool false
  | 6 => v = .agg #[.int .i64 x.kind, .string x.text, p, t, z]
  | 7 => v = .agg #[.int .i64 y.kind, .string y.text, p2, t2, z2]
  | 8 => SliceOf rVal w v [x, y]
  | 9 => SliceOf rByte w v (packAll [x, y])
  | 10 => v = .string S
  | 11 => v = .string S
  | 12 => v = .bool false
  | 13 => v = .bool false
  | 14 => v = .bool false
  | 15 => v = .agg #[.int .i64 x.kind, .string x.text, p, t, z]
  | 16 => v = .agg #[.int .i64 y.kind, .string y.text, p2, t2, z2]
  | 17 => v = .bool (decide (x = y))
  | 18 => v = .agg #[.int .i64 x.kind, .string x.text, p, t, z]
  | 19 => v = .agg #[.int .i64 y.kind, .string y.text, p2, t2, z2]
  | 20 => v = .bool (decide (x = y))
  | 21 => v = .bool false
  | 22 => v = .bool false
  | 23 => v = .bool false
  | 24 => v = .agg #[.int .i64 x.kind, .string x.text, p, t, z]
  | 25 => v = .int .i64 (sizeV x)
  | 26 => v = .agg #[.int .i64 x.kind, .string x.text, p, t, z]
  | 27 => v = .int .i64 (sizeV x)
  | 28 => v = .bool false
  | 29 => v = .bool false
  | 30 => v = .bool false
  | 31 => v = .pointer (some ⟨h, 0, none⟩)
  | 32 => v = .int .i64 x.kind
  | 33 => v = .string (nameV x.kind)
  | 34 => v = .pointer (some ⟨h, 0, none⟩)
  | 35 => v = .int .i64 x.kind
  | 36 => v = .string (nameV x.kind)
  | 37 => v = .bool false
  | 38 => v = .bool false
  | 39 => v = .bool false
  | 40 => v = .agg #[.int .i64 x.kind, .string x.text, p, t, z]
  | 41 => ∃ p' t' z', v = .agg #[.int .i64 x.kind, .string x.text, p', t', z'] ∧ Parts w p' t' z' x
  | 42 => v = .agg #[.int .i64 x.kind, .string x.text, p, t, z]
  | 43 => v = .bool true
  | 44 => v = .bool false
  | 45 => v = .bool false
  | _ => True
theorem vpV_mono (x y : Val) (p t z p2 t2 z2 : Value) (h : Nat) (S : ByteArray) : ∀ i w1 w2 v, Ext w1 w2 → vpV x y p t z p2 t2 z2 h S i w1 v → vpV x y p t z p2 t2 z2 h S i w2 v := by
  intro i w1 w2 v hx hh
  match i with
  | 0 => exact hh
  | 1 => exact hh
  | 2 => exact hh
  | 3 => exact hh
  | 4 => exact hh
  | 5 => exact hh
  | 6 => exact hh
  | 7 => exact hh
  | 8 => exact SliceOf.mono rVal_mono hx hh
  | 9 => exact SliceOf.mono rByte_mono hx hh
  | 10 => exact hh
  | 11 => exact hh
  | 12 => exact hh
  | 13 => exact hh
  | 14 => exact hh
  | 15 => exact hh
  | 16 => exact hh
  | 17 => exact hh
  | 18 => exact hh
  | 19 => exact hh
  | 20 => exact hh
  | 21 => exact hh
  | 22 => exact hh
  | 23 => exact hh
  | 24 => exact hh
  | 25 => exact hh
  | 26 => exact hh
  | 27 => exact hh
  | 28 => exact hh
  | 29 => exact hh
  | 30 => exact hh
  | 31 => exact hh
  | 32 => exact hh
  | 33 => exact hh
  | 34 => exact hh
  | 35 => exact hh
  | 36 => exact hh
  | 37 => exact hh
  | 38 => exact hh
  | 39 => exact hh
  | 40 => exact hh
  | 41 => obtain ⟨p', t', z', e, hp⟩ := hh; exact ⟨p', t', z', e, hp.mono hx⟩
  | 42 => exact hh
  | 43 => exact hh
  | 44 => exact hh
  | 45 => exact hh
  | _ + 46 => trivial
theorem packAll_two (x y : Val) : packAll [x, y] = (if rightV x = true then packV x else []) ++ (if rightV y = true then packV y else []) := by
  unfold packAll
  by_cases h : rightV x = true <;> by_cases h2 : rightV y = true <;> simp [h, h2]
theorem el_B_zero : ∀ i, Try.prog.info? 5 = some i → i.zero = some (.int .u8 0) := by
  have h : (Try.prog.info? 5).map (fun i => i.zero) = some (some (.int .u8 0)) := by kernel_rfl
  intro i hi
  rw [hi] at h
  simpa using h
set_option maxRecDepth 100000 in
set_option maxHeartbeats 6000000 in
theorem valuePacks_walk (w : World) (x y : Val) (p t z p2 t2 z2 v3 : Value) (tl : List UInt8) (hx : Parts w p t z x) (hk : (Lit.int .i64 x.kind).wf = true) (hs : x.text.size ≤ maxLen) (hy : Parts w p2 t2 z2 y) (hk2 : (Lit.int .i64 y.kind).wf = true) (hs2 : y.text.size ≤ maxLen) (h3 : SliceOf rByte w v3 tl) :
    Calls Try.prog 9 #[.agg #[.int .i64 x.kind, .string x.text, p, t, z], .agg #[.int .i64 y.kind, .string y.text, p2, t2, z2], v3] w fun e w' => e = .returned (.bool true) ∧ Ext w w' := by
  have HWX := Lib.hid (parts_wf hx)
  obtain ⟨pa, pc, rfl, hp1, hp2⟩ := len_of' hx.1
  obtain ⟨ta, tc, rfl, ht1, ht2⟩ := len_of' hx.2.1
  obtain ⟨za, zc, rfl, hz1, hz2⟩ := len_of' hx.2.2
  obtain ⟨pa2, pc2, rfl, hp3, hp4⟩ := len_of' hy.1
  obtain ⟨ta2, tc2, rfl, ht3, ht4⟩ := len_of' hy.2.1
  obtain ⟨za2, zc2, rfl, hz3, hz4⟩ := len_of' hy.2.2
  obtain ⟨a3, c3, rfl, hl1, hl2⟩ := len_of' h3
  have HX := Lib.hid hx
  have HY := Lib.hid hy
  have HT := Lib.hid h3
  clear hx hy h3
  go_enter Try.func9, Try.ntmps9
  go_wp2_with fail
  have hA : VBox ((w.alloc (.cells #[.int .i64 x.kind, .string x.text, .slice pa x.pairs.length pc, .slice ta x.texts.length tc, .slice za x.zset.length zc] 30)).alloc (.cells #[.int .i64 y.kind, .string y.text, .slice pa2 y.pairs.length pc2, .slice ta2 y.texts.length tc2, .slice za2 y.zset.length zc2] 30)) w.heap.size x _ _ _ := (vbox_new w rfl x _ _ _).mono ((Ext.refl _).alloc _)
  have hB : VBox ((w.alloc (.cells #[.int .i64 x.kind, .string x.text, .slice pa x.pairs.length pc, .slice ta x.texts.length tc, .slice za x.zset.length zc] 30)).alloc (.cells #[.int .i64 y.kind, .string y.text, .slice pa2 y.pairs.length pc2, .slice ta2 y.texts.length tc2, .slice za2 y.zset.length zc2] 30)) (w.heap.size + 1) y _ _ _ := vbox_new _ (by simp) y _ _ _
  have hI0 : Ext w ((w.alloc (.cells #[.int .i64 x.kind, .string x.text, .slice pa x.pairs.length pc, .slice ta x.texts.length tc, .slice za x.zset.length zc] 30)).alloc (.cells #[.int .i64 y.kind, .string y.text, .slice pa2 y.pairs.length pc2, .slice ta2 y.texts.length tc2, .slice za2 y.zset.length zc2] 30)) := ((Ext.refl w).alloc _).alloc _
  generalize (w.alloc (.cells #[.int .i64 x.kind, .string x.text, .slice pa x.pairs.length pc, .slice ta x.texts.length tc, .slice za x.zset.length zc] 30)).alloc (.cells #[.int .i64 y.kind, .string y.text, .slice pa2 y.pairs.length pc2, .slice ta2 y.texts.length tc2, .slice za2 y.zset.length zc2] 30) = W0 at hA hB hI0 ⊢
  refine (awake14 _).mono ?_
  rintro e w1 ⟨rfl, hx1⟩
  have HI1 := Lib.hid (hI0.then hx1)
  obtain ⟨c0, c1, c2, c3', c4⟩ := hA.mono hx1
  have HA1 := Lib.hid (hA.mono hx1)
  have HB1 := Lib.hid (hB.mono hx1)
  clear hA hB hI0 hx1
  go_wp2_with fail
  refine (small14_any x _ _ _ _ (HX.out.mono HI1.out) hs).mono ?_
  rintro e w2 ⟨b, rfl, hb, hx2⟩
  have Hb := Lib.hid hb
  have HA2 := Lib.hid (HA1.out.mono hx2)
  have HB2 := Lib.hid (HB1.out.mono hx2)
  have HI2 := Lib.hid (HI1.out.then hx2)
  clear hb hx2 c0 c1 c2 c3' c4
  cases b with
  | false =>
    go_wp2_with fail
    refine (awake14 _).mono ?_
    rintro e w9 ⟨rfl, hx9⟩
    go_wp2
    go_ret
    exact ⟨rfl, HI2.out.then hx9⟩
  | true =>
    have hfx : Few x := by have := Hb.out rfl; unfold SmallV at this; unfold Few; omega
    obtain ⟨hf1, hf2, hf3⟩ := id hfx
    obtain ⟨c0, c1, c2, c3', c4⟩ := HB2.out
    go_wp2_with fail
    refine (small14_any y _ _ _ _ (HY.out.mono HI2.out) hs2).mono ?_
    rintro e w3 ⟨b, rfl, hb, hx3⟩
    have Hb2 := Lib.hid hb
    have HA3 := Lib.hid (HA2.out.mono hx3)
    have HB3 := Lib.hid (HB2.out.mono hx3)
    have HI3 := Lib.hid (HI2.out.then hx3)
    clear hb hx3 c0 c1 c2 c3' c4
    cases b with
    | false =>
      go_wp2_with fail
      refine (awake14 _).mono ?_
      rintro e w9 ⟨rfl, hx9⟩
      go_wp2
      go_ret
      exact ⟨rfl, HI3.out.then hx9⟩
    | true =>
      have hfy : Few y := by have := Hb2.out rfl; unfold SmallV at this; unfold Few; omega
      by_cases h300 : 300 < tl.length
      · have hd : decide ((300 : Int) < (tl.length : Int)) = true := decide_eq_true (by omega)
        have hd2 : decide (300 < tl.length) = true := decide_eq_true h300
        go_wp2_with fail
        refine (awake14 _).mono ?_
        rintro e w9 ⟨rfl, hx9⟩
        go_wp2
        go_ret
        exact ⟨rfl, HI3.out.then hx9⟩
      have hd : decide ((300 : Int) < (tl.length : Int)) = false := decide_eq_false (by omega)
      have hd2 : decide (300 < tl.length) = false := decide_eq_false h300
      obtain ⟨c0, c1, c2, c3', c4⟩ := HA3.out
      go_wp2_with fail
      clear hd hd2
      refine (right14_any x _ _ _ _ (HX.out.mono HI3.out) hs).mono ?_
      rintro e w4 ⟨rfl, hx4⟩
      have HA4 := Lib.hid (HA3.out.mono hx4)
      have HB4 := Lib.hid (HB3.out.mono hx4)
      have HI4 := Lib.hid (HI3.out.then hx4)
      clear hx4 c0 c1 c2 c3' c4
      cases hr : rightV x with
      | false =>
        have Hr := Lib.hid hr
        obtain ⟨c0, c1, c2, c3', c4⟩ := HB4.out
        clear hr
        go_wp2_with fail
        refine (right14_any y _ _ _ _ (HY.out.mono HI4.out) hs2).mono ?_
        rintro e w5 ⟨rfl, hx5⟩
        clear c0 c1 c2 c3' c4
        cases hr2 : rightV y with
        | false =>
          have HA := Lib.hid (HA4.out.mono hx5)
          have HB := Lib.hid (HB4.out.mono hx5)
          have HI := Lib.hid (HI4.out.then hx5)
          obtain ⟨S, hS⟩ : ∃ S, (⟨#[]⟩ : ByteArray) = S := ⟨_, rfl⟩
          have HS : Hid (bstr (packAll [x, y]) = S) := Lib.hid (by rw [packAll_two, hr2, Hr.out, ← hS]; rfl)
          clear hr2 hx5
          go_wp2_with fail
          try rw [hS]
          refine wp_region_rely_lit rfl [some 42, some 43, some 44, some 45, some 46, some 47, some 48, some 49, some 50, some 51, some 52, some 53, some 54, some 55, some 56, some 57, some 58, some 59, some 60, some 61, some 62, some 63, some 64, some 65, some 66, some 67, some 68, some 69, some 70, some 71, some 72, some 73, some 74, some 75, some 76, some 77, some 78, some 79, some 80, some 81, some 82, some 83, some 84, some 85, some 86, some 87] rfl [[], [0], [], [2], [1, 3], [4], [5], [5], [5, 6, 7], [5, 8], [5, 9], [5], [5, 10, 11], [5, 12], [13], [14], [14], [14, 15, 16], [14], [14], [14, 18, 19], [14, 17, 20], [14, 21], [22], [23], [23, 24], [23], [23, 26], [23, 25, 27], [23, 28], [29], [30], [30, 31], [30, 32], [30], [30, 34], [30, 35], [30, 33, 36], [30, 37], [38], [39], [39, 40], [39], [39, 41, 42], [39, 43], [39, 44]] (by kernel_rfl) (fun w' => Ext w5 w') Ext
            (vpV x y (.slice pa x.pairs.length pc) (.slice ta x.texts.length tc) (.slice za x.zset.length zc) (.slice pa2 y.pairs.length pc2) (.slice ta2 y.texts.length tc2) (.slice za2 y.zset.length zc2) w.heap.size S) (vpV_mono _ _ _ _ _ _ _ _ _ _) ?_ ?_ ?_
          · exact (Ext.refl w5).drew
          · refine ⟨?_, ?_, ?_, ?_, ?_, ?_, ?_, ?_, ?_, ?_, ?_, ?_, ?_, ?_, ?_, ?_, ?_, ?_, ?_, ?_, ?_, ?_, ?_, ?_, ?_, ?_, ?_, ?_, ?_, ?_, ?_, ?_, ?_, ?_, ?_, ?_, ?_, ?_, ?_, ?_, ?_, ?_, ?_, ?_, ?_, ?_, trivial⟩
            all_goals (intro vs w' hI hd)
            all_goals simp only [vpV, opsFor, actD, List.getD_cons_zero, List.getD_cons_succ, List.foldl_cons, List.foldl_nil, List.mem_cons, List.not_mem_nil, or_false, forall_eq_or_imp, forall_eq] at hd ⊢
            · obtain ⟨c0, c1, c2, c3', c4⟩ := HA.out.mono hI
              go_wp2
              exact ⟨rfl, rfl, Ext.refl _, hI⟩
            · go_wp2_with fail
              refine (vright_any x _ _ _ _ (HX.out.mono (HI.out.then hI)) hs (by omega) (by omega)).mono ?_
              rintro e w9 ⟨rfl, hx9⟩
              go_wp2
              exact ⟨rfl, rfl, hx9, hI.then hx9⟩
            · obtain ⟨c0, c1, c2, c3', c4⟩ := HA.out.mono hI
              go_wp2
              exact ⟨rfl, rfl, Ext.refl _, hI⟩
            · go_wp2_with fail
              refine (right14_any x _ _ _ _ (HX.out.mono (HI.out.then hI)) hs).mono ?_
              rintro e w9 ⟨rfl, hx9⟩
              go_wp2
              exact ⟨rfl, rfl, hx9, hI.then hx9⟩
            · go_wp2
              first | exact ⟨rfl, rfl, Ext.refl _, hI⟩ | exact ⟨rfl, trivial, Ext.refl _, hI⟩
            · go_wp2
              first | exact ⟨rfl, rfl, Ext.refl _, hI⟩ | exact ⟨rfl, trivial, Ext.refl _, hI⟩
            · obtain ⟨c0, c1, c2, c3', c4⟩ := HA.out.mono hI
              go_wp2
              exact ⟨rfl, rfl, Ext.refl _, hI⟩
            · obtain ⟨c0, c1, c2, c3', c4⟩ := HB.out.mono hI
              go_wp2
              exact ⟨rfl, rfl, Ext.refl _, hI⟩
            · go_wp2
              exact ⟨rfl, slice_val2 _ rfl (HX.out.mono (HI.out.then hI)) hk hs (HY.out.mono (HI.out.then hI)) hk2 hs2, (Ext.refl _).alloc _, hI.alloc _⟩
            · obtain ⟨hg, hd⟩ := hd
              obtain ⟨a, cap, e, _, _⟩ := len_of' hd
              rw [e] at hd ⊢
              go_wp2_with fail
              refine (pack_any _ [x, y] _ hd (by simp) (by intro q hq; simp at hq; rcases hq with rfl | rfl; exact hfx; exact hfy)).mono ?_
              rintro e2 w9 ⟨v2, rfl, hs9, _, hx9⟩
              go_wp2
              exact ⟨rfl, hs9, hx9, hI.then hx9⟩
            · obtain ⟨hg, hd⟩ := hd
              have hc := conv_bytes hd
              rw [HS.out] at hc
              clear hd
              go_wp2
              exact ⟨rfl, rfl, Ext.refl _, hI⟩
            · go_wp2
              first | exact ⟨rfl, rfl, Ext.refl _, hI⟩ | exact ⟨rfl, trivial, Ext.refl _, hI⟩
            · go_wp2
              first | exact ⟨rfl, rfl, Ext.refl _, hI⟩ | exact ⟨rfl, trivial, Ext.refl _, hI⟩
            · go_wp2
              first | exact ⟨rfl, rfl, Ext.refl _, hI⟩ | exact ⟨rfl, trivial, Ext.refl _, hI⟩
            · go_wp2
              first | exact ⟨rfl, rfl, Ext.refl _, hI⟩ | exact ⟨rfl, trivial, Ext.refl _, hI⟩
            · obtain ⟨c0, c1, c2, c3', c4⟩ := HA.out.mono hI
              go_wp2
              exact ⟨rfl, rfl, Ext.refl _, hI⟩
            · obtain ⟨c0, c1, c2, c3', c4⟩ := HB.out.mono hI
              go_wp2
              exact ⟨rfl, rfl, Ext.refl _, hI⟩
            · go_wp2_with fail
              refine (vsame_any x y _ _ _ _ _ _ _ (HX.out.mono (HI.out.then hI)) (HY.out.mono (HI.out.then hI))).mono ?_
              rintro e w9 ⟨rfl, hx9⟩
              go_wp2
              exact ⟨rfl, rfl, hx9, hI.then hx9⟩
            · obtain ⟨c0, c1, c2, c3', c4⟩ := HA.out.mono hI
              go_wp2
              exact ⟨rfl, rfl, Ext.refl _, hI⟩
            · obtain ⟨c0, c1, c2, c3', c4⟩ := HB.out.mono hI
              go_wp2
              exact ⟨rfl, rfl, Ext.refl _, hI⟩
            · go_wp2_with fail
              refine (same14 x y _ _ _ _ _ _ _ (HX.out.mono (HI.out.then hI)) (HY.out.mono (HI.out.then hI))).mono ?_
              rintro e w9 ⟨rfl, hx9⟩
              go_wp2
              exact ⟨rfl, rfl, hx9, hI.then hx9⟩
            · go_wp2
              first | exact ⟨rfl, rfl, Ext.refl _, hI⟩ | exact ⟨rfl, trivial, Ext.refl _, hI⟩
            · go_wp2
              first | exact ⟨rfl, rfl, Ext.refl _, hI⟩ | exact ⟨rfl, trivial, Ext.refl _, hI⟩
            · go_wp2
              first | exact ⟨rfl, rfl, Ext.refl _, hI⟩ | exact ⟨rfl, trivial, Ext.refl _, hI⟩
            · obtain ⟨c0, c1, c2, c3', c4⟩ := HA.out.mono hI
              go_wp2
              exact ⟨rfl, rfl, Ext.refl _, hI⟩
            · go_wp2_with fail
              refine (size_any x _ _ _ _ (HX.out.mono (HI.out.then hI)) hs ⟨by omega, by omega, by omega⟩).mono ?_
              rintro e w9 ⟨rfl, hx9⟩
              go_wp2
              exact ⟨rfl, rfl, hx9, hI.then hx9⟩
            · obtain ⟨c0, c1, c2, c3', c4⟩ := HA.out.mono hI
              go_wp2
              exact ⟨rfl, rfl, Ext.refl _, hI⟩
            · go_wp2_with fail
              refine (refsize_any x _ _ _ _ (HX.out.mono (HI.out.then hI)) hs ⟨by omega, by omega, by omega⟩).mono ?_
              rintro e w9 ⟨rfl, hx9⟩
              go_wp2
              exact ⟨rfl, rfl, hx9, hI.then hx9⟩
            · go_wp2
              first | exact ⟨rfl, rfl, Ext.refl _, hI⟩ | exact ⟨rfl, trivial, Ext.refl _, hI⟩
            · go_wp2
              first | exact ⟨rfl, rfl, Ext.refl _, hI⟩ | exact ⟨rfl, trivial, Ext.refl _, hI⟩
            · go_wp2
              first | exact ⟨rfl, rfl, Ext.refl _, hI⟩ | exact ⟨rfl, trivial, Ext.refl _, hI⟩
            · go_wp2
              first | exact ⟨rfl, rfl, Ext.refl _, hI⟩ | exact ⟨rfl, trivial, Ext.refl _, hI⟩
            · obtain ⟨c0, _, _, _, _⟩ := HA.out.mono hI
              go_wp2
              exact ⟨rfl, rfl, Ext.refl _, hI⟩
            · go_wp2_with fail
              refine (name_any x.kind _).mono ?_
              rintro e w9 ⟨rfl, hx9⟩
              go_wp2
              exact ⟨rfl, rfl, hx9, hI.then hx9⟩
            · go_wp2
              first | exact ⟨rfl, rfl, Ext.refl _, hI⟩ | exact ⟨rfl, trivial, Ext.refl _, hI⟩
            · obtain ⟨c0, _, _, _, _⟩ := HA.out.mono hI
              go_wp2
              exact ⟨rfl, rfl, Ext.refl _, hI⟩
            · go_wp2_with fail
              refine (refname_any x.kind _).mono ?_
              rintro e w9 ⟨rfl, hx9⟩
              go_wp2
              exact ⟨rfl, rfl, hx9, hI.then hx9⟩
            · go_wp2
              first | exact ⟨rfl, rfl, Ext.refl _, hI⟩ | exact ⟨rfl, trivial, Ext.refl _, hI⟩
            · go_wp2
              first | exact ⟨rfl, rfl, Ext.refl _, hI⟩ | exact ⟨rfl, trivial, Ext.refl _, hI⟩
            · go_wp2
              first | exact ⟨rfl, rfl, Ext.refl _, hI⟩ | exact ⟨rfl, trivial, Ext.refl _, hI⟩
            · obtain ⟨c0, c1, c2, c3', c4⟩ := HA.out.mono hI
              go_wp2
              exact ⟨rfl, rfl, Ext.refl _, hI⟩
            · go_wp2_with fail
              refine (vclone_own x _ _ _ w _ (HI.out.then hI) hk hs HX.out (by omega) (by omega) (by omega)).mono ?_
              rintro e w9 ⟨cp, ct, cz, rfl, ho1, ho2, ho3, hx9⟩
              go_wp2
              exact ⟨rfl, ⟨_, _, _, rfl, ho1.slice, ho2.slice, ho3.slice⟩, hx9, hI.then hx9⟩
            · obtain ⟨c0, c1, c2, c3', c4⟩ := HA.out.mono hI
              go_wp2
              exact ⟨rfl, rfl, Ext.refl _, hI⟩
            · obtain ⟨hg, ⟨cp, ct, cz, e41, hpp⟩, e42⟩ := hd
              rw [e41, e42]
              clear e41 e42
              go_wp2_with fail
              refine (same14 x x _ _ _ _ _ _ _ hpp (HX.out.mono (HI.out.then hI))).mono ?_
              rintro e w9 ⟨rfl, hx9⟩
              rw [decide_eq_true (rfl : x = x)]
              go_wp2
              exact ⟨rfl, rfl, hx9, hI.then hx9⟩
            · go_wp2
              first | exact ⟨rfl, rfl, Ext.refl _, hI⟩ | exact ⟨rfl, trivial, Ext.refl _, hI⟩
            · go_wp2
              first | exact ⟨rfl, rfl, Ext.refl _, hI⟩ | exact ⟨rfl, trivial, Ext.refl _, hI⟩
          · intro vs w' hI hd
            simp only [actD, List.range, List.range.loop, List.foldl_cons, List.foldl_nil, List.length_cons, List.length_nil, List.getD_cons_zero, List.getD_cons_succ]
            have e45 := hd 45 (by decide)
            simp only [vpV] at e45
            rw [e45]
            clear hd e45
            go_simp
            go_wp2_with fail
            go_ret
            exact ⟨rfl, HI.out.then hI⟩
        | true =>
          have Hr2 := Lib.hid hr2
          have HA5 := Lib.hid (HA4.out.mono hx5)
          have HB5 := Lib.hid (HB4.out.mono hx5)
          have HI5 := Lib.hid (HI4.out.then hx5)
          obtain ⟨c0, c1, c2, c3', c4⟩ := HB5.out
          clear hx5
          go_wp2_with fail
          refine (refpack_any y _ _ _ _ (HY.out.mono HI5.out) hk2 hs2 Hr2.out).mono ?_
          rintro e w6 ⟨rfl, hx6⟩
          have HA := Lib.hid (HA5.out.mono hx6)
          have HB := Lib.hid (HB5.out.mono hx6)
          have HI := Lib.hid (HI5.out.then hx6)
          obtain ⟨S, hS⟩ : ∃ S, bstr (packV y) = S := ⟨_, rfl⟩
          have HS : Hid (bstr (packAll [x, y]) = S) := Lib.hid (by rw [packAll_two, hr2, Hr.out, ← hS]; rfl)
          have hple := packV_le Hr2.out
          have hSz : S.size ≤ 9223372036854775807 := by rw [← hS, bstr_size]; omega
          have hcat : (⟨#[]⟩ : ByteArray) ++ S = S := by apply ByteArray.ext; simp
          rw [hS]
          clear hx6 c0 c1 c2 c3' c4 hr2 hple
          go_wp2_with fail
          clear hcat hSz
          refine wp_region_rely_lit rfl [some 42, some 43, some 44, some 45, some 46, some 47, some 48, some 49, some 50, some 51, some 52, some 53, some 54, some 55, some 56, some 57, some 58, some 59, some 60, some 61, some 62, some 63, some 64, some 65, some 66, some 67, some 68, some 69, some 70, some 71, some 72, some 73, some 74, some 75, some 76, some 77, some 78, some 79, some 80, some 81, some 82, some 83, some 84, some 85, some 86, some 87] rfl [[], [0], [], [2], [1, 3], [4], [5], [5], [5, 6, 7], [5, 8], [5, 9], [5], [5, 10, 11], [5, 12], [13], [14], [14], [14, 15, 16], [14], [14], [14, 18, 19], [14, 17, 20], [14, 21], [22], [23], [23, 24], [23], [23, 26], [23, 25, 27], [23, 28], [29], [30], [30, 31], [30, 32], [30], [30, 34], [30, 35], [30, 33, 36], [30, 37], [38], [39], [39, 40], [39], [39, 41, 42], [39, 43], [39, 44]] (by kernel_rfl) (fun w' => Ext w6 w') Ext
            (vpV x y (.slice pa x.pairs.length pc) (.slice ta x.texts.length tc) (.slice za x.zset.length zc) (.slice pa2 y.pairs.length pc2) (.slice ta2 y.texts.length tc2) (.slice za2 y.zset.length zc2) w.heap.size S) (vpV_mono _ _ _ _ _ _ _ _ _ _) ?_ ?_ ?_
          · exact (Ext.refl w6).drew
          · refine ⟨?_, ?_, ?_, ?_, ?_, ?_, ?_, ?_, ?_, ?_, ?_, ?_, ?_, ?_, ?_, ?_, ?_, ?_, ?_, ?_, ?_, ?_, ?_, ?_, ?_, ?_, ?_, ?_, ?_, ?_, ?_, ?_, ?_, ?_, ?_, ?_, ?_, ?_, ?_, ?_, ?_, ?_, ?_, ?_, ?_, ?_, trivial⟩
            all_goals (intro vs w' hI hd)
            all_goals simp only [vpV, opsFor, actD, List.getD_cons_zero, List.getD_cons_succ, List.foldl_cons, List.foldl_nil, List.mem_cons, List.not_mem_nil, or_false, forall_eq_or_imp, forall_eq] at hd ⊢
            · obtain ⟨c0, c1, c2, c3', c4⟩ := HA.out.mono hI
              go_wp2
              exact ⟨rfl, rfl, Ext.refl _, hI⟩
            · go_wp2_with fail
              refine (vright_any x _ _ _ _ (HX.out.mono (HI.out.then hI)) hs (by omega) (by omega)).mono ?_
              rintro e w9 ⟨rfl, hx9⟩
              go_wp2
              exact ⟨rfl, rfl, hx9, hI.then hx9⟩
            · obtain ⟨c0, c1, c2, c3', c4⟩ := HA.out.mono hI
              go_wp2
              exact ⟨rfl, rfl, Ext.refl _, hI⟩
            · go_wp2_with fail
              refine (right14_any x _ _ _ _ (HX.out.mono (HI.out.then hI)) hs).mono ?_
              rintro e w9 ⟨rfl, hx9⟩
              go_wp2
              exact ⟨rfl, rfl, hx9, hI.then hx9⟩
            · go_wp2
              first | exact ⟨rfl, rfl, Ext.refl _, hI⟩ | exact ⟨rfl, trivial, Ext.refl _, hI⟩
            · go_wp2
              first | exact ⟨rfl, rfl, Ext.refl _, hI⟩ | exact ⟨rfl, trivial, Ext.refl _, hI⟩
            · obtain ⟨c0, c1, c2, c3', c4⟩ := HA.out.mono hI
              go_wp2
              exact ⟨rfl, rfl, Ext.refl _, hI⟩
            · obtain ⟨c0, c1, c2, c3', c4⟩ := HB.out.mono hI
              go_wp2
              exact ⟨rfl, rfl, Ext.refl _, hI⟩
            · go_wp2
              exact ⟨rfl, slice_val2 _ rfl (HX.out.mono (HI.out.then hI)) hk hs (HY.out.mono (HI.out.then hI)) hk2 hs2, (Ext.refl _).alloc _, hI.alloc _⟩
            · obtain ⟨hg, hd⟩ := hd
              obtain ⟨a, cap, e, _, _⟩ := len_of' hd
              rw [e] at hd ⊢
              go_wp2_with fail
              refine (pack_any _ [x, y] _ hd (by simp) (by intro q hq; simp at hq; rcases hq with rfl | rfl; exact hfx; exact hfy)).mono ?_
              rintro e2 w9 ⟨v2, rfl, hs9, _, hx9⟩
              go_wp2
              exact ⟨rfl, hs9, hx9, hI.then hx9⟩
            · obtain ⟨hg, hd⟩ := hd
              have hc := conv_bytes hd
              rw [HS.out] at hc
              clear hd
              go_wp2
              exact ⟨rfl, rfl, Ext.refl _, hI⟩
            · go_wp2
              first | exact ⟨rfl, rfl, Ext.refl _, hI⟩ | exact ⟨rfl, trivial, Ext.refl _, hI⟩
            · go_wp2
              first | exact ⟨rfl, rfl, Ext.refl _, hI⟩ | exact ⟨rfl, trivial, Ext.refl _, hI⟩
            · go_wp2
              first | exact ⟨rfl, rfl, Ext.refl _, hI⟩ | exact ⟨rfl, trivial, Ext.refl _, hI⟩
            · go_wp2
              first | exact ⟨rfl, rfl, Ext.refl _, hI⟩ | exact ⟨rfl, trivial, Ext.refl _, hI⟩
            · obtain ⟨c0, c1, c2, c3', c4⟩ := HA.out.mono hI
              go_wp2
              exact ⟨rfl, rfl, Ext.refl _, hI⟩
            · obtain ⟨c0, c1, c2, c3', c4⟩ := HB.out.mono hI
              go_wp2
              exact ⟨rfl, rfl, Ext.refl _, hI⟩
            · go_wp2_with fail
              refine (vsame_any x y _ _ _ _ _ _ _ (HX.out.mono (HI.out.then hI)) (HY.out.mono (HI.out.then hI))).mono ?_
              rintro e w9 ⟨rfl, hx9⟩
              go_wp2
              exact ⟨rfl, rfl, hx9, hI.then hx9⟩
            · obtain ⟨c0, c1, c2, c3', c4⟩ := HA.out.mono hI
              go_wp2
              exact ⟨rfl, rfl, Ext.refl _, hI⟩
            · obtain ⟨c0, c1, c2, c3', c4⟩ := HB.out.mono hI
              go_wp2
              exact ⟨rfl, rfl, Ext.refl _, hI⟩
            · go_wp2_with fail
              refine (same14 x y _ _ _ _ _ _ _ (HX.out.mono (HI.out.then hI)) (HY.out.mono (HI.out.then hI))).mono ?_
              rintro e w9 ⟨rfl, hx9⟩
              go_wp2
              exact ⟨rfl, rfl, hx9, hI.then hx9⟩
            · go_wp2
              first | exact ⟨rfl, rfl, Ext.refl _, hI⟩ | exact ⟨rfl, trivial, Ext.refl _, hI⟩
            · go_wp2
              first | exact ⟨rfl, rfl, Ext.refl _, hI⟩ | exact ⟨rfl, trivial, Ext.refl _, hI⟩
            · go_wp2
              first | exact ⟨rfl, rfl, Ext.refl _, hI⟩ | exact ⟨rfl, trivial, Ext.refl _, hI⟩
            · obtain ⟨c0, c1, c2, c3', c4⟩ := HA.out.mono hI
              go_wp2
              exact ⟨rfl, rfl, Ext.refl _, hI⟩
            · go_wp2_with fail
              refine (size_any x _ _ _ _ (HX.out.mono (HI.out.then hI)) hs ⟨by omega, by omega, by omega⟩).mono ?_
              rintro e w9 ⟨rfl, hx9⟩
              go_wp2
              exact ⟨rfl, rfl, hx9, hI.then hx9⟩
            · obtain ⟨c0, c1, c2, c3', c4⟩ := HA.out.mono hI
              go_wp2
              exact ⟨rfl, rfl, Ext.refl _, hI⟩
            · go_wp2_with fail
              refine (refsize_any x _ _ _ _ (HX.out.mono (HI.out.then hI)) hs ⟨by omega, by omega, by omega⟩).mono ?_
              rintro e w9 ⟨rfl, hx9⟩
              go_wp2
              exact ⟨rfl, rfl, hx9, hI.then hx9⟩
            · go_wp2
              first | exact ⟨rfl, rfl, Ext.refl _, hI⟩ | exact ⟨rfl, trivial, Ext.refl _, hI⟩
            · go_wp2
              first | exact ⟨rfl, rfl, Ext.refl _, hI⟩ | exact ⟨rfl, trivial, Ext.refl _, hI⟩
            · go_wp2
              first | exact ⟨rfl, rfl, Ext.refl _, hI⟩ | exact ⟨rfl, trivial, Ext.refl _, hI⟩
            · go_wp2
              first | exact ⟨rfl, rfl, Ext.refl _, hI⟩ | exact ⟨rfl, trivial, Ext.refl _, hI⟩
            · obtain ⟨c0, _, _, _, _⟩ := HA.out.mono hI
              go_wp2
              exact ⟨rfl, rfl, Ext.refl _, hI⟩
            · go_wp2_with fail
              refine (name_any x.kind _).mono ?_
              rintro e w9 ⟨rfl, hx9⟩
              go_wp2
              exact ⟨rfl, rfl, hx9, hI.then hx9⟩
            · go_wp2
              first | exact ⟨rfl, rfl, Ext.refl _, hI⟩ | exact ⟨rfl, trivial, Ext.refl _, hI⟩
            · obtain ⟨c0, _, _, _, _⟩ := HA.out.mono hI
              go_wp2
              exact ⟨rfl, rfl, Ext.refl _, hI⟩
            · go_wp2_with fail
              refine (refname_any x.kind _).mono ?_
              rintro e w9 ⟨rfl, hx9⟩
              go_wp2
              exact ⟨rfl, rfl, hx9, hI.then hx9⟩
            · go_wp2
              first | exact ⟨rfl, rfl, Ext.refl _, hI⟩ | exact ⟨rfl, trivial, Ext.refl _, hI⟩
            · go_wp2
              first | exact ⟨rfl, rfl, Ext.refl _, hI⟩ | exact ⟨rfl, trivial, Ext.refl _, hI⟩
            · go_wp2
              first | exact ⟨rfl, rfl, Ext.refl _, hI⟩ | exact ⟨rfl, trivial, Ext.refl _, hI⟩
            · obtain ⟨c0, c1, c2, c3', c4⟩ := HA.out.mono hI
              go_wp2
              exact ⟨rfl, rfl, Ext.refl _, hI⟩
            · go_wp2_with fail
              refine (vclone_own x _ _ _ w _ (HI.out.then hI) hk hs HX.out (by omega) (by omega) (by omega)).mono ?_
              rintro e w9 ⟨cp, ct, cz, rfl, ho1, ho2, ho3, hx9⟩
              go_wp2
              exact ⟨rfl, ⟨_, _, _, rfl, ho1.slice, ho2.slice, ho3.slice⟩, hx9, hI.then hx9⟩
            · obtain ⟨c0, c1, c2, c3', c4⟩ := HA.out.mono hI
              go_wp2
              exact ⟨rfl, rfl, Ext.refl _, hI⟩
            · obtain ⟨hg, ⟨cp, ct, cz, e41, hpp⟩, e42⟩ := hd
              rw [e41, e42]
              clear e41 e42
              go_wp2_with fail
              refine (same14 x x _ _ _ _ _ _ _ hpp (HX.out.mono (HI.out.then hI))).mono ?_
              rintro e w9 ⟨rfl, hx9⟩
              rw [decide_eq_true (rfl : x = x)]
              go_wp2
              exact ⟨rfl, rfl, hx9, hI.then hx9⟩
            · go_wp2
              first | exact ⟨rfl, rfl, Ext.refl _, hI⟩ | exact ⟨rfl, trivial, Ext.refl _, hI⟩
            · go_wp2
              first | exact ⟨rfl, rfl, Ext.refl _, hI⟩ | exact ⟨rfl, trivial, Ext.refl _, hI⟩
          · intro vs w' hI hd
            simp only [actD, List.range, List.range.loop, List.foldl_cons, List.foldl_nil, List.length_cons, List.length_nil, List.getD_cons_zero, List.getD_cons_succ]
            have e45 := hd 45 (by decide)
            simp only [vpV] at e45
            rw [e45]
            clear hd e45
            go_simp
            go_wp2_with fail
            go_ret
            exact ⟨rfl, HI.out.then hI⟩
      | true =>
        have Hr := Lib.hid hr
        obtain ⟨c0, c1, c2, c3', c4⟩ := HA4.out
        clear hr
        go_wp2_with fail
        refine (refpack_any x _ _ _ _ (HX.out.mono HI4.out) hk hs Hr.out).mono ?_
        rintro e w5 ⟨rfl, hx5⟩
        have HA5 := Lib.hid (HA4.out.mono hx5)
        have HB5 := Lib.hid (HB4.out.mono hx5)
        have HI5 := Lib.hid (HI4.out.then hx5)
        have hple := packV_le Hr.out
        have hp3 := packV_three x
        obtain ⟨N, hN⟩ : ∃ N, (packV x).length = N := ⟨_, rfl⟩
        have hXs : (bstr (packV x)).size = N := by rw [bstr_size, hN]
        rw [hN] at hple hp3
        have HN := Lib.hid hN
        have hN0 : ((N : Int) == 0) = false := beq_eq_false_iff_ne.2 (by omega)
        clear hx5 c0 c1 c2 c3' c4 hN
        obtain ⟨c0, c1, c2, c3', c4⟩ := HB5.out
        go_wp2_with fail
        refine (right14_any y _ _ _ _ (HY.out.mono HI5.out) hs2).mono ?_
        rintro e w6 ⟨rfl, hx6⟩
        have HA6 := Lib.hid (HA5.out.mono hx6)
        have HB6 := Lib.hid (HB5.out.mono hx6)
        have HI6 := Lib.hid (HI5.out.then hx6)
        clear hx6 c0 c1 c2 c3' c4
        cases hr2 : rightV y with
        | false =>
          have HA := HA6
          have HB := HB6
          have HI := HI6
          obtain ⟨S, hS⟩ : ∃ S, bstr (packV x) = S := ⟨_, rfl⟩
          have HS : Hid (bstr (packAll [x, y]) = S) := Lib.hid (by rw [packAll_two, hr2, Hr.out, ← hS]; simp)
          have HSL : Hid (∃ rest, S = bstr (packV x ++ rest) ∧ rest.length ≤ 4200000) := Lib.hid ⟨[], by rw [← hS, List.append_nil], by simp⟩
          rw [hS] at hXs
          clear hr2
          go_wp2_with fail
          try rw [hS]
          clear hS hXs
          refine wp_region_rely_lit rfl [some 42, some 43, some 44, some 45, some 46, some 47, some 48, some 49, some 50, some 51, some 52, some 53, some 54, some 55, some 56, some 57, some 58, some 59, some 60, some 61, some 62, some 63, some 64, some 65, some 66, some 67, some 68, some 69, some 70, some 71, some 72, some 73, some 74, some 75, some 76, some 77, some 78, some 79, some 80, some 81, some 82, some 83, some 84, some 85, some 86, some 87] rfl [[], [0], [], [2], [1, 3], [4], [5], [5], [5, 6, 7], [5, 8], [5, 9], [5], [5, 10, 11], [5, 12], [13], [14], [14], [14, 15, 16], [14], [14], [14, 18, 19], [14, 17, 20], [14, 21], [22], [23], [23, 24], [23], [23, 26], [23, 25, 27], [23, 28], [29], [30], [30, 31], [30, 32], [30], [30, 34], [30, 35], [30, 33, 36], [30, 37], [38], [39], [39, 40], [39], [39, 41, 42], [39, 43], [39, 44]] (by kernel_rfl) (fun w' => Ext w6 w') Ext
            (vpV x y (.slice pa x.pairs.length pc) (.slice ta x.texts.length tc) (.slice za x.zset.length zc) (.slice pa2 y.pairs.length pc2) (.slice ta2 y.texts.length tc2) (.slice za2 y.zset.length zc2) w.heap.size S) (vpV_mono _ _ _ _ _ _ _ _ _ _) ?_ ?_ ?_
          · exact (Ext.refl w6).drew
          · refine ⟨?_, ?_, ?_, ?_, ?_, ?_, ?_, ?_, ?_, ?_, ?_, ?_, ?_, ?_, ?_, ?_, ?_, ?_, ?_, ?_, ?_, ?_, ?_, ?_, ?_, ?_, ?_, ?_, ?_, ?_, ?_, ?_, ?_, ?_, ?_, ?_, ?_, ?_, ?_, ?_, ?_, ?_, ?_, ?_, ?_, ?_, trivial⟩
            all_goals (intro vs w' hI hd)
            all_goals simp only [vpV, opsFor, actD, List.getD_cons_zero, List.getD_cons_succ, List.foldl_cons, List.foldl_nil, List.mem_cons, List.not_mem_nil, or_false, forall_eq_or_imp, forall_eq] at hd ⊢
            · obtain ⟨c0, c1, c2, c3', c4⟩ := HA.out.mono hI
              go_wp2
              exact ⟨rfl, rfl, Ext.refl _, hI⟩
            · go_wp2_with fail
              refine (vright_any x _ _ _ _ (HX.out.mono (HI.out.then hI)) hs (by omega) (by omega)).mono ?_
              rintro e w9 ⟨rfl, hx9⟩
              go_wp2
              exact ⟨rfl, rfl, hx9, hI.then hx9⟩
            · obtain ⟨c0, c1, c2, c3', c4⟩ := HA.out.mono hI
              go_wp2
              exact ⟨rfl, rfl, Ext.refl _, hI⟩
            · go_wp2_with fail
              refine (right14_any x _ _ _ _ (HX.out.mono (HI.out.then hI)) hs).mono ?_
              rintro e w9 ⟨rfl, hx9⟩
              go_wp2
              exact ⟨rfl, rfl, hx9, hI.then hx9⟩
            · go_wp2
              first | exact ⟨rfl, rfl, Ext.refl _, hI⟩ | exact ⟨rfl, trivial, Ext.refl _, hI⟩
            · go_wp2
              first | exact ⟨rfl, rfl, Ext.refl _, hI⟩ | exact ⟨rfl, trivial, Ext.refl _, hI⟩
            · obtain ⟨c0, c1, c2, c3', c4⟩ := HA.out.mono hI
              go_wp2
              exact ⟨rfl, rfl, Ext.refl _, hI⟩
            · obtain ⟨c0, c1, c2, c3', c4⟩ := HB.out.mono hI
              go_wp2
              exact ⟨rfl, rfl, Ext.refl _, hI⟩
            · go_wp2
              exact ⟨rfl, slice_val2 _ rfl (HX.out.mono (HI.out.then hI)) hk hs (HY.out.mono (HI.out.then hI)) hk2 hs2, (Ext.refl _).alloc _, hI.alloc _⟩
            · obtain ⟨hg, hd⟩ := hd
              obtain ⟨a, cap, e, _, _⟩ := len_of' hd
              rw [e] at hd ⊢
              go_wp2_with fail
              refine (pack_any _ [x, y] _ hd (by simp) (by intro q hq; simp at hq; rcases hq with rfl | rfl; exact hfx; exact hfy)).mono ?_
              rintro e2 w9 ⟨v2, rfl, hs9, _, hx9⟩
              go_wp2
              exact ⟨rfl, hs9, hx9, hI.then hx9⟩
            · obtain ⟨hg, hd⟩ := hd
              have hc := conv_bytes hd
              rw [HS.out] at hc
              clear hd
              go_wp2
              exact ⟨rfl, rfl, Ext.refl _, hI⟩
            · go_wp2
              first | exact ⟨rfl, rfl, Ext.refl _, hI⟩ | exact ⟨rfl, trivial, Ext.refl _, hI⟩
            · go_wp2
              first | exact ⟨rfl, rfl, Ext.refl _, hI⟩ | exact ⟨rfl, trivial, Ext.refl _, hI⟩
            · go_wp2
              first | exact ⟨rfl, rfl, Ext.refl _, hI⟩ | exact ⟨rfl, trivial, Ext.refl _, hI⟩
            · go_wp2
              first | exact ⟨rfl, rfl, Ext.refl _, hI⟩ | exact ⟨rfl, trivial, Ext.refl _, hI⟩
            · obtain ⟨c0, c1, c2, c3', c4⟩ := HA.out.mono hI
              go_wp2
              exact ⟨rfl, rfl, Ext.refl _, hI⟩
            · obtain ⟨c0, c1, c2, c3', c4⟩ := HB.out.mono hI
              go_wp2
              exact ⟨rfl, rfl, Ext.refl _, hI⟩
            · go_wp2_with fail
              refine (vsame_any x y _ _ _ _ _ _ _ (HX.out.mono (HI.out.then hI)) (HY.out.mono (HI.out.then hI))).mono ?_
              rintro e w9 ⟨rfl, hx9⟩
              go_wp2
              exact ⟨rfl, rfl, hx9, hI.then hx9⟩
            · obtain ⟨c0, c1, c2, c3', c4⟩ := HA.out.mono hI
              go_wp2
              exact ⟨rfl, rfl, Ext.refl _, hI⟩
            · obtain ⟨c0, c1, c2, c3', c4⟩ := HB.out.mono hI
              go_wp2
              exact ⟨rfl, rfl, Ext.refl _, hI⟩
            · go_wp2_with fail
              refine (same14 x y _ _ _ _ _ _ _ (HX.out.mono (HI.out.then hI)) (HY.out.mono (HI.out.then hI))).mono ?_
              rintro e w9 ⟨rfl, hx9⟩
              go_wp2
              exact ⟨rfl, rfl, hx9, hI.then hx9⟩
            · go_wp2
              first | exact ⟨rfl, rfl, Ext.refl _, hI⟩ | exact ⟨rfl, trivial, Ext.refl _, hI⟩
            · go_wp2
              first | exact ⟨rfl, rfl, Ext.refl _, hI⟩ | exact ⟨rfl, trivial, Ext.refl _, hI⟩
            · go_wp2
              first | exact ⟨rfl, rfl, Ext.refl _, hI⟩ | exact ⟨rfl, trivial, Ext.refl _, hI⟩
            · obtain ⟨c0, c1, c2, c3', c4⟩ := HA.out.mono hI
              go_wp2
              exact ⟨rfl, rfl, Ext.refl _, hI⟩
            · go_wp2_with fail
              refine (size_any x _ _ _ _ (HX.out.mono (HI.out.then hI)) hs ⟨by omega, by omega, by omega⟩).mono ?_
              rintro e w9 ⟨rfl, hx9⟩
              go_wp2
              exact ⟨rfl, rfl, hx9, hI.then hx9⟩
            · obtain ⟨c0, c1, c2, c3', c4⟩ := HA.out.mono hI
              go_wp2
              exact ⟨rfl, rfl, Ext.refl _, hI⟩
            · go_wp2_with fail
              refine (refsize_any x _ _ _ _ (HX.out.mono (HI.out.then hI)) hs ⟨by omega, by omega, by omega⟩).mono ?_
              rintro e w9 ⟨rfl, hx9⟩
              go_wp2
              exact ⟨rfl, rfl, hx9, hI.then hx9⟩
            · go_wp2
              first | exact ⟨rfl, rfl, Ext.refl _, hI⟩ | exact ⟨rfl, trivial, Ext.refl _, hI⟩
            · go_wp2
              first | exact ⟨rfl, rfl, Ext.refl _, hI⟩ | exact ⟨rfl, trivial, Ext.refl _, hI⟩
            · go_wp2
              first | exact ⟨rfl, rfl, Ext.refl _, hI⟩ | exact ⟨rfl, trivial, Ext.refl _, hI⟩
            · go_wp2
              first | exact ⟨rfl, rfl, Ext.refl _, hI⟩ | exact ⟨rfl, trivial, Ext.refl _, hI⟩
            · obtain ⟨c0, _, _, _, _⟩ := HA.out.mono hI
              go_wp2
              exact ⟨rfl, rfl, Ext.refl _, hI⟩
            · go_wp2_with fail
              refine (name_any x.kind _).mono ?_
              rintro e w9 ⟨rfl, hx9⟩
              go_wp2
              exact ⟨rfl, rfl, hx9, hI.then hx9⟩
            · go_wp2
              first | exact ⟨rfl, rfl, Ext.refl _, hI⟩ | exact ⟨rfl, trivial, Ext.refl _, hI⟩
            · obtain ⟨c0, _, _, _, _⟩ := HA.out.mono hI
              go_wp2
              exact ⟨rfl, rfl, Ext.refl _, hI⟩
            · go_wp2_with fail
              refine (refname_any x.kind _).mono ?_
              rintro e w9 ⟨rfl, hx9⟩
              go_wp2
              exact ⟨rfl, rfl, hx9, hI.then hx9⟩
            · go_wp2
              first | exact ⟨rfl, rfl, Ext.refl _, hI⟩ | exact ⟨rfl, trivial, Ext.refl _, hI⟩
            · go_wp2
              first | exact ⟨rfl, rfl, Ext.refl _, hI⟩ | exact ⟨rfl, trivial, Ext.refl _, hI⟩
            · go_wp2
              first | exact ⟨rfl, rfl, Ext.refl _, hI⟩ | exact ⟨rfl, trivial, Ext.refl _, hI⟩
            · obtain ⟨c0, c1, c2, c3', c4⟩ := HA.out.mono hI
              go_wp2
              exact ⟨rfl, rfl, Ext.refl _, hI⟩
            · go_wp2_with fail
              refine (vclone_own x _ _ _ w _ (HI.out.then hI) hk hs HX.out (by omega) (by omega) (by omega)).mono ?_
              rintro e w9 ⟨cp, ct, cz, rfl, ho1, ho2, ho3, hx9⟩
              go_wp2
              exact ⟨rfl, ⟨_, _, _, rfl, ho1.slice, ho2.slice, ho3.slice⟩, hx9, hI.then hx9⟩
            · obtain ⟨c0, c1, c2, c3', c4⟩ := HA.out.mono hI
              go_wp2
              exact ⟨rfl, rfl, Ext.refl _, hI⟩
            · obtain ⟨hg, ⟨cp, ct, cz, e41, hpp⟩, e42⟩ := hd
              rw [e41, e42]
              clear e41 e42
              go_wp2_with fail
              refine (same14 x x _ _ _ _ _ _ _ hpp (HX.out.mono (HI.out.then hI))).mono ?_
              rintro e w9 ⟨rfl, hx9⟩
              rw [decide_eq_true (rfl : x = x)]
              go_wp2
              exact ⟨rfl, rfl, hx9, hI.then hx9⟩
            · go_wp2
              first | exact ⟨rfl, rfl, Ext.refl _, hI⟩ | exact ⟨rfl, trivial, Ext.refl _, hI⟩
            · go_wp2
              first | exact ⟨rfl, rfl, Ext.refl _, hI⟩ | exact ⟨rfl, trivial, Ext.refl _, hI⟩
          · intro vs w' hI hd
            simp only [actD, List.range, List.range.loop, List.foldl_cons, List.foldl_nil, List.length_cons, List.length_nil, List.getD_cons_zero, List.getD_cons_succ]
            have e45 := hd 45 (by decide)
            simp only [vpV] at e45
            rw [e45]
            clear hd e45
            go_simp
            rename World => w7
            obtain ⟨rest, hSr, hrl⟩ := HSL.out
            have Htl2 := HT.out.mono rByte_mono (HI.out.then hI)
            have hlen := HN.out
            obtain ⟨L, hL⟩ : ∃ L, packV x ++ rest = L := ⟨_, rfl⟩
            have hLl : L.length = N + rest.length := by rw [← hL, List.length_append, hlen]
            have hres : resU (L ++ tl) = (x, N, true) := by
              rw [← hL, List.append_assoc]
              have h := resU_some (unpack_pack Hr.out HWX.out (rest ++ tl))
              rw [hlen] at h
              exact h
            have Hres := Lib.hid hres
            rw [hL] at hSr
            have hcf := conv_fresh w7 S (by rw [hSr, bstr_size]; unfold maxLen; omega) (e := 5)
            rw [show S.toList = L by rw [hSr, bstr_toList]] at hcf
            have Hcf := Lib.hid hcf
            have HSs : Hid (S.size = L.length) := Lib.hid (by rw [hSr, bstr_size])
            have hcv := run_bytes_of_string (P := Try.prog) w7 9 38 5 S Try.underlying9 Try.underlying38 Try.underlying5
            rw [HSs.out] at hcv Hcf
            have Hext7 : Hid (Ext w7 (w7.drew.alloc (.cells (bytesRow S (grownCap w7 L.length 0 5)) 5 ((bytesRow S (grownCap w7 L.length 0 5)).size, (bytesRow S (grownCap w7 L.length 0 5)).size + 1)))) := Lib.hid ((Ext.refl w7).drew.alloc _)
            have HI7 := Lib.hid (HI.out.then hI)
            have HA7 := Lib.hid (HA.out.mono hI)
            have HT7 := Lib.hid Htl2
            have Hsm : Hid (L.length + tl.length ≤ 100000000) := Lib.hid (by omega)
            obtain ⟨GC, hGC⟩ : ∃ GC, grownCap w7 L.length 0 5 = GC := ⟨_, rfl⟩
            rw [hGC] at hcv Hcf Hext7
            obtain ⟨W7, hW7⟩ : ∃ W7, w7.drew.alloc (.cells (bytesRow S GC) 5 ((bytesRow S GC).size, (bytesRow S GC).size + 1)) = W7 := ⟨_, rfl⟩
            rw [hW7] at hcv Hcf Hext7
            clear hLl hres hSr hcf Htl2 hI hlen hL hGC hW7
            go_wp2_with (at_builtin; (refine conv_append_law rfl (.tmp 92) (.tmp 93) rfl el_B el_B_zero w7.heap.size GC L tl rfl Hcf.out _ rfl (HT7.out.mono rByte_mono Hext7.out) Hsm.out ?_); intro v8 w8 hs8 hx8; obtain ⟨A8, C8, hv8, _, _, _, _⟩ := id hs8; subst hv8)
            simp only [List.length_append] at hs8
            have Hx8 := Lib.hid (hx8 w7 Hext7.out (Nat.le_refl _))
            have HI8 := Lib.hid (HI7.out.then Hx8.out)
            have HA8 := Lib.hid (HA7.out.mono Hx8.out)
            clear hx8
            refine (unpack_any _ (L ++ tl) _ hs8 (by rw [List.length_append]; exact Hsm.out)).mono ?_
            rintro e w10 ⟨q1, q2, q3, rfl, hpts1, _, _, hx10⟩
            rw [Hres.out] at hpts1 ⊢
            simp only at hpts1 ⊢
            obtain ⟨qa, qc, rfl, _, _⟩ := len_of' hpts1.1
            obtain ⟨ra, rc, rfl, _, _⟩ := len_of' hpts1.2.1
            obtain ⟨sa, sc, rfl, _, _⟩ := len_of' hpts1.2.2
            have hbx := vbox_new w10 rfl x (.slice qa x.pairs.length qc) (.slice ra x.texts.length rc) (.slice sa x.zset.length sc) (ty := 30)
            have hxa : Ext w10 (w10.alloc (.cells #[.int .i64 x.kind, .string x.text, .slice qa x.pairs.length qc, .slice ra x.texts.length rc, .slice sa x.zset.length sc] 30)) := (Ext.refl w10).alloc _
            obtain ⟨c0, c1, c2, c3', c4⟩ := hbx
            obtain ⟨d0, d1, d2, d3, d4⟩ := (HA8.out.mono hx10).mono hxa
            have HP1 := Lib.hid (hpts1.mono hxa)
            have HI10 := Lib.hid ((HI8.out.then hx10).then hxa)
            clear hpts1 hx10 hxa hs8
            go_wp2_with fail
            refine (same14 x x _ _ _ _ _ _ _ HP1.out (HX.out.mono HI10.out)).mono ?_
            rintro e w11 ⟨rfl, hx11⟩
            rw [decide_eq_true (rfl : x = x)]
            go_wp2
            go_ret
            exact ⟨rfl, HI10.out.then hx11⟩
        | true =>
          have Hr2 := Lib.hid hr2
          obtain ⟨c0, c1, c2, c3', c4⟩ := HB6.out
          go_wp2_with fail
          refine (refpack_any y _ _ _ _ (HY.out.mono HI6.out) hk2 hs2 Hr2.out).mono ?_
          rintro e w7 ⟨rfl, hx7⟩
          have HA := Lib.hid (HA6.out.mono hx7)
          have HB := Lib.hid (HB6.out.mono hx7)
          have HI := Lib.hid (HI6.out.then hx7)
          obtain ⟨S, hS⟩ : ∃ S, bstr (packV x ++ packV y) = S := ⟨_, rfl⟩
          have HS : Hid (bstr (packAll [x, y]) = S) := Lib.hid (by rw [packAll_two, hr2, Hr.out, ← hS]; simp)
          have hple2 := packV_le Hr2.out
          have HSL : Hid (∃ rest, S = bstr (packV x ++ rest) ∧ rest.length ≤ 4200000) := Lib.hid ⟨packV y, hS.symm, hple2⟩
          have hYs : (bstr (packV y)).size = (packV y).length := bstr_size _
          have hcat : bstr (packV x) ++ bstr (packV y) = S := by rw [bstr_append, hS]
          clear hx7 c0 c1 c2 c3' c4 hr2 hS
          go_wp2_with fail
          clear hcat hYs hple2 hXs
          refine wp_region_rely_lit rfl [some 42, some 43, some 44, some 45, some 46, some 47, some 48, some 49, some 50, some 51, some 52, some 53, some 54, some 55, some 56, some 57, some 58, some 59, some 60, some 61, some 62, some 63, some 64, some 65, some 66, some 67, some 68, some 69, some 70, some 71, some 72, some 73, some 74, some 75, some 76, some 77, some 78, some 79, some 80, some 81, some 82, some 83, some 84, some 85, some 86, some 87] rfl [[], [0], [], [2], [1, 3], [4], [5], [5], [5, 6, 7], [5, 8], [5, 9], [5], [5, 10, 11], [5, 12], [13], [14], [14], [14, 15, 16], [14], [14], [14, 18, 19], [14, 17, 20], [14, 21], [22], [23], [23, 24], [23], [23, 26], [23, 25, 27], [23, 28], [29], [30], [30, 31], [30, 32], [30], [30, 34], [30, 35], [30, 33, 36], [30, 37], [38], [39], [39, 40], [39], [39, 41, 42], [39, 43], [39, 44]] (by kernel_rfl) (fun w' => Ext w7 w') Ext
            (vpV x y (.slice pa x.pairs.length pc) (.slice ta x.texts.length tc) (.slice za x.zset.length zc) (.slice pa2 y.pairs.length pc2) (.slice ta2 y.texts.length tc2) (.slice za2 y.zset.length zc2) w.heap.size S) (vpV_mono _ _ _ _ _ _ _ _ _ _) ?_ ?_ ?_
          · exact (Ext.refl w7).drew
          · refine ⟨?_, ?_, ?_, ?_, ?_, ?_, ?_, ?_, ?_, ?_, ?_, ?_, ?_, ?_, ?_, ?_, ?_, ?_, ?_, ?_, ?_, ?_, ?_, ?_, ?_, ?_, ?_, ?_, ?_, ?_, ?_, ?_, ?_, ?_, ?_, ?_, ?_, ?_, ?_, ?_, ?_, ?_, ?_, ?_, ?_, ?_, trivial⟩
            all_goals (intro vs w' hI hd)
            all_goals simp only [vpV, opsFor, actD, List.getD_cons_zero, List.getD_cons_succ, List.foldl_cons, List.foldl_nil, List.mem_cons, List.not_mem_nil, or_false, forall_eq_or_imp, forall_eq] at hd ⊢
            · obtain ⟨c0, c1, c2, c3', c4⟩ := HA.out.mono hI
              go_wp2
              exact ⟨rfl, rfl, Ext.refl _, hI⟩
            · go_wp2_with fail
              refine (vright_any x _ _ _ _ (HX.out.mono (HI.out.then hI)) hs (by omega) (by omega)).mono ?_
              rintro e w9 ⟨rfl, hx9⟩
              go_wp2
              exact ⟨rfl, rfl, hx9, hI.then hx9⟩
            · obtain ⟨c0, c1, c2, c3', c4⟩ := HA.out.mono hI
              go_wp2
              exact ⟨rfl, rfl, Ext.refl _, hI⟩
            · go_wp2_with fail
              refine (right14_any x _ _ _ _ (HX.out.mono (HI.out.then hI)) hs).mono ?_
              rintro e w9 ⟨rfl, hx9⟩
              go_wp2
              exact ⟨rfl, rfl, hx9, hI.then hx9⟩
            · go_wp2
              first | exact ⟨rfl, rfl, Ext.refl _, hI⟩ | exact ⟨rfl, trivial, Ext.refl _, hI⟩
            · go_wp2
              first | exact ⟨rfl, rfl, Ext.refl _, hI⟩ | exact ⟨rfl, trivial, Ext.refl _, hI⟩
            · obtain ⟨c0, c1, c2, c3', c4⟩ := HA.out.mono hI
              go_wp2
              exact ⟨rfl, rfl, Ext.refl _, hI⟩
            · obtain ⟨c0, c1, c2, c3', c4⟩ := HB.out.mono hI
              go_wp2
              exact ⟨rfl, rfl, Ext.refl _, hI⟩
            · go_wp2
              exact ⟨rfl, slice_val2 _ rfl (HX.out.mono (HI.out.then hI)) hk hs (HY.out.mono (HI.out.then hI)) hk2 hs2, (Ext.refl _).alloc _, hI.alloc _⟩
            · obtain ⟨hg, hd⟩ := hd
              obtain ⟨a, cap, e, _, _⟩ := len_of' hd
              rw [e] at hd ⊢
              go_wp2_with fail
              refine (pack_any _ [x, y] _ hd (by simp) (by intro q hq; simp at hq; rcases hq with rfl | rfl; exact hfx; exact hfy)).mono ?_
              rintro e2 w9 ⟨v2, rfl, hs9, _, hx9⟩
              go_wp2
              exact ⟨rfl, hs9, hx9, hI.then hx9⟩
            · obtain ⟨hg, hd⟩ := hd
              have hc := conv_bytes hd
              rw [HS.out] at hc
              clear hd
              go_wp2
              exact ⟨rfl, rfl, Ext.refl _, hI⟩
            · go_wp2
              first | exact ⟨rfl, rfl, Ext.refl _, hI⟩ | exact ⟨rfl, trivial, Ext.refl _, hI⟩
            · go_wp2
              first | exact ⟨rfl, rfl, Ext.refl _, hI⟩ | exact ⟨rfl, trivial, Ext.refl _, hI⟩
            · go_wp2
              first | exact ⟨rfl, rfl, Ext.refl _, hI⟩ | exact ⟨rfl, trivial, Ext.refl _, hI⟩
            · go_wp2
              first | exact ⟨rfl, rfl, Ext.refl _, hI⟩ | exact ⟨rfl, trivial, Ext.refl _, hI⟩
            · obtain ⟨c0, c1, c2, c3', c4⟩ := HA.out.mono hI
              go_wp2
              exact ⟨rfl, rfl, Ext.refl _, hI⟩
            · obtain ⟨c0, c1, c2, c3', c4⟩ := HB.out.mono hI
              go_wp2
              exact ⟨rfl, rfl, Ext.refl _, hI⟩
            · go_wp2_with fail
              refine (vsame_any x y _ _ _ _ _ _ _ (HX.out.mono (HI.out.then hI)) (HY.out.mono (HI.out.then hI))).mono ?_
              rintro e w9 ⟨rfl, hx9⟩
              go_wp2
              exact ⟨rfl, rfl, hx9, hI.then hx9⟩
            · obtain ⟨c0, c1, c2, c3', c4⟩ := HA.out.mono hI
              go_wp2
              exact ⟨rfl, rfl, Ext.refl _, hI⟩
            · obtain ⟨c0, c1, c2, c3', c4⟩ := HB.out.mono hI
              go_wp2
              exact ⟨rfl, rfl, Ext.refl _, hI⟩
            · go_wp2_with fail
              refine (same14 x y _ _ _ _ _ _ _ (HX.out.mono (HI.out.then hI)) (HY.out.mono (HI.out.then hI))).mono ?_
              rintro e w9 ⟨rfl, hx9⟩
              go_wp2
              exact ⟨rfl, rfl, hx9, hI.then hx9⟩
            · go_wp2
              first | exact ⟨rfl, rfl, Ext.refl _, hI⟩ | exact ⟨rfl, trivial, Ext.refl _, hI⟩
            · go_wp2
              first | exact ⟨rfl, rfl, Ext.refl _, hI⟩ | exact ⟨rfl, trivial, Ext.refl _, hI⟩
            · go_wp2
              first | exact ⟨rfl, rfl, Ext.refl _, hI⟩ | exact ⟨rfl, trivial, Ext.refl _, hI⟩
            · obtain ⟨c0, c1, c2, c3', c4⟩ := HA.out.mono hI
              go_wp2
              exact ⟨rfl, rfl, Ext.refl _, hI⟩
            · go_wp2_with fail
              refine (size_any x _ _ _ _ (HX.out.mono (HI.out.then hI)) hs ⟨by omega, by omega, by omega⟩).mono ?_
              rintro e w9 ⟨rfl, hx9⟩
              go_wp2
              exact ⟨rfl, rfl, hx9, hI.then hx9⟩
            · obtain ⟨c0, c1, c2, c3', c4⟩ := HA.out.mono hI
              go_wp2
              exact ⟨rfl, rfl, Ext.refl _, hI⟩
            · go_wp2_with fail
              refine (refsize_any x _ _ _ _ (HX.out.mono (HI.out.then hI)) hs ⟨by omega, by omega, by omega⟩).mono ?_
              rintro e w9 ⟨rfl, hx9⟩
              go_wp2
              exact ⟨rfl, rfl, hx9, hI.then hx9⟩
            · go_wp2
              first | exact ⟨rfl, rfl, Ext.refl _, hI⟩ | exact ⟨rfl, trivial, Ext.refl _, hI⟩
            · go_wp2
              first | exact ⟨rfl, rfl, Ext.refl _, hI⟩ | exact ⟨rfl, trivial, Ext.refl _, hI⟩
            · go_wp2
              first | exact ⟨rfl, rfl, Ext.refl _, hI⟩ | exact ⟨rfl, trivial, Ext.refl _, hI⟩
            · go_wp2
              first | exact ⟨rfl, rfl, Ext.refl _, hI⟩ | exact ⟨rfl, trivial, Ext.refl _, hI⟩
            · obtain ⟨c0, _, _, _, _⟩ := HA.out.mono hI
              go_wp2
              exact ⟨rfl, rfl, Ext.refl _, hI⟩
            · go_wp2_with fail
              refine (name_any x.kind _).mono ?_
              rintro e w9 ⟨rfl, hx9⟩
              go_wp2
              exact ⟨rfl, rfl, hx9, hI.then hx9⟩
            · go_wp2
              first | exact ⟨rfl, rfl, Ext.refl _, hI⟩ | exact ⟨rfl, trivial, Ext.refl _, hI⟩
            · obtain ⟨c0, _, _, _, _⟩ := HA.out.mono hI
              go_wp2
              exact ⟨rfl, rfl, Ext.refl _, hI⟩
            · go_wp2_with fail
              refine (refname_any x.kind _).mono ?_
              rintro e w9 ⟨rfl, hx9⟩
              go_wp2
              exact ⟨rfl, rfl, hx9, hI.then hx9⟩
            · go_wp2
              first | exact ⟨rfl, rfl, Ext.refl _, hI⟩ | exact ⟨rfl, trivial, Ext.refl _, hI⟩
            · go_wp2
              first | exact ⟨rfl, rfl, Ext.refl _, hI⟩ | exact ⟨rfl, trivial, Ext.refl _, hI⟩
            · go_wp2
              first | exact ⟨rfl, rfl, Ext.refl _, hI⟩ | exact ⟨rfl, trivial, Ext.refl _, hI⟩
            · obtain ⟨c0, c1, c2, c3', c4⟩ := HA.out.mono hI
              go_wp2
              exact ⟨rfl, rfl, Ext.refl _, hI⟩
            · go_wp2_with fail
              refine (vclone_own x _ _ _ w _ (HI.out.then hI) hk hs HX.out (by omega) (by omega) (by omega)).mono ?_
              rintro e w9 ⟨cp, ct, cz, rfl, ho1, ho2, ho3, hx9⟩
              go_wp2
              exact ⟨rfl, ⟨_, _, _, rfl, ho1.slice, ho2.slice, ho3.slice⟩, hx9, hI.then hx9⟩
            · obtain ⟨c0, c1, c2, c3', c4⟩ := HA.out.mono hI
              go_wp2
              exact ⟨rfl, rfl, Ext.refl _, hI⟩
            · obtain ⟨hg, ⟨cp, ct, cz, e41, hpp⟩, e42⟩ := hd
              rw [e41, e42]
              clear e41 e42
              go_wp2_with fail
              refine (same14 x x _ _ _ _ _ _ _ hpp (HX.out.mono (HI.out.then hI))).mono ?_
              rintro e w9 ⟨rfl, hx9⟩
              rw [decide_eq_true (rfl : x = x)]
              go_wp2
              exact ⟨rfl, rfl, hx9, hI.then hx9⟩
            · go_wp2
              first | exact ⟨rfl, rfl, Ext.refl _, hI⟩ | exact ⟨rfl, trivial, Ext.refl _, hI⟩
            · go_wp2
              first | exact ⟨rfl, rfl, Ext.refl _, hI⟩ | exact ⟨rfl, trivial, Ext.refl _, hI⟩
          · intro vs w' hI hd
            simp only [actD, List.range, List.range.loop, List.foldl_cons, List.foldl_nil, List.length_cons, List.length_nil, List.getD_cons_zero, List.getD_cons_succ]
            have e45 := hd 45 (by decide)
            simp only [vpV] at e45
            rw [e45]
            clear hd e45
            go_simp
            rename World => w7
            obtain ⟨rest, hSr, hrl⟩ := HSL.out
            have Htl2 := HT.out.mono rByte_mono (HI.out.then hI)
            have hlen := HN.out
            obtain ⟨L, hL⟩ : ∃ L, packV x ++ rest = L := ⟨_, rfl⟩
            have hLl : L.length = N + rest.length := by rw [← hL, List.length_append, hlen]
            have hres : resU (L ++ tl) = (x, N, true) := by
              rw [← hL, List.append_assoc]
              have h := resU_some (unpack_pack Hr.out HWX.out (rest ++ tl))
              rw [hlen] at h
              exact h
            have Hres := Lib.hid hres
            rw [hL] at hSr
            have hcf := conv_fresh w7 S (by rw [hSr, bstr_size]; unfold maxLen; omega) (e := 5)
            rw [show S.toList = L by rw [hSr, bstr_toList]] at hcf
            have Hcf := Lib.hid hcf
            have HSs : Hid (S.size = L.length) := Lib.hid (by rw [hSr, bstr_size])
            have hcv := run_bytes_of_string (P := Try.prog) w7 9 38 5 S Try.underlying9 Try.underlying38 Try.underlying5
            rw [HSs.out] at hcv Hcf
            have Hext7 : Hid (Ext w7 (w7.drew.alloc (.cells (bytesRow S (grownCap w7 L.length 0 5)) 5 ((bytesRow S (grownCap w7 L.length 0 5)).size, (bytesRow S (grownCap w7 L.length 0 5)).size + 1)))) := Lib.hid ((Ext.refl w7).drew.alloc _)
            have HI7 := Lib.hid (HI.out.then hI)
            have HA7 := Lib.hid (HA.out.mono hI)
            have HT7 := Lib.hid Htl2
            have Hsm : Hid (L.length + tl.length ≤ 100000000) := Lib.hid (by omega)
            obtain ⟨GC, hGC⟩ : ∃ GC, grownCap w7 L.length 0 5 = GC := ⟨_, rfl⟩
            rw [hGC] at hcv Hcf Hext7
            obtain ⟨W7, hW7⟩ : ∃ W7, w7.drew.alloc (.cells (bytesRow S GC) 5 ((bytesRow S GC).size, (bytesRow S GC).size + 1)) = W7 := ⟨_, rfl⟩
            rw [hW7] at hcv Hcf Hext7
            clear hLl hres hSr hcf Htl2 hI hlen hL hGC hW7
            go_wp2_with (at_builtin; (refine conv_append_law rfl (.tmp 92) (.tmp 93) rfl el_B el_B_zero w7.heap.size GC L tl rfl Hcf.out _ rfl (HT7.out.mono rByte_mono Hext7.out) Hsm.out ?_); intro v8 w8 hs8 hx8; obtain ⟨A8, C8, hv8, _, _, _, _⟩ := id hs8; subst hv8)
            simp only [List.length_append] at hs8
            have Hx8 := Lib.hid (hx8 w7 Hext7.out (Nat.le_refl _))
            have HI8 := Lib.hid (HI7.out.then Hx8.out)
            have HA8 := Lib.hid (HA7.out.mono Hx8.out)
            clear hx8
            refine (unpack_any _ (L ++ tl) _ hs8 (by rw [List.length_append]; exact Hsm.out)).mono ?_
            rintro e w10 ⟨q1, q2, q3, rfl, hpts1, _, _, hx10⟩
            rw [Hres.out] at hpts1 ⊢
            simp only at hpts1 ⊢
            obtain ⟨qa, qc, rfl, _, _⟩ := len_of' hpts1.1
            obtain ⟨ra, rc, rfl, _, _⟩ := len_of' hpts1.2.1
            obtain ⟨sa, sc, rfl, _, _⟩ := len_of' hpts1.2.2
            have hbx := vbox_new w10 rfl x (.slice qa x.pairs.length qc) (.slice ra x.texts.length rc) (.slice sa x.zset.length sc) (ty := 30)
            have hxa : Ext w10 (w10.alloc (.cells #[.int .i64 x.kind, .string x.text, .slice qa x.pairs.length qc, .slice ra x.texts.length rc, .slice sa x.zset.length sc] 30)) := (Ext.refl w10).alloc _
            obtain ⟨c0, c1, c2, c3', c4⟩ := hbx
            obtain ⟨d0, d1, d2, d3, d4⟩ := (HA8.out.mono hx10).mono hxa
            have HP1 := Lib.hid (hpts1.mono hxa)
            have HI10 := Lib.hid ((HI8.out.then hx10).then hxa)
            clear hpts1 hx10 hxa hs8
            go_wp2_with fail
            refine (same14 x x _ _ _ _ _ _ _ HP1.out (HX.out.mono HI10.out)).mono ?_
            rintro e w11 ⟨rfl, hx11⟩
            rw [decide_eq_true (rfl : x = x)]
            go_wp2
            go_ret
            exact ⟨rfl, HI10.out.then hx11⟩
theorem valuePacks_all (w : World) (cs : Array Value) (y : Val) (hcs : cs.size = 5) (hy : rVal.rel w cs.toList y) (cs2 : Array Value) (y2 : Val) (hcs2 : cs2.size = 5) (hy2 : rVal.rel w cs2.toList y2) (v : Value) (l : List UInt8) (hv : SliceOf rByte w v l) :
    Calls Try.prog 9 #[.agg cs, .agg cs2, v] w fun e w' => e = .returned (.bool true) ∧ Ext w w' := by
  obtain ⟨p, t, z, e, h1, h2, h3⟩ := hy
  obtain rfl : cs = #[.int .i64 y.kind, .string y.text, p, t, z] := Array.toList_inj.1 e
  obtain ⟨p2, t2, z2, e2, h4, h5, h6⟩ := hy2
  obtain rfl : cs2 = #[.int .i64 y2.kind, .string y2.text, p2, t2, z2] := Array.toList_inj.1 e2
  exact valuePacks_walk w y y2 p t z p2 t2 z2 v l h3 h1 h2 h6 h4 h5 hv
end Go.Proofs.Ythclkljdnmokcaa
