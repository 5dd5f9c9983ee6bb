/-
  The law ValueApart, walked.
-/
import Derived.Test.YthclkljdnmokcaaParse2
import Derived.Test.YthclkljdnmokcaaAwake14
import Derived.Test.YthclkljdnmokcaaSame14
import Derived.Test.YthclkljdnmokcaaSmall15
set_option linter.unusedVariables false
set_option linter.unusedSimpArgs false
namespace Go.Proofs.Ythclkljdnmokcaa
open Go.RowKit Go.Proofs

/-- a value in a box -/
structure VBox (w : World) (g : Nat) (x : Val) (p t z : Value) : Prop where
  c0 : w.cell? ⟨g, 0, none⟩ = some (.int .i64 x.kind)
  c1 : w.cell? ⟨g, 1, none⟩ = some (.string x.text)
  c2 : w.cell? ⟨g, 2, none⟩ = some p
  c3 : w.cell? ⟨g, 3, none⟩ = some t
  c4 : w.cell? ⟨g, 4, none⟩ = some z
theorem VBox.mono {w w' : World} {g : Nat} {x : Val} {p t z : Value} (h : VBox w g x p t z) (hx : Ext w w') : VBox w' g x p t z :=
  ⟨hx.cell h.c0, hx.cell h.c1, hx.cell h.c2, hx.cell h.c3, hx.cell h.c4⟩
theorem vbox_new (w : World) {g : Nat} (hg : g = w.heap.size) (x : Val) (p t z : Value) {ty : TypeId} : VBox (w.alloc (.cells #[.int .i64 x.kind, .string x.text, p, t, z] ty)) g x p t z :=
  ⟨box1 _ _ _ hg rfl, box1 _ _ _ hg rfl, box1 _ _ _ hg rfl, box1 _ _ _ hg rfl, box1 _ _ _ hg rfl⟩
theorem slice_val {g : Nat} (w : World) (hg : g = w.heap.size) {x : Val} {p t z : Value} (hx : Parts w p t z x) (hk : (Lit.int .i64 x.kind).wf = true) (hs : x.text.size ≤ maxLen) {ty : TypeId} : SliceOf rVal (w.alloc (.cells #[.int .i64 x.kind, .string x.text, p, t, z] ty)) (.slice (some ⟨g, 0, none⟩) 1 1) [x] := by
  subst hg
  refine sliceOf_heap (heap_alloc_new w _) [x] rfl (Nat.le_refl _) (by decide) fun j y hy => ?_
  obtain ⟨rfl, rfl⟩ : j = 0 ∧ x = y := by cases j <;> simp_all
  refine ⟨[.int .i64 x.kind, .string x.text, p, t, z], rfl, fun i hi => ?_, p, t, z, rfl, hk, hs, hx.mono ((Ext.refl w).alloc _)⟩
  simp
/-- what the packing region's operations leave -/
def apV (x y : Val) (p t z p2 t2 z2 : Value) (i : Nat) (w : World) (v : Value) : Prop :=
  match i with
  | 0 => v = .agg #[.int .i64 x.kind, .string x.text, p, t, z]
  | 1 => SliceOf rVal w v [x]
  | 2 => SliceOf rByte w v (packAll [x])
  | 3 => v = .string (bstr (packAll [x]))
  | 4 => v = .agg #[.int .i64 y.kind, .string y.text, p2, t2, z2]
  | 5 => SliceOf rVal w v [y]
  | 6 => SliceOf rByte w v (packAll [y])
  | 7 => v = .string (bstr (packAll [y]))
  | 8 => v = .string (bstr (packAll [x]))
  | 9 => v = .string (bstr (packAll [y]))
  | _ => True
theorem apV_mono (x y : Val) (p t z p2 t2 z2 : Value) : ∀ i w1 w2 v, Ext w1 w2 → apV x y p t z p2 t2 z2 i w1 v → apV x y p t z p2 t2 z2 i w2 v := by
  intro i w1 w2 v hx h
  match i with
  | 0 => exact h
  | 1 => exact SliceOf.mono rVal_mono hx h
  | 2 => exact SliceOf.mono rByte_mono hx h
  | 3 => exact h
  | 4 => exact h
  | 5 => exact SliceOf.mono rVal_mono hx h
  | 6 => exact SliceOf.mono rByte_mono hx h
  | 7 => exact h
  | 8 => exact h
  | 9 => exact h
  | _ + 10 => trivial
theorem packAll_one {x : Val} (h : rightV x = true) : packAll [x] = packV x := by simp [packAll, h]
theorem parts_wf {w : World} {p t z : Value} {x : Val} (h : Parts w p t z x) : WfV x := by
  intro m hm
  obtain ⟨i, hi, e⟩ := List.getElem_of_mem hm
  obtain ⟨a, c, e2, _⟩ := id h.2.2
  have h2 := h.2.2
  rw [e2] at h2
  obtain ⟨_, _, _, _, _, hw, _⟩ := h2.atMb (k := i) (x := m) (by rw [List.getElem?_eq_getElem hi, e])
  exact hw
theorem extract_bytes (l : List UInt8) (n : Nat) : ((bstr l).extract 0 n).toList = l.take n := by
  rw [ByteArray.toList_eq]
  simp [bstr, ByteArray.data_extract]
set_option maxRecDepth 100000 in
set_option maxHeartbeats 4000000 in
theorem valueApart_walk (w : World) (x y : Val) (p t z p2 t2 z2 : Value) (hx : Parts w p t z x) (hk : (Lit.int .i64 x.kind).wf = true) (hs : x.text.size ≤ maxLen) (hy : Parts w p2 t2 z2 y) (hk2 : (Lit.int .i64 y.kind).wf = true) (hs2 : y.text.size ≤ maxLen) :
    Calls Try.prog 4 #[.agg #[.int .i64 x.kind, .string x.text, p, t, z], .agg #[.int .i64 y.kind, .string y.text, p2, t2, z2]] w fun e w' => e = .returned (.bool true) ∧ Ext w w' := by
  have HWX := Lib.hid (parts_wf hx)
  have HWY := Lib.hid (parts_wf hy)
  obtain ⟨pa, pc, rfl, hp1, hp2⟩ := len_of' hx.1
  obtain ⟨ta, tc, rfl, ht1, ht2⟩ := len_of' hx.2.1
  obtain ⟨za, zc, rfl, hz1, hz2⟩ := len_of' hx.2.2
  obtain ⟨pa2, pc2, rfl, hp3, hp4⟩ := len_of' hy.1
  obtain ⟨ta2, tc2, rfl, ht3, ht4⟩ := len_of' hy.2.1
  obtain ⟨za2, zc2, rfl, hz3, hz4⟩ := len_of' hy.2.2
  have HX := Lib.hid hx
  have HY := Lib.hid hy
  clear hx hy
  go_enter Try.func4, Try.ntmps4
  go_wp2_with fail
  have hA : VBox ((w.alloc (.cells #[.int .i64 x.kind, .string x.text, .slice pa x.pairs.length pc, .slice ta x.texts.length tc, .slice za x.zset.length zc] 30)).alloc (.cells #[.int .i64 y.kind, .string y.text, .slice pa2 y.pairs.length pc2, .slice ta2 y.texts.length tc2, .slice za2 y.zset.length zc2] 30)) w.heap.size x _ _ _ := (vbox_new w rfl x _ _ _).mono ((Ext.refl _).alloc _)
  have hB : VBox ((w.alloc (.cells #[.int .i64 x.kind, .string x.text, .slice pa x.pairs.length pc, .slice ta x.texts.length tc, .slice za x.zset.length zc] 30)).alloc (.cells #[.int .i64 y.kind, .string y.text, .slice pa2 y.pairs.length pc2, .slice ta2 y.texts.length tc2, .slice za2 y.zset.length zc2] 30)) (w.heap.size + 1) y _ _ _ := vbox_new _ (by simp) y _ _ _
  have hI0 : Ext w ((w.alloc (.cells #[.int .i64 x.kind, .string x.text, .slice pa x.pairs.length pc, .slice ta x.texts.length tc, .slice za x.zset.length zc] 30)).alloc (.cells #[.int .i64 y.kind, .string y.text, .slice pa2 y.pairs.length pc2, .slice ta2 y.texts.length tc2, .slice za2 y.zset.length zc2] 30)) := ((Ext.refl w).alloc _).alloc _
  generalize (w.alloc (.cells #[.int .i64 x.kind, .string x.text, .slice pa x.pairs.length pc, .slice ta x.texts.length tc, .slice za x.zset.length zc] 30)).alloc (.cells #[.int .i64 y.kind, .string y.text, .slice pa2 y.pairs.length pc2, .slice ta2 y.texts.length tc2, .slice za2 y.zset.length zc2] 30) = W0 at hA hB hI0 ⊢
  refine (awake14 _).mono ?_
  rintro e w1 ⟨rfl, hx1⟩
  have HI1 := Lib.hid (hI0.then hx1)
  obtain ⟨c0, c1, c2, c3, c4⟩ := hA.mono hx1
  have HA1 := Lib.hid (hA.mono hx1)
  have HB1 := Lib.hid (hB.mono hx1)
  clear hA hB hI0 hx1
  go_wp2_with fail
  refine (small14_any x _ _ _ _ (HX.out.mono HI1.out) hs).mono ?_
  rintro e w2 ⟨b, rfl, hb, hx2⟩
  have Hb := Lib.hid hb
  have HA2 := Lib.hid (HA1.out.mono hx2)
  have HB2 := Lib.hid (HB1.out.mono hx2)
  have HI2 := Lib.hid (HI1.out.then hx2)
  clear hb hx2 c0 c1 c2 c3 c4
  cases b with
  | false =>
    go_wp2_with fail
    refine (awake14 _).mono ?_
    rintro e w9 ⟨rfl, hx9⟩
    go_wp2
    go_ret
    exact ⟨rfl, HI2.out.then hx9⟩
  | true =>
    have hfx : Few x := by have := Hb.out rfl; unfold SmallV at this; unfold Few; omega
    obtain ⟨c0, c1, c2, c3, c4⟩ := HB2.out
    go_wp2_with fail
    refine (small14_any y _ _ _ _ (HY.out.mono HI2.out) hs2).mono ?_
    rintro e w3 ⟨b, rfl, hb, hx3⟩
    have Hb2 := Lib.hid hb
    have HA3 := Lib.hid (HA2.out.mono hx3)
    have HB3 := Lib.hid (HB2.out.mono hx3)
    have HI3 := Lib.hid (HI2.out.then hx3)
    clear hb hx3 c0 c1 c2 c3 c4
    cases b with
    | false =>
      go_wp2_with fail
      refine (awake14 _).mono ?_
      rintro e w9 ⟨rfl, hx9⟩
      go_wp2
      go_ret
      exact ⟨rfl, HI3.out.then hx9⟩
    | true =>
      have hfy : Few y := by have := Hb2.out rfl; unfold SmallV at this; unfold Few; omega
      obtain ⟨c0, c1, c2, c3, c4⟩ := HA3.out
      go_wp2_with fail
      refine (right14_any x _ _ _ _ (HX.out.mono HI3.out) hs).mono ?_
      rintro e w4 ⟨rfl, hx4⟩
      have HA4 := Lib.hid (HA3.out.mono hx4)
      have HB4 := Lib.hid (HB3.out.mono hx4)
      have HI4 := Lib.hid (HI3.out.then hx4)
      clear hx4 c0 c1 c2 c3 c4
      cases hr : rightV x with
      | false =>
        clear hr
        go_wp2_with fail
        refine (awake14 _).mono ?_
        rintro e w9 ⟨rfl, hx9⟩
        go_wp2
        go_ret
        exact ⟨rfl, HI4.out.then hx9⟩
      | true =>
        have Hr := Lib.hid hr
        obtain ⟨c0, c1, c2, c3, c4⟩ := HB4.out
        clear hr
        go_wp2_with fail
        refine (right14_any y _ _ _ _ (HY.out.mono HI4.out) hs2).mono ?_
        rintro e w5 ⟨rfl, hx5⟩
        have HA := Lib.hid (HA4.out.mono hx5)
        have HB := Lib.hid (HB4.out.mono hx5)
        have HI := Lib.hid (HI4.out.then hx5)
        clear hx5 c0 c1 c2 c3 c4
        cases hr2 : rightV y with
        | false =>
          clear hr2
          go_wp2_with fail
          refine (awake14 _).mono ?_
          rintro e w9 ⟨rfl, hx9⟩
          go_wp2
          go_ret
          exact ⟨rfl, HI.out.then hx9⟩
        | true =>
          have Hr2 := Lib.hid hr2
          clear hr2
          go_wp2_with fail
          refine wp_region_rely_lit rfl [some 31, some 32, some 33, some 34, some 35, some 36, some 37, some 38, some 5, some 6] rfl [[], [0], [1], [2], [], [4], [5], [6], [3], [7]] (by kernel_rfl) (fun w' => Ext w5 w') Ext
            (apV x y (.slice pa x.pairs.length pc) (.slice ta x.texts.length tc) (.slice za x.zset.length zc) (.slice pa2 y.pairs.length pc2) (.slice ta2 y.texts.length tc2) (.slice za2 y.zset.length zc2)) (apV_mono _ _ _ _ _ _ _ _) ?_ ?_ ?_
          · exact (Ext.refl w5).drew
          · refine ⟨?_, ?_, ?_, ?_, ?_, ?_, ?_, ?_, ?_, ?_, trivial⟩
            all_goals (intro vs w' hI hd)
            all_goals simp only [apV, opsFor, actD, List.getD_cons_zero, List.getD_cons_succ, List.foldl_cons, List.foldl_nil, List.mem_cons, List.not_mem_nil, or_false, forall_eq_or_imp, forall_eq] at hd ⊢
            · obtain ⟨c0, c1, c2, c3, c4⟩ := HA.out.mono hI
              go_wp2
              exact ⟨rfl, rfl, Ext.refl _, hI⟩
            · go_wp2
              exact ⟨rfl, slice_val _ rfl (HX.out.mono (HI.out.then hI)) hk hs, (Ext.refl _).alloc _, hI.alloc _⟩
            · obtain ⟨a, cap, e, _, _⟩ := len_of' hd
              rw [e] at hd ⊢
              go_wp2_with fail
              refine (pack_any _ [x] _ hd (by simp) (by simpa using hfx)).mono ?_
              rintro e2 w3 ⟨v2, rfl, hs3, _, hx3⟩
              go_wp2
              exact ⟨rfl, hs3, hx3, hI.then hx3⟩
            · have hc := conv_bytes hd
              go_wp2
              exact ⟨rfl, rfl, Ext.refl _, hI⟩
            · obtain ⟨c0, c1, c2, c3, c4⟩ := HB.out.mono hI
              go_wp2
              exact ⟨rfl, rfl, Ext.refl _, hI⟩
            · go_wp2
              exact ⟨rfl, slice_val _ rfl (HY.out.mono (HI.out.then hI)) hk2 hs2, (Ext.refl _).alloc _, hI.alloc _⟩
            · obtain ⟨a, cap, e, _, _⟩ := len_of' hd
              rw [e] at hd ⊢
              go_wp2_with fail
              refine (pack_any _ [y] _ hd (by simp) (by simpa using hfy)).mono ?_
              rintro e2 w3 ⟨v2, rfl, hs3, _, hx3⟩
              go_wp2
              exact ⟨rfl, hs3, hx3, hI.then hx3⟩
            · have hc := conv_bytes hd
              go_wp2
              exact ⟨rfl, rfl, Ext.refl _, hI⟩
            · go_wp2
              first | exact ⟨rfl, rfl, Ext.refl _, hI⟩ | exact ⟨rfl, trivial, Ext.refl _, hI⟩
            · go_wp2
              first | exact ⟨rfl, rfl, Ext.refl _, hI⟩ | exact ⟨rfl, trivial, Ext.refl _, hI⟩
          · intro vs w' hI hd
            simp only [actD, List.range, List.range.loop, List.foldl_cons, List.foldl_nil, List.length_cons, List.length_nil, List.getD_cons_zero, List.getD_cons_succ]
            have e8 := hd 8 (by decide)
            have e9 := hd 9 (by decide)
            simp only [apV] at e8 e9
            rw [e8, e9]
            clear hd e8 e9
            go_simp
            rename World => w6
            have HI5 := Lib.hid (HI.out.then hI)
            have HA5 := Lib.hid (HA.out.mono hI)
            have HB5 := Lib.hid (HB.out.mono hI)
            obtain ⟨X, hX⟩ : ∃ X, bstr (packAll [x]) = X := ⟨_, rfl⟩
            obtain ⟨Y, hY⟩ : ∃ Y, bstr (packAll [y]) = Y := ⟨_, rfl⟩
            rw [hX, hY]
            have hXs : X.size = (packV x).length := by rw [← hX, bstr_size, packAll_one Hr.out]
            have hYs : Y.size = (packV y).length := by rw [← hY, bstr_size, packAll_one Hr2.out]
            have hXm : X.size ≤ 4200000 := by rw [hXs]; exact packV_le Hr.out
            have hYm : Y.size ≤ 4200000 := by rw [hYs]; exact packV_le Hr2.out
            obtain ⟨n, hn⟩ : ∃ n, min X.size Y.size = n := ⟨_, rfl⟩
            obtain ⟨q, hq⟩ : ∃ q, decide (x = y) = q := ⟨_, rfl⟩
            have Hq := Lib.hid hq
            have hnx : n ≤ X.size := by omega
            have hny : n ≤ Y.size := by omega
            have hmin : min (X.size : Int) (Y.size : Int) = (n : Int) := by omega
            have hqs : ((X.extract 0 n).toList == (Y.extract 0 n).toList) = q := by
              rw [← hX, ← hY, extract_bytes, extract_bytes, packAll_one Hr.out, packAll_one Hr2.out, ← hq]
              have h := pack_apart Hr.out Hr2.out HWX.out HWY.out n (by rw [← hn, hXs, hYs])
              by_cases hxy : x = y
              · rw [decide_eq_true hxy]; exact beq_iff_eq.2 (h.2 hxy)
              · rw [decide_eq_false hxy]; exact beq_eq_false_iff_ne.2 (fun e => hxy (h.1 e))
            clear hX hY hXs hYs hq hI
            by_cases hle : X.size ≤ Y.size
            · obtain rfl : n = X.size := by omega
              have hle2 : decide ((X.size : Int) ≤ (Y.size : Int)) = true := decide_eq_true (by omega)
              rw [show X.extract 0 X.size = X by simp] at hqs
              go_wp2_with fail
              refine wp_region_rely_lit rfl [some 44, some 45, some 46, some 47, some 48, some 49, some 50, some 51, some 52, some 53, some 54, some 4] rfl [[], [], [0, 1], [], [], [3, 4], [2, 5], [], [], [7, 8], [6, 9], [10]] (by kernel_rfl) (fun w' => Ext w6 w') Ext
                (fun i w' v => match i with
                  | 0 => v = .string X
                  | 1 => v = .int .i64 (X.size : Int)
                  | 2 => v = .string X
                  | 3 => v = .string Y
                  | 4 => v = .int .i64 (X.size : Int)
                  | 5 => v = .string (Y.extract 0 X.size)
                  | 6 => v = .bool q
                  | 7 => v = .agg #[.int .i64 x.kind, .string x.text, .slice pa x.pairs.length pc, .slice ta x.texts.length tc, .slice za x.zset.length zc]
                  | 8 => v = .agg #[.int .i64 y.kind, .string y.text, .slice pa2 y.pairs.length pc2, .slice ta2 y.texts.length tc2, .slice za2 y.zset.length zc2]
                  | 9 => v = .bool q
                  | 10 => v = .bool true
                  | 11 => v = .bool true
                  | _ => True) (fun i w1 w2 v _ h => h) ?_ ?_ ?_
              · exact (Ext.refl w6).drew
              · refine ⟨?_, ?_, ?_, ?_, ?_, ?_, ?_, ?_, ?_, ?_, ?_, ?_, trivial⟩
                all_goals (intro vs w' hI hd)
                all_goals simp only [opsFor, actD, List.getD_cons_zero, List.getD_cons_succ, List.foldl_cons, List.foldl_nil, List.mem_cons, List.not_mem_nil, or_false, forall_eq_or_imp, forall_eq] at hd ⊢
                · go_wp2
                  first | exact ⟨rfl, rfl, Ext.refl _, hI⟩ | exact ⟨rfl, trivial, Ext.refl _, hI⟩
                · go_wp2
                  first | exact ⟨rfl, rfl, Ext.refl _, hI⟩ | exact ⟨rfl, trivial, Ext.refl _, hI⟩
                · go_wp2
                  first | exact ⟨rfl, rfl, Ext.refl _, hI⟩ | exact ⟨rfl, trivial, Ext.refl _, hI⟩
                · go_wp2
                  first | exact ⟨rfl, rfl, Ext.refl _, hI⟩ | exact ⟨rfl, trivial, Ext.refl _, hI⟩
                · go_wp2
                  first | exact ⟨rfl, rfl, Ext.refl _, hI⟩ | exact ⟨rfl, trivial, Ext.refl _, hI⟩
                · go_wp2
                  first | exact ⟨rfl, rfl, Ext.refl _, hI⟩ | exact ⟨rfl, trivial, Ext.refl _, hI⟩
                · go_wp2
                  first | exact ⟨rfl, rfl, Ext.refl _, hI⟩ | exact ⟨rfl, trivial, Ext.refl _, hI⟩
                · obtain ⟨c0, c1, c2, c3, c4⟩ := HA5.out.mono hI
                  go_wp2
                  exact ⟨rfl, rfl, Ext.refl _, hI⟩
                · obtain ⟨c0, c1, c2, c3, c4⟩ := HB5.out.mono hI
                  go_wp2
                  exact ⟨rfl, rfl, Ext.refl _, hI⟩
                · go_wp2_with fail
                  refine (same14 x y _ _ _ _ _ _ _ (HX.out.mono (HI5.out.then hI)) (HY.out.mono (HI5.out.then hI))).mono ?_
                  rintro e w3 ⟨rfl, hx3⟩
                  rw [Hq.out]
                  go_wp2
                  exact ⟨rfl, rfl, hx3, hI.then hx3⟩
                · go_wp2
                  first | exact ⟨rfl, rfl, Ext.refl _, hI⟩ | exact ⟨rfl, trivial, Ext.refl _, hI⟩
                · go_wp2
                  first | exact ⟨rfl, rfl, Ext.refl _, hI⟩ | exact ⟨rfl, trivial, Ext.refl _, hI⟩
              · intro vs w' hI hd
                simp only [actD, List.range, List.range.loop, List.foldl_cons, List.foldl_nil, List.length_cons, List.length_nil, List.getD_cons_zero, List.getD_cons_succ]
                rw [show vs 11 = Value.bool true from hd 11 (by decide)]
                clear hd
                go_simp
                go_wp2_with fail
                go_ret
                exact ⟨rfl, HI5.out.then hI⟩
            · obtain rfl : n = Y.size := by omega
              have hle2 : decide ((X.size : Int) ≤ (Y.size : Int)) = false := decide_eq_false (by omega)
              rw [show Y.extract 0 Y.size = Y by simp] at hqs
              go_wp2_with fail
              refine wp_region_rely_lit rfl [some 44, some 45, some 46, some 47, some 48, some 49, some 50, some 51, some 52, some 53, some 54, some 4] rfl [[], [], [0, 1], [], [], [3, 4], [2, 5], [], [], [7, 8], [6, 9], [10]] (by kernel_rfl) (fun w' => Ext w6 w') Ext
                (fun i w' v => match i with
                  | 0 => v = .string X
                  | 1 => v = .int .i64 (Y.size : Int)
                  | 2 => v = .string (X.extract 0 Y.size)
                  | 3 => v = .string Y
                  | 4 => v = .int .i64 (Y.size : Int)
                  | 5 => v = .string Y
                  | 6 => v = .bool q
                  | 7 => v = .agg #[.int .i64 x.kind, .string x.text, .slice pa x.pairs.length pc, .slice ta x.texts.length tc, .slice za x.zset.length zc]
                  | 8 => v = .agg #[.int .i64 y.kind, .string y.text, .slice pa2 y.pairs.length pc2, .slice ta2 y.texts.length tc2, .slice za2 y.zset.length zc2]
                  | 9 => v = .bool q
                  | 10 => v = .bool true
                  | 11 => v = .bool true
                  | _ => True) (fun i w1 w2 v _ h => h) ?_ ?_ ?_
              · exact (Ext.refl w6).drew
              · refine ⟨?_, ?_, ?_, ?_, ?_, ?_, ?_, ?_, ?_, ?_, ?_, ?_, trivial⟩
                all_goals (intro vs w' hI hd)
                all_goals simp only [opsFor, actD, List.getD_cons_zero, List.getD_cons_succ, List.foldl_cons, List.foldl_nil, List.mem_cons, List.not_mem_nil, or_false, forall_eq_or_imp, forall_eq] at hd ⊢
                · go_wp2
                  first | exact ⟨rfl, rfl, Ext.refl _, hI⟩ | exact ⟨rfl, trivial, Ext.refl _, hI⟩
                · go_wp2
                  first | exact ⟨rfl, rfl, Ext.refl _, hI⟩ | exact ⟨rfl, trivial, Ext.refl _, hI⟩
                · go_wp2
                  first | exact ⟨rfl, rfl, Ext.refl _, hI⟩ | exact ⟨rfl, trivial, Ext.refl _, hI⟩
                · go_wp2
                  first | exact ⟨rfl, rfl, Ext.refl _, hI⟩ | exact ⟨rfl, trivial, Ext.refl _, hI⟩
                · go_wp2
                  first | exact ⟨rfl, rfl, Ext.refl _, hI⟩ | exact ⟨rfl, trivial, Ext.refl _, hI⟩
                · go_wp2
                  first | exact ⟨rfl, rfl, Ext.refl _, hI⟩ | exact ⟨rfl, trivial, Ext.refl _, hI⟩
                · go_wp2
                  first | exact ⟨rfl, rfl, Ext.refl _, hI⟩ | exact ⟨rfl, trivial, Ext.refl _, hI⟩
                · obtain ⟨c0, c1, c2, c3, c4⟩ := HA5.out.mono hI
                  go_wp2
                  exact ⟨rfl, rfl, Ext.refl _, hI⟩
                · obtain ⟨c0, c1, c2, c3, c4⟩ := HB5.out.mono hI
                  go_wp2
                  exact ⟨rfl, rfl, Ext.refl _, hI⟩
                · go_wp2_with fail
                  refine (same14 x y _ _ _ _ _ _ _ (HX.out.mono (HI5.out.then hI)) (HY.out.mono (HI5.out.then hI))).mono ?_
                  rintro e w3 ⟨rfl, hx3⟩
                  rw [Hq.out]
                  go_wp2
                  exact ⟨rfl, rfl, hx3, hI.then hx3⟩
                · go_wp2
                  first | exact ⟨rfl, rfl, Ext.refl _, hI⟩ | exact ⟨rfl, trivial, Ext.refl _, hI⟩
                · go_wp2
                  first | exact ⟨rfl, rfl, Ext.refl _, hI⟩ | exact ⟨rfl, trivial, Ext.refl _, hI⟩
              · intro vs w' hI hd
                simp only [actD, List.range, List.range.loop, List.foldl_cons, List.foldl_nil, List.length_cons, List.length_nil, List.getD_cons_zero, List.getD_cons_succ]
                rw [show vs 11 = Value.bool true from hd 11 (by decide)]
                clear hd
                go_simp
                go_wp2_with fail
                go_ret
                exact ⟨rfl, HI5.out.then hI⟩
theorem valueApart_all (w : World) (cs : Array Value) (y : Val) (hcs : cs.size = 5) (hy : rVal.rel w cs.toList y) (cs2 : Array Value) (y2 : Val) (hcs2 : cs2.size = 5) (hy2 : rVal.rel w cs2.toList y2) :
    Calls Try.prog 4 #[.agg cs, .agg cs2] w fun e w' => e = .returned (.bool true) ∧ Ext w w' := by
  obtain ⟨p, t, z, e, h1, h2, h3⟩ := hy
  obtain rfl : cs = #[.int .i64 y.kind, .string y.text, p, t, z] := Array.toList_inj.1 e
  obtain ⟨p2, t2, z2, e2, h4, h5, h6⟩ := hy2
  obtain rfl : cs2 = #[.int .i64 y2.kind, .string y2.text, p2, t2, z2] := Array.toList_inj.1 e2
  exact valueApart_walk w y y2 p t z p2 t2 z2 h3 h1 h2 h6 h4 h5
end Go.Proofs.Ythclkljdnmokcaa
