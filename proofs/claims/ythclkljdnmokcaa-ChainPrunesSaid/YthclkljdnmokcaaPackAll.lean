/-
  value.packed: any value laid; walked.
-/
import Derived.Test.YthclkljdnmokcaaPackVal
set_option linter.unusedVariables false
set_option linter.unusedSimpArgs false
namespace Go.Proofs.Ythclkljdnmokcaa
open Go.RowKit Go.Proofs

theorem len_of' {α : Type} {r : Rep α} {w : World} {v : Value} {l : List α} (h : SliceOf r w v l) : ∃ a cap, v = .slice a l.length cap ∧ l.length ≤ cap ∧ cap ≤ 9223372036854775807 := by
  obtain ⟨a, cap, rfl, hle, hm, _, _⟩ := h
  unfold maxLen at hm
  exact ⟨a, cap, rfl, hle, by omega⟩
set_option maxRecDepth 100000 in
set_option maxHeartbeats 400000 in
theorem size_any (x : Val) (p t z : Value) (w : World) (hx : Parts w p t z x) (hs : x.text.size ≤ maxLen) (hb : x.pairs.length ≤ 100000 ∧ x.texts.length ≤ 100000 ∧ x.zset.length ≤ 100000) :
    Calls Try.prog 32 #[.agg #[.int .i64 x.kind, .string x.text, p, t, z]] w fun e w' => e = .returned (.int .i64 (sizeV x)) ∧ Ext w w' := by
  obtain ⟨k, s, P, T, Z⟩ := x
  obtain ⟨hp, ht, hz⟩ := hx
  obtain ⟨a1, c1, rfl, hp1, hp2⟩ := len_of' hp
  obtain ⟨a2, c2, rfl, ht1, ht2⟩ := len_of' ht
  obtain ⟨a3, c3, rfl, hz1, hz2⟩ := len_of' hz
  simp only at hs hb
  unfold maxLen at hs
  obtain ⟨hb1, hb2, hb3⟩ := hb
  clear hp ht hz
  have hx0 : Ext w (w.alloc (.cells #[.int .i64 k, .string s, .slice a1 P.length c1, .slice a2 T.length c2, .slice a3 Z.length c3] 30)) := (Ext.refl w).alloc _
  by_cases hk : k = 1
  · subst hk
    go_enter Try.func32, Try.ntmps32
    go_wp2
    go_ret
    exact ⟨by unfold sizeV; simp, hx0⟩
  · have hkk : (k == 1) = false := beq_eq_false_iff_ne.2 hk
    have Hk := Lib.hid hk
    clear hk
    go_enter Try.func32, Try.ntmps32
    go_wp2
    go_ret
    exact ⟨by unfold sizeV; simp [Hk.out], hx0⟩
theorem pairsB_drop {P : List (ByteArray × ByteArray)} {k : Nat} {y : ByteArray × ByteArray} (hy : P[k]? = some y) : pairsB (P.drop k) = textsB [y.1, y.2] ++ pairsB (P.drop (k + 1)) := by
  obtain ⟨h1, h2⟩ := List.getElem?_eq_some_iff.1 hy
  rw [List.drop_eq_getElem_cons h1, h2]; rfl
theorem zsetB_drop {Z : List (Int × ByteArray)} {k : Nat} {y : Int × ByteArray} (hy : Z[k]? = some y) : zsetB (Z.drop k) = octets y.1 8 ++ textsB [y.2] ++ zsetB (Z.drop (k + 1)) := by
  obtain ⟨h1, h2⟩ := List.getElem?_eq_some_iff.1 hy
  rw [List.drop_eq_getElem_cons h1, h2]; rfl
theorem wf_bounds {x : Int} (h : (Lit.int .i64 x).wf = true) : -9223372036854775808 ≤ x ∧ x ≤ 9223372036854775807 := by
  simpa [Lit.wf, IntKind.min, IntKind.max, IntKind.signed, IntKind.bits] using h
set_option maxRecDepth 100000 in
set_option maxHeartbeats 4000000 in
theorem value_any (g : Nat) (l : List UInt8) (v : Value) (x : Val) (p t z : Value) (w0 w : World) (hst : PackSt g w0 w l v) (hx : Parts w0 p t z x) (hk : (Lit.int .i64 x.kind).wf = true) (hk1 : x.kind ≠ 1) (hs : x.text.size ≤ maxLen) (hb : x.pairs.length ≤ 100000 ∧ x.texts.length ≤ 100000 ∧ x.zset.length ≤ 100000) (hl : l.length + (packV x).length ≤ 100000000) :
    Calls Try.prog 43 #[.pointer (some ⟨g, 0, none⟩), .agg #[.int .i64 x.kind, .string x.text, p, t, z]] w fun e w' => (∃ u, e = .returned u) ∧ ∃ v', PackSt g w0 w' (l ++ packV x) v' ∧ FrT g w w' := by
  have hsz := fun w' hh => size_any x p t z w' hh hs hb
  have Hsz := Lib.hid hsz
  have hpk : packV x = octets x.kind 1 ++ (octets (sizeV x) 2 ++ (pairsB x.pairs ++ (textsB x.texts ++ zsetB x.zset))) := if_neg hk1
  have hsv : 0 ≤ sizeV x ∧ sizeV x ≤ 300000 := by unfold sizeV; rw [if_neg hk1]; omega
  have Hsv := Lib.hid hsv
  rw [hpk] at hl ⊢
  generalize sizeV x = sv at Hsz Hsv hl
  clear hsz hpk hsv
  obtain ⟨k, s, P, T, Z⟩ := x
  obtain ⟨hp, ht, hz⟩ := hx
  have Hx := Lib.hid (show Parts w0 p t z ⟨k, s, P, T, Z⟩ from ⟨hp, ht, hz⟩)
  obtain ⟨a1, c1, rfl, hp1, hp2⟩ := len_of' hp
  obtain ⟨a2, c2, rfl, ht1, ht2⟩ := len_of' ht
  obtain ⟨a3, c3, rfl, hz1, hz2⟩ := len_of' hz
  simp only at hk hk1 hs hb hl hp1 ht1 hz1 ⊢
  obtain ⟨hb1, hb2, hb3⟩ := hb
  simp only [List.length_append, octets_length] at hl
  generalize hTOT : l ++ (octets k 1 ++ (octets sv 2 ++ (pairsB P ++ (textsB T ++ zsetB Z)))) = TOT
  have hTl : TOT.length ≤ 100000000 := by rw [← hTOT]; simp only [List.length_append, octets_length]; exact hl
  have HTOT := Lib.hid hTOT
  clear hTOT
  have hkk : (k == 1) = false := beq_eq_false_iff_ne.2 hk1
  have Hk := Lib.hid (wf_bounds hk)
  have hgl := hst.lt
  have Hst0 := Lib.hid (hst.alloc (.cells #[.int .i64 k, .string s, .slice a1 P.length c1, .slice a2 T.length c2, .slice a3 Z.length c3] 30))
  have hnew := Lib.hid (heap_alloc_new w (.cells #[.int .i64 k, .string s, .slice a1 P.length c1, .slice a2 T.length c2, .slice a3 Z.length c3] 30))
  have HL : Hid (l.length ≤ 100000000) := Lib.hid (by omega)
  clear hst hk hk1 hp ht hz
  go_enter Try.func43, Try.ntmps43
  go_wp2_with fail
  refine (number_any g l v k 1 w0 _ Hst0.out Hk.out (by omega) HL.out).mono ?_
  rintro e w1 ⟨⟨x, rfl⟩, v1, hst1, hfr1⟩
  have hb1' := hfr1.block hnew.out (by omega) (by decide)
  have Hb1 := Lib.hid hb1'
  obtain ⟨d0, _⟩ := cells_at (i := 0) (v := .int .i64 k) hb1' rfl
  obtain ⟨d1, _⟩ := cells_at (i := 1) (v := .string s) hb1' rfl
  obtain ⟨d2, _⟩ := cells_at (i := 2) (v := .slice a1 P.length c1) hb1' rfl
  obtain ⟨d3, _⟩ := cells_at (i := 3) (v := .slice a2 T.length c2) hb1' rfl
  obtain ⟨d4, _⟩ := cells_at (i := 4) (v := .slice a3 Z.length c3) hb1' rfl
  have Hst1 := Lib.hid hst1
  have Hfr1 := Lib.hid hfr1
  clear hb1' hst1 hfr1
  go_wp2_with fail
  refine (Hsz.out _ (Hx.out.mono Hst1.out.ext)).mono ?_
  rintro e w2 ⟨rfl, hx2⟩
  have Hst2 := Lib.hid (Hst1.out.later hx2)
  have Hx2 := Lib.hid hx2
  have HL2 : Hid ((l ++ octets k 1).length ≤ 100000000) := Lib.hid (by rw [List.length_append, octets_length]; omega)
  clear d0 d1 d2 d3 d4 hx2
  go_wp2_with fail
  refine (number_any g _ v1 sv 2 w0 _ Hst2.out ⟨by have := Hsv.out; omega, by have := Hsv.out; omega⟩ (by omega) HL2.out).mono ?_
  rintro e w3 ⟨⟨x2, rfl⟩, v3, hst3, hfr3⟩
  have hFr3 := (Hfr1.out.trans (FrT.ext Hx2.out)).trans hfr3
  have hb3' := hFr3.block hnew.out (by omega) (by decide)
  obtain ⟨d2, _⟩ := cells_at (i := 2) (v := .slice a1 P.length c1) hb3' rfl
  have Hst3 := Lib.hid hst3
  have HFr3 := Lib.hid ((FrT.ext ((Ext.refl w).alloc (.cells #[.int .i64 k, .string s, .slice a1 P.length c1, .slice a2 T.length c2, .slice a3 Z.length c3] 30))).trans hFr3)
  have HB3 := Lib.hid (hFr3.block hnew.out (by omega) (by decide))
  have hT3 : l ++ octets k 1 ++ octets sv 2 ++ (pairsB (P.drop 0) ++ (textsB T ++ zsetB Z)) = TOT := by rw [← HTOT.out, List.drop_zero]; simp
  have HT3 := Lib.hid hT3
  clear hb3' hst3 hfr3 hFr3 hT3
  go_wp2_with fail
  clear d2
  go_loopw [5, 27] (fun _ i wr => ∃ (j : Nat) (M : List UInt8) (u : Value), i = .int .i64 (j : Int) ∧ j ≤ P.length ∧ PackSt g w0 wr M u ∧ M ++ (pairsB (P.drop j) ++ (textsB T ++ zsetB Z)) = TOT ∧ FrT g w wr ∧ wr.heap[w.heap.size]? = some (.cells #[.int .i64 k, .string s, .slice a1 P.length c1, .slice a2 T.length c2, .slice a3 Z.length c3] 30 (0, 0))) (fun _ i _ => P.length - (intOf i).toNat)
  case atStart => exact ⟨0, _, v3, rfl, by omega, Hst3.out, HT3.out, HFr3.out, HB3.out⟩
  case round =>
    obtain ⟨j, M, u, rfl, hj, hst, hT, hfr, hbx⟩ := hrel
    have Hst := Lib.hid hst
    have HT := Lib.hid hT
    have Hfr := Lib.hid hfr
    have Hbx := Lib.hid hbx
    have hpr := Hx.out.1.mono rPr_mono hst.ext
    have hgr := hst.lt
    clear hst hT hfr hbx
    by_cases hlt : j < P.length
    · obtain ⟨y, hy⟩ : ∃ y, P[j]? = some y := ⟨_, List.getElem?_eq_getElem hlt⟩
      obtain ⟨g2, o2, rfl, hu, hu', hs1, hs2⟩ := hpr.atPr hy
      have hT2 := HT.out
      rw [pairsB_drop hy] at hT2
      have hT3 : M ++ textsB [y.1, y.2] ++ (pairsB (P.drop (j + 1)) ++ (textsB T ++ zsetB Z)) = TOT := by rw [← hT2]; simp
      have HT3 := Lib.hid hT3
      have hlen := congrArg List.length hT3
      simp only [List.length_append] at hlen
      have HLe : Hid (M.length + (textsB [y.1, y.2]).length ≤ 100000000) := Lib.hid (by omega)
      have HM : Hid (∀ q ∈ [y.1, y.2], q.size ≤ maxLen) := Lib.hid (fun q hq => by
        rcases List.mem_cons.1 hq with e | hq
        · rw [e]; exact hs1
        · (obtain rfl : q = y.2 := by simpa using hq); exact hs2)
      clear hy hT2 hT3 hlen hs1 hs2
      have Hw4 := Lib.hid (Hst.out.alloc (.cells #[.string y.1, .string y.2] 43))
      have Hlaid := Lib.hid (laid_S (g := g) (w := wr.alloc (.cells #[.string y.1, .string y.2] 43)) (G := wr.heap.size + 1) [y.1, y.2] #[.string y.1, .string y.2] (by simp) Hw4.out.lt 2 rfl (by decide) rfl HM.out)
      go_wp2_with fail
      refine (text_any g M u _ [y.1, y.2] w0 _ (Hw4.out.alloc _) (fun w' hf _ => Hlaid.out w' hf) HLe.out (by simp)).mono ?_
      rintro e w5 ⟨⟨x5, rfl⟩, v5, hst5, hfr5⟩
      have hF := (FrT.ext (((Ext.refl wr).alloc (.cells #[.string y.1, .string y.2] 43)).alloc (.cells #[.string y.1, .string y.2] 9))).trans hfr5
      have HF := Lib.hid hF
      have Hst5 := Lib.hid hst5
      clear hst5 hfr5 hF
      go_wp2_with fail
      exact ⟨⟨j + 1, _, v5, by go_num, by omega, Hst5.out, HT3.out, Hfr.out.trans HF.out, HF.out.block Hbx.out (by omega) (by decide)⟩, by simp [intOf]; omega⟩
    · obtain rfl : j = P.length := by omega
      have hT2 := HT.out
      rw [List.drop_length] at hT2
      have hT3 : M ++ textsB T ++ zsetB (Z.drop 0) = TOT := by rw [← hT2, List.drop_zero]; simp [pairsB]
      have HT3 := Lib.hid hT3
      have hlen := congrArg List.length hT3
      simp only [List.length_append] at hlen
      have HLe : Hid (M.length + (textsB T).length ≤ 100000000) := Lib.hid (by omega)
      obtain ⟨d3, _⟩ := cells_at (i := 3) (v := .slice a2 T.length c2) Hbx.out rfl
      clear hT2 hT3 hlen
      go_wp2_with fail
      refine (text_any g M u _ T w0 _ Hst.out (fun w' _ hx => Hx.out.2.1.mono rStr_mono hx) HLe.out (by omega)).mono ?_
      rintro e w5 ⟨⟨x5, rfl⟩, v5, hst5, hfr5⟩
      have Hst5 := Lib.hid hst5
      have hbx5 := hfr5.block Hbx.out (by omega) (by decide)
      have Hbx5 := Lib.hid hbx5
      have Hfr5 := Lib.hid (Hfr.out.trans hfr5)
      obtain ⟨d4, _⟩ := cells_at (i := 4) (v := .slice a3 Z.length c3) hbx5 rfl
      clear hst5 hfr5 hbx5 d3
      go_wp2_with fail
      clear d4
      go_loopw [7, 46] (fun _ i w6 => ∃ (j : Nat) (M : List UInt8) (u : Value), i = .int .i64 (j : Int) ∧ j ≤ Z.length ∧ PackSt g w0 w6 M u ∧ M ++ zsetB (Z.drop j) = TOT ∧ FrT g w w6 ∧ w6.heap[w.heap.size]? = some (.cells #[.int .i64 k, .string s, .slice a1 P.length c1, .slice a2 T.length c2, .slice a3 Z.length c3] 30 (0, 0))) (fun _ i _ => Z.length - (intOf i).toNat)
      case atStart => exact ⟨0, _, v5, rfl, by omega, Hst5.out, HT3.out, Hfr5.out, Hbx5.out⟩
      case round =>
        obtain ⟨j, M, u, rfl, hj, hst, hT, hfr, hbx⟩ := hrel
        have Hst := Lib.hid hst
        have HT := Lib.hid hT
        have Hfr := Lib.hid hfr
        have Hbx := Lib.hid hbx
        have hzr := Hx.out.2.2.mono rMb_mono hst.ext
        have hgr := hst.lt
        clear hst hT hfr hbx
        by_cases hlt : j < Z.length
        · obtain ⟨y, hy⟩ : ∃ y, Z[j]? = some y := ⟨_, List.getElem?_eq_getElem hlt⟩
          obtain ⟨g2, o2, rfl, hu, hu', hs1, hs2⟩ := hzr.atMb hy
          have hT2 := HT.out
          rw [zsetB_drop hy] at hT2
          have hT3 : M ++ octets y.1 8 ++ textsB [y.2] ++ zsetB (Z.drop (j + 1)) = TOT := by rw [← hT2]; simp
          have HT3 := Lib.hid hT3
          have hlen := congrArg List.length hT3
          simp only [List.length_append, octets_length] at hlen
          have HLe : Hid (M.length ≤ 100000000) := Lib.hid (by omega)
          have HLe2 : Hid ((M ++ octets y.1 8).length + (textsB [y.2]).length ≤ 100000000) := Lib.hid (by rw [List.length_append, octets_length]; omega)
          have HM : Hid (∀ q ∈ [y.2], q.size ≤ maxLen) := Lib.hid (fun q hq => by (obtain rfl : q = y.2 := by simpa using hq); exact hs2)
          have Hsc := Lib.hid (wf_bounds hs1)
          clear hy hT2 hT3 hlen hs1 hs2
          have Hw4 := Lib.hid (Hst.out.alloc (.cells #[.int .i64 y.1, .string y.2] 45))
          have hm0 := Lib.hid (heap_alloc_new wr (.cells #[.int .i64 y.1, .string y.2] 45))
          go_wp2_with fail
          refine (number_any g M u y.1 8 w0 _ Hw4.out Hsc.out (by omega) HLe.out).mono ?_
          rintro e w7 ⟨⟨x7, rfl⟩, v7, hst7, hfr7⟩
          have hm7 := hfr7.block hm0.out (by omega) (by decide)
          obtain ⟨m1, _⟩ := cells_at (i := 1) (v := .string y.2) hm7 rfl
          have hgr7 := hst7.lt
          have Hst7 := Lib.hid hst7
          have Hw8 := Lib.hid (hst7.alloc (.cells #[.string y.2] 9))
          have Hlaid := Lib.hid (laid_S (g := g) (w := w7) (G := w7.heap.size) [y.2] #[.string y.2] rfl hgr7 1 rfl (by decide) rfl HM.out)
          have HF7 := Lib.hid (((FrT.ext ((Ext.refl wr).alloc (.cells #[.int .i64 y.1, .string y.2] 45))).trans hfr7).trans (FrT.ext ((Ext.refl w7).alloc (.cells #[.string y.2] 9))))
          clear hm7 hst7 hfr7
          go_wp2_with fail
          refine (text_any g _ v7 _ [y.2] w0 _ Hw8.out (fun w' hf _ => Hlaid.out w' hf) HLe2.out (by simp)).mono ?_
          rintro e w9 ⟨⟨x9, rfl⟩, v9, hst9, hfr9⟩
          have HF := Lib.hid (HF7.out.trans hfr9)
          have Hst9 := Lib.hid hst9
          clear hst9 hfr9 m1
          go_wp2_with fail
          exact ⟨⟨j + 1, _, v9, by go_num, by omega, Hst9.out, HT3.out, Hfr.out.trans HF.out, HF.out.block Hbx.out (by omega) (by decide)⟩, by simp [intOf]; omega⟩
        · obtain rfl : j = Z.length := by omega
          have hT2 := HT.out
          rw [List.drop_length] at hT2
          have hT3 : M = TOT := by rw [← hT2]; simp [zsetB]
          have Hst9 : Hid (PackSt g w0 wr TOT u) := Lib.hid (hT3 ▸ Hst.out)
          clear hT2 hT3
          go_wp2_with fail
          refine bodyPost_end (results_none rfl _ _ _) rfl ?_
          exact ⟨⟨_, rfl⟩, ⟨u, Hst9.out⟩, Hfr.out⟩
end Go.Proofs.Ythclkljdnmokcaa
