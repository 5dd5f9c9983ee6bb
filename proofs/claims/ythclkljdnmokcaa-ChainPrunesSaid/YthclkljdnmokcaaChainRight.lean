/-
  The reference's Same of a chain with itself; chain.Right of right chains: walked.
-/
import Derived.Test.YthclkljdnmokcaaRefPrune
import Derived.Test.YthclkljdnmokcaaVSame
set_option linter.unusedVariables false
set_option linter.unusedSimpArgs false
namespace Go.Proofs.Ythclkljdnmokcaa
open Go.RowKit Go.Proofs

set_option maxRecDepth 100000 in
set_option maxHeartbeats 2000000 in
theorem refsame_refl (v1 v2 : Value) (l : List Ver) (w : World) (h1 : SliceOf rVer w v1 l) (h2 : SliceOf rVer w v2 l) (hl : l.length ≤ 1000) :
    Calls Try.prog 26 #[v1, v2] w fun e w' => e = .returned (.bool true) ∧ Ext w w' := by
  obtain ⟨a1, cap1, rfl, hle1, hm1⟩ := len_of' h1
  obtain ⟨a2, cap2, rfl, hle2, hm2⟩ := len_of' h2
  have H1 := Lib.hid h1
  have H2 := Lib.hid h2
  clear h1 h2
  go_enter Try.func26, Try.ntmps26
  go_wp2_with fail
  go_loopw [5] (fun i wr => ∃ k : Nat, i = .int .i64 (k : Int) ∧ k ≤ l.length ∧ Ext w wr) (fun i _ => l.length - (intOf i).toNat)
  case atStart => exact ⟨0, rfl, by omega, Ext.refl _⟩
  case round =>
    obtain ⟨k, rfl, hk, hx0⟩ := hrel
    have Hx0 := Lib.hid hx0
    clear hx0
    by_cases hlt : k < l.length
    · obtain ⟨x, hx⟩ : ∃ x, l[k]? = some x := ⟨_, List.getElem?_eq_getElem hlt⟩
      obtain ⟨g, o, p, t, z, rfl, hat, hok⟩ := (H1.out.mono rVer_mono Hx0.out).atVer hx
      obtain ⟨g2, o2, p2, t2, z2, rfl, hat2, hok2⟩ := (H2.out.mono rVer_mono Hx0.out).atVer hx
      obtain ⟨pa, pc, rfl, _⟩ := id hok.parts.1
      obtain ⟨ta, tc, rfl, _⟩ := id hok.parts.2.1
      obtain ⟨za, zc, rfl, _⟩ := id hok.parts.2.2
      obtain ⟨pa2, pc2, rfl, _⟩ := id hok2.parts.1
      obtain ⟨ta2, tc2, rfl, _⟩ := id hok2.parts.2.1
      obtain ⟨za2, zc2, rfl, _⟩ := id hok2.parts.2.2
      have Hat := Lib.hid hat
      have Hat2 := Lib.hid hat2
      have Hok := Lib.hid hok
      have Hok2 := Lib.hid hok2
      clear hat hat2 hok hok2 hx
      go_wp2_with fail
      refine wp_region_rely_lit rfl [some 17, some 18, some 19, some 20, some 21, some 22, some 23, some 24, some 25, some 26] rfl [[], [], [0, 1], [2], [], [], [4, 5], [6], [3, 7], [8]] (by kernel_rfl) (fun w' => Ext wr w') Ext
        (fun i w' v => match i with
          | 0 => v = .slice (some ⟨g, o, none⟩) l.length cap1
          | 1 => v = .int .i64 (k : Int)
          | 2 => v = .pointer (some ⟨g, o + k * 8, none⟩)
          | 3 => v = .agg #[.int .i64 x.stamp, .bool x.gone, .int .i64 x.expire, .int .i64 x.val.kind, .string x.val.text, .slice pa x.val.pairs.length pc, .slice ta x.val.texts.length tc, .slice za x.val.zset.length zc]
          | 4 => v = .slice (some ⟨g2, o2, none⟩) l.length cap2
          | 5 => v = .int .i64 (k : Int)
          | 6 => v = .pointer (some ⟨g2, o2 + k * 8, none⟩)
          | 7 => v = .agg #[.int .i64 x.stamp, .bool x.gone, .int .i64 x.expire, .int .i64 x.val.kind, .string x.val.text, .slice pa2 x.val.pairs.length pc2, .slice ta2 x.val.texts.length tc2, .slice za2 x.val.zset.length zc2]
          | 8 => v = .bool true
          | 9 => v = .bool false
          | _ => True) (fun i w1 w2 v _ h => h) ?_ ?_ ?_
      · exact (Ext.refl wr).drew
      · refine ⟨?_, ?_, ?_, ?_, ?_, ?_, ?_, ?_, ?_, ?_, trivial⟩
        all_goals (intro vs w' hI hd)
        all_goals simp only [opsFor, actD, List.getD_cons_zero, List.getD_cons_succ, List.foldl_cons, List.foldl_nil, List.mem_cons, List.not_mem_nil, or_false, forall_eq_or_imp, forall_eq] at hd ⊢
        · go_wp2
          first | exact ⟨rfl, rfl, Ext.refl _, hI⟩ | exact ⟨rfl, trivial, Ext.refl _, hI⟩
        · go_wp2
          first | exact ⟨rfl, rfl, Ext.refl _, hI⟩ | exact ⟨rfl, trivial, Ext.refl _, hI⟩
        · go_wp2
          first | exact ⟨rfl, rfl, Ext.refl _, hI⟩ | exact ⟨rfl, trivial, Ext.refl _, hI⟩
        · obtain ⟨c0, c1, c2, c3, c4, c5, c6, c7⟩ := Hat.out.mono hI
          go_wp2
          exact ⟨rfl, rfl, Ext.refl _, hI⟩
        · go_wp2
          first | exact ⟨rfl, rfl, Ext.refl _, hI⟩ | exact ⟨rfl, trivial, Ext.refl _, hI⟩
        · go_wp2
          first | exact ⟨rfl, rfl, Ext.refl _, hI⟩ | exact ⟨rfl, trivial, Ext.refl _, hI⟩
        · go_wp2
          first | exact ⟨rfl, rfl, Ext.refl _, hI⟩ | exact ⟨rfl, trivial, Ext.refl _, hI⟩
        · obtain ⟨c0, c1, c2, c3, c4, c5, c6, c7⟩ := Hat2.out.mono hI
          go_wp2
          exact ⟨rfl, rfl, Ext.refl _, hI⟩
        · go_wp2_with fail
          refine (same1 x x _ _ _ _ _ _ _ (Hok.out.parts.mono hI) (Hok2.out.parts.mono hI)).mono ?_
          rintro e w9 ⟨rfl, hx9⟩
          rw [decide_eq_true (rfl : x = x)]
          go_wp2
          exact ⟨rfl, rfl, hx9, hI.then hx9⟩
        · go_wp2
          first | exact ⟨rfl, rfl, Ext.refl _, hI⟩ | exact ⟨rfl, trivial, Ext.refl _, hI⟩
      · intro vs w' hI hd
        simp only [actD, List.range, List.range.loop, List.foldl_cons, List.foldl_nil, List.length_cons, List.length_nil, List.getD_cons_zero, List.getD_cons_succ]
        rw [show vs 9 = Value.bool false from hd 9 (by decide)]
        clear hd
        go_simp
        go_wp2_with fail
        exact ⟨⟨k + 1, by go_num, by omega, Hx0.out.then hI⟩, by simp [intOf]; omega⟩
    · obtain rfl : k = l.length := by omega
      go_wp2_with fail
      go_ret
      exact ⟨rfl, Hx0.out⟩
theorem oneB_in {x : Ver} (h : oneB x = true) : (1 ≤ x.stamp ∧ x.stamp ≤ 1152921504606846975 ∧ 0 ≤ x.expire ∧ x.expire ≤ 1099511627776) ∧ ((x.gone = true ∧ x.expire = 0 ∧ x.val = zeroVal) ∨ (x.gone = false ∧ rightV x.val = true)) := by
  unfold oneB at h
  cases hof : outOf x with
  | true => rw [hof] at h; simp at h
  | false =>
    rw [hof] at h
    unfold outOf at hof
    simp only [Bool.or_eq_false_iff, decide_eq_false_iff_not] at hof
    refine ⟨by omega, ?_⟩
    cases hg : x.gone with
    | true =>
      rw [hg] at h
      simp only [Bool.false_eq_true, if_false, if_true, Bool.and_eq_true, decide_eq_true_eq] at h
      exact .inl ⟨rfl, h.1, h.2⟩
    | false =>
      rw [hg] at h
      simp at h
      exact .inr ⟨rfl, h⟩
set_option maxRecDepth 100000 in
set_option maxHeartbeats 2000000 in
theorem cright_ok (x : Ver) (p t z : Value) (w : World) (hok : VerOk w x p t z) (h : oneB x = true) (hl2 : x.val.texts.length ≤ 1000000) (hl3 : x.val.zset.length ≤ 1000000) :
    Calls Try.prog 77 #[verV x p t z] w fun e w' => e = .returned (.bool true) ∧ Ext w w' := by
  obtain ⟨⟨h1, h2, h3, h4⟩, hg⟩ := oneB_in h
  obtain ⟨pa, pc, rfl, _⟩ := id hok.parts.1
  obtain ⟨ta, tc, rfl, _⟩ := id hok.parts.2.1
  obtain ⟨za, zc, rfl, _⟩ := id hok.parts.2.2
  have d1 : decide (1 ≤ x.stamp) = true := decide_eq_true h1
  have d2 : decide (x.stamp ≤ 1152921504606846975) = true := decide_eq_true h2
  have d3 : decide (0 ≤ x.expire) = true := decide_eq_true h3
  have d4 : decide (x.expire ≤ 1099511627776) = true := decide_eq_true h4
  unfold verV
  have hx0 : Ext w (w.alloc (.cells #[.int .i64 x.stamp, .bool x.gone, .int .i64 x.expire, .int .i64 x.val.kind, .string x.val.text, .slice pa x.val.pairs.length pc, .slice ta x.val.texts.length tc, .slice za x.val.zset.length zc] 32)) := (Ext.refl w).alloc _
  have Hx0 := Lib.hid hx0
  have Hok := Lib.hid hok
  have hb := heap_alloc_new w (.cells #[.int .i64 x.stamp, .bool x.gone, .int .i64 x.expire, .int .i64 x.val.kind, .string x.val.text, .slice pa x.val.pairs.length pc, .slice ta x.val.texts.length tc, .slice za x.val.zset.length zc] 32)
  obtain ⟨c0, _⟩ := cells_at (i := 0) (v := .int .i64 x.stamp) hb rfl
  obtain ⟨c1, _⟩ := cells_at (i := 1) (v := .bool x.gone) hb rfl
  obtain ⟨c2, _⟩ := cells_at (i := 2) (v := .int .i64 x.expire) hb rfl
  obtain ⟨c3, _⟩ := cells_at (i := 3) (v := .int .i64 x.val.kind) hb rfl
  obtain ⟨c4, _⟩ := cells_at (i := 4) (v := .string x.val.text) hb rfl
  obtain ⟨c5, _⟩ := cells_at (i := 5) (v := .slice pa x.val.pairs.length pc) hb rfl
  obtain ⟨c6, _⟩ := cells_at (i := 6) (v := .slice ta x.val.texts.length tc) hb rfl
  obtain ⟨c7, _⟩ := cells_at (i := 7) (v := .slice za x.val.zset.length zc) hb rfl
  clear hb hx0 hok h
  rcases hg with ⟨hg, he, hz⟩ | ⟨hg, hr⟩
  · have Hz := Lib.hid hz
    have heq : (x.expire == 0) = true := beq_iff_eq.2 he
    have c1' := c1.trans (congrArg (fun b => some (Value.bool b)) hg)
    clear hz he c1 hg
    go_enter Try.func77, Try.ntmps77
    go_wp2_with fail
    refine (vsame_any x.val zeroVal _ _ _ _ _ _ _ (Hok.out.parts.mono Hx0.out) ⟨sliceOf_nil _ _, sliceOf_nil _ _, sliceOf_nil _ _⟩).mono ?_
    rintro e w2 ⟨rfl, hx2⟩
    rw [decide_eq_true Hz.out]
    go_wp2_with fail
    go_ret
    exact ⟨rfl, Hx0.out.then hx2⟩
  · have Hr := Lib.hid hr
    have c1' := c1.trans (congrArg (fun b => some (Value.bool b)) hg)
    clear hr c1 hg
    go_enter Try.func77, Try.ntmps77
    go_wp2_with fail
    refine (vright_any x.val _ _ _ _ (Hok.out.parts.mono Hx0.out) Hok.out.text hl2 hl3).mono ?_
    rintro e w2 ⟨rfl, hx2⟩
    rw [Hr.out]
    go_wp2_with fail
    go_ret
    exact ⟨rfl, Hx0.out.then hx2⟩
set_option maxRecDepth 100000 in
set_option maxHeartbeats 4000000 in
theorem crises_ok (v : Value) (l : List Ver) (w : World) (hv : SliceOf rVer w v l) (hl : l.length ≤ 1000) (hone : ∀ (k : Nat) (x : Ver), l[k]? = some x → oneB x = true) (hr : Rising l) (hsm : SmallL l) :
    Calls Try.prog 59 #[v] w fun e w' => e = .returned (.bool true) ∧ Ext w w' := by
  obtain ⟨a, cap, rfl, hle, hm⟩ := len_of' hv
  have Hv := Lib.hid hv
  have Hone := Lib.hid hone
  have Hr := Lib.hid hr
  have Hsm := Lib.hid hsm
  clear hv hone hr hsm
  go_enter Try.func59, Try.ntmps59
  go_wp2_with fail
  go_loopw [3, 4, 7] (fun _ _ i wr => ∃ k : Nat, i = .int .i64 (k : Int) ∧ k ≤ l.length ∧ Ext w wr) (fun _ _ i _ => l.length - (intOf i).toNat)
  case atStart => exact ⟨0, rfl, by omega, Ext.refl _⟩
  case round =>
    obtain ⟨k, rfl, hk, hx0⟩ := hrel
    have Hx0 := Lib.hid hx0
    clear hx0
    by_cases hlt : k < l.length
    · obtain ⟨x, hx⟩ : ∃ x, l[k]? = some x := ⟨_, List.getElem?_eq_getElem hlt⟩
      obtain ⟨g, o, p, t, z, rfl, hat, hok⟩ := (Hv.out.mono rVer_mono Hx0.out).atVer hx
      obtain ⟨pa, pc, rfl, _⟩ := id hok.parts.1
      obtain ⟨ta, tc, rfl, _⟩ := id hok.parts.2.1
      obtain ⟨za, zc, rfl, _⟩ := id hok.parts.2.2
      obtain ⟨c0, c1, c2, c3, c4, c5, c6, c7⟩ := hat
      have H1 := Lib.hid (Hone.out k x hx)
      have hsx := Hsm.out k x hx
      have Hx := Lib.hid hx
      have Hok := Lib.hid hok
      have hbat : VerAt (wr.alloc (.cells #[.int .i64 x.stamp, .bool x.gone, .int .i64 x.expire, .int .i64 x.val.kind, .string x.val.text, .slice pa x.val.pairs.length pc, .slice ta x.val.texts.length tc, .slice za x.val.zset.length zc] 32)) wr.heap.size 0 x (.slice pa x.val.pairs.length pc) (.slice ta x.val.texts.length tc) (.slice za x.val.zset.length zc) := ⟨box1 _ _ _ rfl rfl, box1 _ _ _ rfl rfl, box1 _ _ _ rfl rfl, box1 _ _ _ rfl rfl, box1 _ _ _ rfl rfl, box1 _ _ _ rfl rfl, box1 _ _ _ rfl rfl, box1 _ _ _ rfl rfl⟩
      have hext : Ext wr (wr.alloc (.cells #[.int .i64 x.stamp, .bool x.gone, .int .i64 x.expire, .int .i64 x.val.kind, .string x.val.text, .slice pa x.val.pairs.length pc, .slice ta x.val.texts.length tc, .slice za x.val.zset.length zc] 32)) := (Ext.refl _).alloc _
      clear hx hok
      by_cases hk0 : k = 0
      · have hd3 : decide ((0 : Int) < (k : Int)) = false := decide_eq_false (by omega)
        have hd4 : decide (0 < k) = false := decide_eq_false (by omega)
        clear hk0
        go_wp2_with fail
        generalize wr.alloc (.cells #[.int .i64 x.stamp, .bool x.gone, .int .i64 x.expire, .int .i64 x.val.kind, .string x.val.text, .slice pa x.val.pairs.length pc, .slice ta x.val.texts.length tc, .slice za x.val.zset.length zc] 32) = W at hbat hext ⊢
        have Hbat := Lib.hid hbat
        have Hext := Lib.hid hext
        clear hbat hext c0 c1 c2 c3 c4 c5 c6 c7
        refine wp_region_rely_lit rfl [some 12, some 13, some 14, some 15, some 16, some 17, some 18, some 19, some 20, some 21, some 22, some 23, some 24, some 25, some 26, some 27, some 28, some 29] rfl [[], [0], [1], [2], [3], [3, 4], [3, 5], [6], [6], [6, 8], [6, 7, 9], [6, 10], [6, 11], [6], [6, 13], [6, 12, 14], [3, 6, 15], [3, 16]] (by kernel_rfl) (fun w' => Ext W w') Ext
          (fun i w' v => match i with
            | 0 => v = .agg #[.int .i64 x.stamp, .bool x.gone, .int .i64 x.expire, .int .i64 x.val.kind, .string x.val.text, .slice pa x.val.pairs.length pc, .slice ta x.val.texts.length tc, .slice za x.val.zset.length zc]
            | 1 => v = .bool true
            | 2 => v = .bool false
            | 3 => v = .bool false
            | 4 => v = .int .i64 (k : Int)
            | 5 => v = .bool false
            | 6 => v = .bool false
            | 7 => v = undef
            | 8 => v = undef
            | 9 => v = undef
            | 10 => v = undef
            | 11 => v = undef
            | 12 => v = undef
            | 13 => v = undef
            | 14 => v = undef
            | 15 => v = undef
            | 16 => v = .bool false
            | 17 => v = .bool false
            | _ => True) (fun i w1 w2 v _ h => h) ?_ ?_ ?_
        · exact (Ext.refl W).drew
        · refine ⟨?_, ?_, ?_, ?_, ?_, ?_, ?_, ?_, ?_, ?_, ?_, ?_, ?_, ?_, ?_, ?_, ?_, ?_, trivial⟩
          all_goals (intro vs w' hI hd)
          all_goals simp only [opsFor, actD, List.getD_cons_zero, List.getD_cons_succ, List.foldl_cons, List.foldl_nil, List.mem_cons, List.not_mem_nil, or_false, forall_eq_or_imp, forall_eq] at hd ⊢
          · obtain ⟨e0, e1, e2, e3, e4, e5, e6, e7⟩ := Hbat.out.mono hI
            go_wp2
            exact ⟨rfl, rfl, Ext.refl _, hI⟩
          · go_wp2_with fail
            refine (cright_ok x _ _ _ _ (Hok.out.mono (Hext.out.then hI)) H1.out hsx.2.1 hsx.2.2).mono ?_
            rintro e w9 ⟨rfl, hx9⟩
            go_wp2
            exact ⟨rfl, rfl, hx9, hI.then hx9⟩
          · go_wp2
            first | exact ⟨rfl, rfl, Ext.refl _, hI⟩ | exact ⟨rfl, trivial, Ext.refl _, hI⟩
          · go_wp2
            first | exact ⟨rfl, rfl, Ext.refl _, hI⟩ | exact ⟨rfl, trivial, Ext.refl _, hI⟩
          · go_wp2
            first | exact ⟨rfl, rfl, Ext.refl _, hI⟩ | exact ⟨rfl, trivial, Ext.refl _, hI⟩
          · go_wp2
            first | exact ⟨rfl, rfl, Ext.refl _, hI⟩ | exact ⟨rfl, trivial, Ext.refl _, hI⟩
          · go_wp2
            first | exact ⟨rfl, rfl, Ext.refl _, hI⟩ | exact ⟨rfl, trivial, Ext.refl _, hI⟩
          · simp only [hd]
            refine wpList_skip1 rfl ?_
            exact ⟨rfl, rfl, Ext.refl _, hI⟩
          · simp only [hd]
            refine wpList_skip1 rfl ?_
            exact ⟨rfl, rfl, Ext.refl _, hI⟩
          · simp only [hd]
            refine wpList_skip1 rfl ?_
            exact ⟨rfl, rfl, Ext.refl _, hI⟩
          · simp only [hd]
            refine wpList_skip1 rfl ?_
            exact ⟨rfl, rfl, Ext.refl _, hI⟩
          · simp only [hd]
            refine wpList_skip1 rfl ?_
            exact ⟨rfl, rfl, Ext.refl _, hI⟩
          · simp only [hd]
            refine wpList_skip1 rfl ?_
            exact ⟨rfl, rfl, Ext.refl _, hI⟩
          · simp only [hd]
            refine wpList_skip1 rfl ?_
            exact ⟨rfl, rfl, Ext.refl _, hI⟩
          · simp only [hd]
            refine wpList_skip1 rfl ?_
            exact ⟨rfl, rfl, Ext.refl _, hI⟩
          · simp only [hd]
            refine wpList_skip1 rfl ?_
            exact ⟨rfl, rfl, Ext.refl _, hI⟩
          · go_wp2
            first | exact ⟨rfl, rfl, Ext.refl _, hI⟩ | exact ⟨rfl, trivial, Ext.refl _, hI⟩
          · go_wp2
            first | exact ⟨rfl, rfl, Ext.refl _, hI⟩ | exact ⟨rfl, trivial, Ext.refl _, hI⟩
        · intro vs w' hI hd
          simp only [actD, List.range, List.range.loop, List.foldl_cons, List.foldl_nil, List.length_cons, List.length_nil, List.getD_cons_zero, List.getD_cons_succ]
          rw [show vs 17 = Value.bool false from hd 17 (by decide)]
          clear hd
          go_simp
          go_wp2_with fail
          exact ⟨⟨k + 1, by go_num, by omega, (Hx0.out.then Hext.out).then hI⟩, by simp [intOf]; omega⟩
      · obtain ⟨j, hj⟩ : ∃ j : Nat, (k : Int) - 1 = (j : Int) := ⟨k - 1, by omega⟩
        obtain ⟨y, hy⟩ : ∃ y, l[j]? = some y := ⟨_, List.getElem?_eq_getElem (by omega)⟩
        obtain ⟨g', o', p', t', z', e', hat', _⟩ := (Hv.out.mono rVer_mono Hx0.out).atVer hy
        obtain ⟨rfl, rfl⟩ : g = g' ∧ o = o' := by simpa using e'
        have hlt2 := Hr.out j k y x hy Hx.out (by omega)
        have Hy0 := Lib.hid hat'.c0
        have hd3 : decide ((0 : Int) < (k : Int)) = true := decide_eq_true (by omega)
        have hd4 : decide (0 < k) = true := decide_eq_true (by omega)
        have hd5 : decide (x.stamp ≤ y.stamp) = false := decide_eq_false (by omega)
        have hjl : j < l.length := by omega
        clear hk0 hy e' hat'
        go_wp2_with fail
        generalize wr.alloc (.cells #[.int .i64 x.stamp, .bool x.gone, .int .i64 x.expire, .int .i64 x.val.kind, .string x.val.text, .slice pa x.val.pairs.length pc, .slice ta x.val.texts.length tc, .slice za x.val.zset.length zc] 32) = W at hbat hext ⊢
        have Hbat := Lib.hid hbat
        have Hext := Lib.hid hext
        clear hbat hext c0 c1 c2 c3 c4 c5 c6 c7
        refine wp_region_rely_lit rfl [some 12, some 13, some 14, some 15, some 16, some 17, some 18, some 19, some 20, some 21, some 22, some 23, some 24, some 25, some 26, some 27, some 28, some 29] rfl [[], [0], [1], [2], [3], [3, 4], [3, 5], [6], [6], [6, 8], [6, 7, 9], [6, 10], [6, 11], [6], [6, 13], [6, 12, 14], [3, 6, 15], [3, 16]] (by kernel_rfl) (fun w' => Ext W w') Ext
          (fun i w' v => match i with
            | 0 => v = .agg #[.int .i64 x.stamp, .bool x.gone, .int .i64 x.expire, .int .i64 x.val.kind, .string x.val.text, .slice pa x.val.pairs.length pc, .slice ta x.val.texts.length tc, .slice za x.val.zset.length zc]
            | 1 => v = .bool true
            | 2 => v = .bool false
            | 3 => v = .bool false
            | 4 => v = .int .i64 (k : Int)
            | 5 => v = .bool true
            | 6 => v = .bool true
            | 7 => v = .slice (some ⟨g, o, none⟩) l.length cap
            | 8 => v = .int .i64 (k : Int)
            | 9 => v = .int .i64 (j : Int)
            | 10 => v = .pointer (some ⟨g, o + j * 8, none⟩)
            | 11 => v = .pointer (some ⟨g, o + j * 8, none⟩)
            | 12 => v = .int .i64 y.stamp
            | 13 => v = .pointer (some ⟨wr.heap.size, 0, none⟩)
            | 14 => v = .int .i64 x.stamp
            | 15 => v = .bool false
            | 16 => v = .bool false
            | 17 => v = .bool false
            | _ => True) (fun i w1 w2 v _ h => h) ?_ ?_ ?_
        · exact (Ext.refl W).drew
        · refine ⟨?_, ?_, ?_, ?_, ?_, ?_, ?_, ?_, ?_, ?_, ?_, ?_, ?_, ?_, ?_, ?_, ?_, ?_, trivial⟩
          all_goals (intro vs w' hI hd)
          all_goals simp only [opsFor, actD, List.getD_cons_zero, List.getD_cons_succ, List.foldl_cons, List.foldl_nil, List.mem_cons, List.not_mem_nil, or_false, forall_eq_or_imp, forall_eq] at hd ⊢
          · obtain ⟨e0, e1, e2, e3, e4, e5, e6, e7⟩ := Hbat.out.mono hI
            go_wp2
            exact ⟨rfl, rfl, Ext.refl _, hI⟩
          · go_wp2_with fail
            refine (cright_ok x _ _ _ _ (Hok.out.mono (Hext.out.then hI)) H1.out hsx.2.1 hsx.2.2).mono ?_
            rintro e w9 ⟨rfl, hx9⟩
            go_wp2
            exact ⟨rfl, rfl, hx9, hI.then hx9⟩
          · go_wp2
            first | exact ⟨rfl, rfl, Ext.refl _, hI⟩ | exact ⟨rfl, trivial, Ext.refl _, hI⟩
          · go_wp2
            first | exact ⟨rfl, rfl, Ext.refl _, hI⟩ | exact ⟨rfl, trivial, Ext.refl _, hI⟩
          · go_wp2
            first | exact ⟨rfl, rfl, Ext.refl _, hI⟩ | exact ⟨rfl, trivial, Ext.refl _, hI⟩
          · go_wp2
            first | exact ⟨rfl, rfl, Ext.refl _, hI⟩ | exact ⟨rfl, trivial, Ext.refl _, hI⟩
          · go_wp2
            first | exact ⟨rfl, rfl, Ext.refl _, hI⟩ | exact ⟨rfl, trivial, Ext.refl _, hI⟩
          · go_wp2
            first | exact ⟨rfl, rfl, Ext.refl _, hI⟩ | exact ⟨rfl, trivial, Ext.refl _, hI⟩
          · go_wp2
            first | exact ⟨rfl, rfl, Ext.refl _, hI⟩ | exact ⟨rfl, trivial, Ext.refl _, hI⟩
          · go_wp2
            first | exact ⟨rfl, rfl, Ext.refl _, hI⟩ | exact ⟨rfl, trivial, Ext.refl _, hI⟩
          · go_wp2
            first | exact ⟨rfl, rfl, Ext.refl _, hI⟩ | exact ⟨rfl, trivial, Ext.refl _, hI⟩
          · go_wp2
            first | exact ⟨rfl, rfl, Ext.refl _, hI⟩ | exact ⟨rfl, trivial, Ext.refl _, hI⟩
          · have e0 := (Hext.out.then hI).cell Hy0.out
            go_wp2
            exact ⟨rfl, rfl, Ext.refl _, hI⟩
          · go_wp2
            first | exact ⟨rfl, rfl, Ext.refl _, hI⟩ | exact ⟨rfl, trivial, Ext.refl _, hI⟩
          · obtain ⟨e0, _, _, _, _, _, _, _⟩ := Hbat.out.mono hI
            go_wp2
            exact ⟨rfl, rfl, Ext.refl _, hI⟩
          · go_wp2
            first | exact ⟨rfl, rfl, Ext.refl _, hI⟩ | exact ⟨rfl, trivial, Ext.refl _, hI⟩
          · go_wp2
            first | exact ⟨rfl, rfl, Ext.refl _, hI⟩ | exact ⟨rfl, trivial, Ext.refl _, hI⟩
          · go_wp2
            first | exact ⟨rfl, rfl, Ext.refl _, hI⟩ | exact ⟨rfl, trivial, Ext.refl _, hI⟩
        · intro vs w' hI hd
          simp only [actD, List.range, List.range.loop, List.foldl_cons, List.foldl_nil, List.length_cons, List.length_nil, List.getD_cons_zero, List.getD_cons_succ]
          rw [show vs 17 = Value.bool false from hd 17 (by decide)]
          clear hd
          go_simp
          go_wp2_with fail
          exact ⟨⟨k + 1, by go_num, by omega, (Hx0.out.then Hext.out).then hI⟩, by simp [intOf]; omega⟩
    · obtain rfl : k = l.length := by omega
      go_wp2_with fail
      go_ret
      exact ⟨rfl, Hx0.out⟩
set_option maxRecDepth 100000 in
set_option maxHeartbeats 1000000 in
theorem chright_ok (v : Value) (l : List Ver) (w : World) (hv : SliceOf rVer w v l) (hl : l.length ≤ 64) (hone : ∀ (k : Nat) (x : Ver), l[k]? = some x → oneB x = true) (hr : Rising l) (hsm : SmallL l) :
    Calls Try.prog 28 #[v] w fun e w' => e = .returned (.bool true) ∧ Ext w w' := by
  obtain ⟨a, cap, rfl, hle, hm⟩ := len_of' hv
  have hd : decide ((l.length : Int) ≤ 64) = true := decide_eq_true (by omega)
  have hd2 : decide (l.length ≤ 64) = true := decide_eq_true hl
  have Hv := Lib.hid hv
  have Hone := Lib.hid hone
  have Hr := Lib.hid hr
  have Hsm := Lib.hid hsm
  clear hv hone hr hsm
  go_enter Try.func28, Try.ntmps28
  go_wp2_with fail
  refine (crises_ok _ l _ Hv.out (by omega) Hone.out Hr.out Hsm.out).mono ?_
  rintro e w1 ⟨rfl, hx1⟩
  go_wp2_with fail
  go_ret
  exact ⟨rfl, hx1⟩
end Go.Proofs.Ythclkljdnmokcaa
