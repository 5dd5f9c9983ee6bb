/-
  hash.Right, walked.
-/
import Derived.Test.YthclkljdnmokcaaSetRight
import Derived.Test.YthclkljdnmokcaaRightZ
set_option linter.unusedVariables false
set_option linter.unusedSimpArgs false
namespace Go.Proofs.Ythclkljdnmokcaa
open Go.RowKit Go.Proofs

set_option maxRecDepth 100000 in
set_option maxHeartbeats 400000 in
theorem hlong_any (x1 x2 : ByteArray) (w : World) (h1 : x1.size ≤ maxLen) (h2 : x2.size ≤ maxLen) : Calls Try.prog 78 #[.agg #[.string x1, .string x2]] w fun e w' => e = .returned (.bool (decide (4096 < x1.size) || decide (4096 < x2.size))) ∧ Ext w w' := by
  unfold maxLen at h1 h2
  by_cases hA : 4096 < x1.size
  · have hd : decide ((4096 : Int) < (x1.size : Int)) = true := decide_eq_true (by omega)
    rw [decide_eq_true hA, Bool.true_or]
    go_enter Try.func78, Try.ntmps78
    go_wp2
    go_ret
    exact ⟨by first | rfl | simp, (Ext.refl w).alloc _⟩
  · have hd : decide ((4096 : Int) < (x1.size : Int)) = false := decide_eq_false (by omega)
    rw [decide_eq_false hA, Bool.false_or]
    go_enter Try.func78, Try.ntmps78
    go_wp2
    go_ret
    exact ⟨by first | rfl | (show Ending.returned (Value.bool _) = _; congr 2; exact decide_eq_decide.2 (by omega)), (Ext.refl w).alloc _⟩
set_option maxRecDepth 100000 in
set_option maxHeartbeats 4000000 in
theorem hashright_any (v : Value) (l : List (ByteArray × ByteArray)) (w : World) (hv : SliceOf rPr w v l) :
    Calls Try.prog 64 #[v] w fun e w' => e = .returned (.bool (decide (l.length ≤ 512) && allN l.length (okP l))) ∧ Ext w w' := by
  obtain ⟨a, cap, rfl, hle, hm, h0, _⟩ := id hv
  unfold maxLen at hm
  generalize hRR : (decide (l.length ≤ 512) && allN l.length (okP l)) = RR
  have Hr := Lib.hid hRR
  clear hRR
  go_enter Try.func64, Try.ntmps64
  go_wp2_with fail
  go_loopw [3, 4, 7] (fun _ _ i wr => ∃ k : Nat, i = .int .i64 (k : Int) ∧ k ≤ l.length ∧ (∀ j, j < k → okP l j = true) ∧ Ext w wr) (fun _ _ i _ => l.length - (intOf i).toNat)
  case atStart => exact ⟨0, rfl, by omega, fun j hj => by omega, Ext.refl _⟩
  case round =>
    obtain ⟨k, rfl, hk, hall, hx0⟩ := hrel
    have Hall := Lib.hid hall
    have Hx0 := Lib.hid hx0
    have hvr := hv.mono rPr_mono hx0
    clear hall hx0
    by_cases hlt : k < l.length
    · obtain ⟨x, hx⟩ : ∃ x, l[k]? = some x := ⟨_, List.getElem?_eq_getElem hlt⟩
      obtain ⟨g, o, rfl, hu, hu', hs1, hs2⟩ := hvr.atPr hx
      have Hx := Lib.hid hx
      obtain ⟨x1, x2⟩ := x
      simp only at hu hu' hs1 hs2
      clear hx
      cases hlg : (decide (4096 < x1.size) || decide (4096 < x2.size)) with
      | true =>
        have Hlg := Lib.hid hlg
        have Hf : Hid (RR = false) := Lib.hid (by rw [← Hr.out, allN_false hlt (by unfold okP; rw [Hx.out]; rw [Bool.or_eq_true] at hlg; rcases hlg with h | h <;> (have := of_decide_eq_true h; simp [this]))]; simp)
        clear hlg
        go_wp2_with fail
        have b0 := box1 wr #[.string x1, .string x2] 43 (g := wr.heap.size) (i := 0) (v := .string x1) rfl rfl
        have b1 := box1 wr #[.string x1, .string x2] 43 (g := wr.heap.size) (i := 1) (v := .string x2) rfl rfl
        have hW : Ext wr (wr.alloc (.cells #[.string x1, .string x2] 43)) := (Ext.refl wr).alloc _
        generalize wr.alloc (.cells #[.string x1, .string x2] 43) = W at b0 b1 hW ⊢
        have HW := Lib.hid hW
        clear hW
        refine wp_region_rely_lit rfl [some 12, some 13, some 14, some 15, some 16, some 17, some 18, some 19, some 20, some 21, some 22, some 23, some 24, some 25, some 26, some 27, some 28] rfl [[], [0], [1], [2], [2, 3], [2, 4], [5], [5], [5, 7], [5, 6, 8], [5, 9], [5, 10], [5], [5, 12], [5, 11, 13], [2, 5, 14], [2, 15]] (by kernel_rfl) (fun w' => Ext W w') Ext
          (fun i w' v => match i with
            | 0 => v = .agg #[.string x1, .string x2]
            | 1 => v = .bool true
            | 2 => v = .bool true
            | 3 => v = undef
            | 4 => v = undef
            | 5 => v = undef
            | 6 => v = undef
            | 7 => v = undef
            | 8 => v = undef
            | 9 => v = undef
            | 10 => v = undef
            | 11 => v = undef
            | 12 => v = undef
            | 13 => v = undef
            | 14 => v = undef
            | 15 => v = undef
            | 16 => v = .bool true
            | _ => True) (fun i w1 w2 v _ h => h) ?_ ?_ ?_
        · exact (Ext.refl W).drew
        · refine ⟨?_, ?_, ?_, ?_, ?_, ?_, ?_, ?_, ?_, ?_, ?_, ?_, ?_, ?_, ?_, ?_, ?_, trivial⟩
          all_goals (intro vs w' hI hd)
          all_goals simp only [opsFor, actD, List.getD_cons_zero, List.getD_cons_succ, List.foldl_cons, List.foldl_nil, List.mem_cons, List.not_mem_nil, or_false, forall_eq_or_imp, forall_eq] at hd ⊢
          · have e0 := hI.cell b0
            have e1 := hI.cell b1
            go_wp2
            exact ⟨rfl, rfl, Ext.refl _, hI⟩
          · go_wp2_with fail
            refine (hlong_any x1 x2 _ hs1 hs2).mono ?_
            rintro e w3 ⟨rfl, hx3⟩
            rw [Hlg.out]
            go_wp2
            exact ⟨rfl, rfl, hx3, hI.then hx3⟩
          · go_wp2
            first | exact ⟨rfl, rfl, Ext.refl _, hI⟩ | exact ⟨rfl, trivial, Ext.refl _, hI⟩
          · simp only [hd]
            refine wpList_skip1 rfl ?_
            exact ⟨rfl, rfl, Ext.refl _, hI⟩
          · simp only [hd]
            refine wpList_skip1 rfl ?_
            exact ⟨rfl, rfl, Ext.refl _, hI⟩
          · simp only [hd]
            refine wpList_skip1 rfl ?_
            exact ⟨rfl, rfl, Ext.refl _, hI⟩
          · simp only [hd]
            refine wpList_skip1 rfl ?_
            exact ⟨rfl, rfl, Ext.refl _, hI⟩
          · simp only [hd]
            refine wpList_skip1 rfl ?_
            exact ⟨rfl, rfl, Ext.refl _, hI⟩
          · simp only [hd]
            refine wpList_skip1 rfl ?_
            exact ⟨rfl, rfl, Ext.refl _, hI⟩
          · simp only [hd]
            refine wpList_skip1 rfl ?_
            exact ⟨rfl, rfl, Ext.refl _, hI⟩
          · simp only [hd]
            refine wpList_skip1 rfl ?_
            exact ⟨rfl, rfl, Ext.refl _, hI⟩
          · simp only [hd]
            refine wpList_skip1 rfl ?_
            exact ⟨rfl, rfl, Ext.refl _, hI⟩
          · simp only [hd]
            refine wpList_skip1 rfl ?_
            exact ⟨rfl, rfl, Ext.refl _, hI⟩
          · simp only [hd]
            refine wpList_skip1 rfl ?_
            exact ⟨rfl, rfl, Ext.refl _, hI⟩
          · simp only [hd]
            refine wpList_skip1 rfl ?_
            exact ⟨rfl, rfl, Ext.refl _, hI⟩
          · simp only [hd]
            refine wpList_skip1 rfl ?_
            exact ⟨rfl, rfl, Ext.refl _, hI⟩
          · go_wp2
            first | exact ⟨rfl, rfl, Ext.refl _, hI⟩ | exact ⟨rfl, trivial, Ext.refl _, hI⟩
        · intro vs w' hI hd
          simp only [actD, List.range, List.range.loop, List.foldl_cons, List.foldl_nil, List.length_cons, List.length_nil, List.getD_cons_zero, List.getD_cons_succ]
          rw [show vs 16 = Value.bool true from hd 16 (by decide)]
          clear hd
          go_simp
          go_wp2_with fail
          go_ret
          exact ⟨by rw [Hf.out]; rfl, (Hx0.out.then HW.out).then hI⟩
      | false =>
        have Hlg := Lib.hid hlg
        rw [Bool.or_eq_false_iff] at hlg
        have hA := of_decide_eq_false hlg.1
        have hB := of_decide_eq_false hlg.2
        clear hlg
        by_cases hk0 : k = 0
        · have Hok : Hid (okP l k = true) := Lib.hid (by unfold okP; rw [Hx.out, hk0]; simp; omega)
          have Hk0 := Lib.hid hk0
          have Hall2 : Hid (∀ j, j < k + 1 → okP l j = true) := Lib.hid (fun j hj => by (obtain rfl : j = k := by have := Hk0.out; omega); exact Hok.out)
          have hd3 : decide ((0 : Int) < (k : Int)) = false := decide_eq_false (by omega)
          have hd4 : decide (0 < k) = false := decide_eq_false (by omega)
          clear hk0
          go_wp2_with fail
          have b0 := box1 wr #[.string x1, .string x2] 43 (g := wr.heap.size) (i := 0) (v := .string x1) rfl rfl
          have b1 := box1 wr #[.string x1, .string x2] 43 (g := wr.heap.size) (i := 1) (v := .string x2) rfl rfl
          have hW : Ext wr (wr.alloc (.cells #[.string x1, .string x2] 43)) := (Ext.refl wr).alloc _
          generalize wr.alloc (.cells #[.string x1, .string x2] 43) = W at b0 b1 hW ⊢
          have HW := Lib.hid hW
          clear hW
          refine wp_region_rely_lit rfl [some 12, some 13, some 14, some 15, some 16, some 17, some 18, some 19, some 20, some 21, some 22, some 23, some 24, some 25, some 26, some 27, some 28] rfl [[], [0], [1], [2], [2, 3], [2, 4], [5], [5], [5, 7], [5, 6, 8], [5, 9], [5, 10], [5], [5, 12], [5, 11, 13], [2, 5, 14], [2, 15]] (by kernel_rfl) (fun w' => Ext W w') Ext
            (fun i w' v => match i with
              | 0 => v = .agg #[.string x1, .string x2]
              | 1 => v = .bool false
              | 2 => v = .bool false
              | 3 => v = .int .i64 (k : Int)
              | 4 => v = .bool false
              | 5 => v = .bool false
              | 6 => v = undef
              | 7 => v = undef
              | 8 => v = undef
              | 9 => v = undef
              | 10 => v = undef
              | 11 => v = undef
              | 12 => v = undef
              | 13 => v = undef
              | 14 => v = undef
              | 15 => v = .bool false
              | 16 => v = .bool false
              | _ => True) (fun i w1 w2 v _ h => h) ?_ ?_ ?_
          · exact (Ext.refl W).drew
          · refine ⟨?_, ?_, ?_, ?_, ?_, ?_, ?_, ?_, ?_, ?_, ?_, ?_, ?_, ?_, ?_, ?_, ?_, trivial⟩
            all_goals (intro vs w' hI hd)
            all_goals simp only [opsFor, actD, List.getD_cons_zero, List.getD_cons_succ, List.foldl_cons, List.foldl_nil, List.mem_cons, List.not_mem_nil, or_false, forall_eq_or_imp, forall_eq] at hd ⊢
            · have e0 := hI.cell b0
              have e1 := hI.cell b1
              go_wp2
              exact ⟨rfl, rfl, Ext.refl _, hI⟩
            · go_wp2_with fail
              refine (hlong_any x1 x2 _ hs1 hs2).mono ?_
              rintro e w3 ⟨rfl, hx3⟩
              rw [Hlg.out]
              go_wp2
              exact ⟨rfl, rfl, hx3, hI.then hx3⟩
            · go_wp2
              first | exact ⟨rfl, rfl, Ext.refl _, hI⟩ | exact ⟨rfl, trivial, Ext.refl _, hI⟩
            · go_wp2
              first | exact ⟨rfl, rfl, Ext.refl _, hI⟩ | exact ⟨rfl, trivial, Ext.refl _, hI⟩
            · go_wp2
              first | exact ⟨rfl, rfl, Ext.refl _, hI⟩ | exact ⟨rfl, trivial, Ext.refl _, hI⟩
            · go_wp2
              first | exact ⟨rfl, rfl, Ext.refl _, hI⟩ | exact ⟨rfl, trivial, Ext.refl _, hI⟩
            · simp only [hd]
              refine wpList_skip1 rfl ?_
              exact ⟨rfl, rfl, Ext.refl _, hI⟩
            · simp only [hd]
              refine wpList_skip1 rfl ?_
              exact ⟨rfl, rfl, Ext.refl _, hI⟩
            · simp only [hd]
              refine wpList_skip1 rfl ?_
              exact ⟨rfl, rfl, Ext.refl _, hI⟩
            · simp only [hd]
              refine wpList_skip1 rfl ?_
              exact ⟨rfl, rfl, Ext.refl _, hI⟩
            · simp only [hd]
              refine wpList_skip1 rfl ?_
              exact ⟨rfl, rfl, Ext.refl _, hI⟩
            · simp only [hd]
              refine wpList_skip1 rfl ?_
              exact ⟨rfl, rfl, Ext.refl _, hI⟩
            · simp only [hd]
              refine wpList_skip1 rfl ?_
              exact ⟨rfl, rfl, Ext.refl _, hI⟩
            · simp only [hd]
              refine wpList_skip1 rfl ?_
              exact ⟨rfl, rfl, Ext.refl _, hI⟩
            · simp only [hd]
              refine wpList_skip1 rfl ?_
              exact ⟨rfl, rfl, Ext.refl _, hI⟩
            · go_wp2
              first | exact ⟨rfl, rfl, Ext.refl _, hI⟩ | exact ⟨rfl, trivial, Ext.refl _, hI⟩
            · go_wp2
              first | exact ⟨rfl, rfl, Ext.refl _, hI⟩ | exact ⟨rfl, trivial, Ext.refl _, hI⟩
          · intro vs w' hI hd
            simp only [actD, List.range, List.range.loop, List.foldl_cons, List.foldl_nil, List.length_cons, List.length_nil, List.getD_cons_zero, List.getD_cons_succ]
            rw [show vs 16 = Value.bool false from hd 16 (by decide)]
            clear hd
            go_simp
            go_wp2_with fail
            exact ⟨⟨k + 1, by go_num, by omega, Hall2.out, (Hx0.out.then HW.out).then hI⟩, by simp [intOf]; omega⟩
        · obtain ⟨j, hj⟩ : ∃ j : Nat, (k : Int) - 1 = (j : Int) := ⟨k - 1, by omega⟩
          have hkj := Lib.hid (show k = j + 1 by omega)
          have hjl : j < l.length := by omega
          obtain ⟨y, hy⟩ : ∃ y, l[j]? = some y := ⟨_, List.getElem?_eq_getElem hjl⟩
          obtain ⟨g', o', e', hv1, hv1', ht1, ht2⟩ := hvr.atPr hy
          obtain ⟨rfl, rfl⟩ : g = g' ∧ o = o' := by
            have h := e'
            simp at h
            exact h
          obtain ⟨y1, y2⟩ := y
          have Hy := Lib.hid hy
          have hkp : 0 < k := by omega
          have hd3 : decide ((0 : Int) < (k : Int)) = true := decide_eq_true (by omega)
          have hd4 : decide (0 < k) = true := decide_eq_true (by omega)
          simp only at hv1 hv1' ht1 ht2
          clear e' hy hk0
          have Hokv : Hid (okP l k = Op.bytesLess y1.toList x1.toList) := Lib.hid (by
            have e1 : l[j + 1]? = some (x1, x2) := by rw [← hkj.out]; exact Hx.out
            rw [hkj.out, bytesLess_eq]
            unfold okP
            rw [e1]
            simp only [Hy.out]
            simp [hA, hB, lessB])
          cases hlss : Op.bytesLess y1.toList x1.toList with
          | true =>
            have Hok : Hid (okP l k = true) := Lib.hid (by rw [Hokv.out, hlss])
            have Hall2 : Hid (∀ j, j < k + 1 → okP l j = true) := Lib.hid (fun j hj => by
              by_cases e : j = k
              · rw [e]; exact Hok.out
              · exact Hall.out j (by omega))
            go_wp2_with fail
            have b0 := box1 wr #[.string x1, .string x2] 43 (g := wr.heap.size) (i := 0) (v := .string x1) rfl rfl
            have b1 := box1 wr #[.string x1, .string x2] 43 (g := wr.heap.size) (i := 1) (v := .string x2) rfl rfl
            have hW : Ext wr (wr.alloc (.cells #[.string x1, .string x2] 43)) := (Ext.refl wr).alloc _
            generalize wr.alloc (.cells #[.string x1, .string x2] 43) = W at b0 b1 hW ⊢
            have HW := Lib.hid hW
            clear hW
            refine wp_region_rely_lit rfl [some 12, some 13, some 14, some 15, some 16, some 17, some 18, some 19, some 20, some 21, some 22, some 23, some 24, some 25, some 26, some 27, some 28] rfl [[], [0], [1], [2], [2, 3], [2, 4], [5], [5], [5, 7], [5, 6, 8], [5, 9], [5, 10], [5], [5, 12], [5, 11, 13], [2, 5, 14], [2, 15]] (by kernel_rfl) (fun w' => Ext W w') Ext
              (fun i w' v => match i with
                | 0 => v = .agg #[.string x1, .string x2]
                | 1 => v = .bool false
                | 2 => v = .bool false
                | 3 => v = .int .i64 (k : Int)
                | 4 => v = .bool true
                | 5 => v = .bool true
                | 6 => v = .slice (some ⟨g, o, none⟩) l.length cap
                | 7 => v = .int .i64 (k : Int)
                | 8 => v = .int .i64 (j : Int)
                | 9 => v = .pointer (some ⟨g, o + j * 2, none⟩)
                | 10 => v = .pointer (some ⟨g, o + j * 2, none⟩)
                | 11 => v = .string y1
                | 12 => v = .pointer (some ⟨wr.heap.size, 0, none⟩)
                | 13 => v = .string x1
                | 14 => v = .bool false
                | 15 => v = .bool false
                | 16 => v = .bool false
                | _ => True) (fun i w1 w2 v _ h => h) ?_ ?_ ?_
            · exact (Ext.refl W).drew
            · refine ⟨?_, ?_, ?_, ?_, ?_, ?_, ?_, ?_, ?_, ?_, ?_, ?_, ?_, ?_, ?_, ?_, ?_, trivial⟩
              all_goals (intro vs w' hI hd)
              all_goals simp only [opsFor, actD, List.getD_cons_zero, List.getD_cons_succ, List.foldl_cons, List.foldl_nil, List.mem_cons, List.not_mem_nil, or_false, forall_eq_or_imp, forall_eq] at hd ⊢
              · have e0 := hI.cell b0
                have e1 := hI.cell b1
                go_wp2
                exact ⟨rfl, rfl, Ext.refl _, hI⟩
              · go_wp2_with fail
                refine (hlong_any x1 x2 _ hs1 hs2).mono ?_
                rintro e w3 ⟨rfl, hx3⟩
                rw [Hlg.out]
                go_wp2
                exact ⟨rfl, rfl, hx3, hI.then hx3⟩
              · go_wp2
                first | exact ⟨rfl, rfl, Ext.refl _, hI⟩ | exact ⟨rfl, trivial, Ext.refl _, hI⟩
              · go_wp2
                first | exact ⟨rfl, rfl, Ext.refl _, hI⟩ | exact ⟨rfl, trivial, Ext.refl _, hI⟩
              · go_wp2
                first | exact ⟨rfl, rfl, Ext.refl _, hI⟩ | exact ⟨rfl, trivial, Ext.refl _, hI⟩
              · go_wp2
                first | exact ⟨rfl, rfl, Ext.refl _, hI⟩ | exact ⟨rfl, trivial, Ext.refl _, hI⟩
              · go_wp2
                first | exact ⟨rfl, rfl, Ext.refl _, hI⟩ | exact ⟨rfl, trivial, Ext.refl _, hI⟩
              · go_wp2
                first | exact ⟨rfl, rfl, Ext.refl _, hI⟩ | exact ⟨rfl, trivial, Ext.refl _, hI⟩
              · go_wp2
                first | exact ⟨rfl, rfl, Ext.refl _, hI⟩ | exact ⟨rfl, trivial, Ext.refl _, hI⟩
              · go_wp2
                first | exact ⟨rfl, rfl, Ext.refl _, hI⟩ | exact ⟨rfl, trivial, Ext.refl _, hI⟩
              · go_wp2
                first | exact ⟨rfl, rfl, Ext.refl _, hI⟩ | exact ⟨rfl, trivial, Ext.refl _, hI⟩
              · have e0 := (HW.out.then hI).cell hv1
                go_wp2
                exact ⟨rfl, rfl, Ext.refl _, hI⟩
              · go_wp2
                first | exact ⟨rfl, rfl, Ext.refl _, hI⟩ | exact ⟨rfl, trivial, Ext.refl _, hI⟩
              · have e0 := hI.cell b0
                go_wp2
                exact ⟨rfl, rfl, Ext.refl _, hI⟩
              · go_wp2
                first | exact ⟨rfl, rfl, Ext.refl _, hI⟩ | exact ⟨rfl, trivial, Ext.refl _, hI⟩
              · go_wp2
                first | exact ⟨rfl, rfl, Ext.refl _, hI⟩ | exact ⟨rfl, trivial, Ext.refl _, hI⟩
              · go_wp2
                first | exact ⟨rfl, rfl, Ext.refl _, hI⟩ | exact ⟨rfl, trivial, Ext.refl _, hI⟩
            · intro vs w' hI hd
              simp only [actD, List.range, List.range.loop, List.foldl_cons, List.foldl_nil, List.length_cons, List.length_nil, List.getD_cons_zero, List.getD_cons_succ]
              rw [show vs 16 = Value.bool false from hd 16 (by decide)]
              clear hd
              go_simp
              go_wp2_with fail
              exact ⟨⟨k + 1, by go_num, by omega, Hall2.out, (Hx0.out.then HW.out).then hI⟩, by simp [intOf]; omega⟩
          | false =>
            have Hf : Hid (RR = false) := Lib.hid (by rw [← Hr.out, allN_false hlt (by rw [Hokv.out, hlss])]; simp)
            go_wp2_with fail
            have b0 := box1 wr #[.string x1, .string x2] 43 (g := wr.heap.size) (i := 0) (v := .string x1) rfl rfl
            have b1 := box1 wr #[.string x1, .string x2] 43 (g := wr.heap.size) (i := 1) (v := .string x2) rfl rfl
            have hW : Ext wr (wr.alloc (.cells #[.string x1, .string x2] 43)) := (Ext.refl wr).alloc _
            generalize wr.alloc (.cells #[.string x1, .string x2] 43) = W at b0 b1 hW ⊢
            have HW := Lib.hid hW
            clear hW
            refine wp_region_rely_lit rfl [some 12, some 13, some 14, some 15, some 16, some 17, some 18, some 19, some 20, some 21, some 22, some 23, some 24, some 25, some 26, some 27, some 28] rfl [[], [0], [1], [2], [2, 3], [2, 4], [5], [5], [5, 7], [5, 6, 8], [5, 9], [5, 10], [5], [5, 12], [5, 11, 13], [2, 5, 14], [2, 15]] (by kernel_rfl) (fun w' => Ext W w') Ext
              (fun i w' v => match i with
                | 0 => v = .agg #[.string x1, .string x2]
                | 1 => v = .bool false
                | 2 => v = .bool false
                | 3 => v = .int .i64 (k : Int)
                | 4 => v = .bool true
                | 5 => v = .bool true
                | 6 => v = .slice (some ⟨g, o, none⟩) l.length cap
                | 7 => v = .int .i64 (k : Int)
                | 8 => v = .int .i64 (j : Int)
                | 9 => v = .pointer (some ⟨g, o + j * 2, none⟩)
                | 10 => v = .pointer (some ⟨g, o + j * 2, none⟩)
                | 11 => v = .string y1
                | 12 => v = .pointer (some ⟨wr.heap.size, 0, none⟩)
                | 13 => v = .string x1
                | 14 => v = .bool true
                | 15 => v = .bool true
                | 16 => v = .bool true
                | _ => True) (fun i w1 w2 v _ h => h) ?_ ?_ ?_
            · exact (Ext.refl W).drew
            · refine ⟨?_, ?_, ?_, ?_, ?_, ?_, ?_, ?_, ?_, ?_, ?_, ?_, ?_, ?_, ?_, ?_, ?_, trivial⟩
              all_goals (intro vs w' hI hd)
              all_goals simp only [opsFor, actD, List.getD_cons_zero, List.getD_cons_succ, List.foldl_cons, List.foldl_nil, List.mem_cons, List.not_mem_nil, or_false, forall_eq_or_imp, forall_eq] at hd ⊢
              · have e0 := hI.cell b0
                have e1 := hI.cell b1
                go_wp2
                exact ⟨rfl, rfl, Ext.refl _, hI⟩
              · go_wp2_with fail
                refine (hlong_any x1 x2 _ hs1 hs2).mono ?_
                rintro e w3 ⟨rfl, hx3⟩
                rw [Hlg.out]
                go_wp2
                exact ⟨rfl, rfl, hx3, hI.then hx3⟩
              · go_wp2
                first | exact ⟨rfl, rfl, Ext.refl _, hI⟩ | exact ⟨rfl, trivial, Ext.refl _, hI⟩
              · go_wp2
                first | exact ⟨rfl, rfl, Ext.refl _, hI⟩ | exact ⟨rfl, trivial, Ext.refl _, hI⟩
              · go_wp2
                first | exact ⟨rfl, rfl, Ext.refl _, hI⟩ | exact ⟨rfl, trivial, Ext.refl _, hI⟩
              · go_wp2
                first | exact ⟨rfl, rfl, Ext.refl _, hI⟩ | exact ⟨rfl, trivial, Ext.refl _, hI⟩
              · go_wp2
                first | exact ⟨rfl, rfl, Ext.refl _, hI⟩ | exact ⟨rfl, trivial, Ext.refl _, hI⟩
              · go_wp2
                first | exact ⟨rfl, rfl, Ext.refl _, hI⟩ | exact ⟨rfl, trivial, Ext.refl _, hI⟩
              · go_wp2
                first | exact ⟨rfl, rfl, Ext.refl _, hI⟩ | exact ⟨rfl, trivial, Ext.refl _, hI⟩
              · go_wp2
                first | exact ⟨rfl, rfl, Ext.refl _, hI⟩ | exact ⟨rfl, trivial, Ext.refl _, hI⟩
              · go_wp2
                first | exact ⟨rfl, rfl, Ext.refl _, hI⟩ | exact ⟨rfl, trivial, Ext.refl _, hI⟩
              · have e0 := (HW.out.then hI).cell hv1
                go_wp2
                exact ⟨rfl, rfl, Ext.refl _, hI⟩
              · go_wp2
                first | exact ⟨rfl, rfl, Ext.refl _, hI⟩ | exact ⟨rfl, trivial, Ext.refl _, hI⟩
              · have e0 := hI.cell b0
                go_wp2
                exact ⟨rfl, rfl, Ext.refl _, hI⟩
              · go_wp2
                first | exact ⟨rfl, rfl, Ext.refl _, hI⟩ | exact ⟨rfl, trivial, Ext.refl _, hI⟩
              · go_wp2
                first | exact ⟨rfl, rfl, Ext.refl _, hI⟩ | exact ⟨rfl, trivial, Ext.refl _, hI⟩
              · go_wp2
                first | exact ⟨rfl, rfl, Ext.refl _, hI⟩ | exact ⟨rfl, trivial, Ext.refl _, hI⟩
            · intro vs w' hI hd
              simp only [actD, List.range, List.range.loop, List.foldl_cons, List.foldl_nil, List.length_cons, List.length_nil, List.getD_cons_zero, List.getD_cons_succ]
              rw [show vs 16 = Value.bool true from hd 16 (by decide)]
              clear hd
              go_simp
              go_wp2_with fail
              go_ret
              exact ⟨by rw [Hf.out]; rfl, (Hx0.out.then HW.out).then hI⟩
    · obtain rfl : k = l.length := by omega
      have Hf : Hid (RR = decide (l.length ≤ 512)) := Lib.hid (by rw [← Hr.out, allN_true Hall.out, Bool.and_true])
      go_wp2_with fail
      go_ret
      refine ⟨?_, Hx0.out⟩
      rw [Hf.out]
      show Ending.returned (.bool (decide ((l.length : Int) ≤ 512))) = _
      congr 2
      simp; omega
end Go.Proofs.Ythclkljdnmokcaa
