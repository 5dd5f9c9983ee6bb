/-
  zset.Right, walked.
-/
import Derived.Test.YthclkljdnmokcaaZsetF
import Derived.Test.YthclkljdnmokcaaHashRight
set_option linter.unusedVariables false
set_option linter.unusedSimpArgs false
namespace Go.Proofs.Ythclkljdnmokcaa
open Go.RowKit Go.Proofs

def ordZ (x y : Int × ByteArray) : Int := if cmpZ x.1 y.1 ≠ 0 then cmpZ x.1 y.1 else cmpS x.2 y.2
theorem cmpS_ge (a b : ByteArray) : (decide (0 ≤ cmpS a b)) = !lessB a b := by
  unfold cmpS lessB
  rw [← bytesLess_eq]
  cases h1 : Op.bytesLess a.toList b.toList with
  | true => rfl
  | false => cases h2 : Op.bytesLess b.toList a.toList <;> rfl
theorem ordZ_ge (x y : Int × ByteArray) : decide (0 ≤ ordZ x y) = !beforeB x y := by
  unfold ordZ beforeB
  by_cases h1 : x.1 < y.1
  · have e : cmpZ x.1 y.1 = -1 := cmpZ_neg h1
    rw [e, decide_eq_true h1]; rfl
  · by_cases h2 : x.1 = y.1
    · have e : cmpZ x.1 y.1 = 0 := by unfold cmpZ; rw [h2]; simp
      rw [e, if_neg (by simp), cmpS_ge, decide_eq_false h1, decide_eq_true h2]; simp
    · have e : cmpZ x.1 y.1 = 1 := by unfold cmpZ; rw [if_neg h1, if_pos (by omega)]
      rw [e, decide_eq_false h1, decide_eq_false h2]; rfl
set_option maxRecDepth 100000 in
set_option maxHeartbeats 4000000 in
theorem zsetright_any (v : Value) (l : List (Int × ByteArray)) (w : World) (hv : SliceOf rMb w v l) (hlm : l.length ≤ 1000000) :
    Calls Try.prog 67 #[v] w fun e w' => e = .returned (.bool (rightZ l)) ∧ Ext w w' := by
  obtain ⟨a, cap, rfl, hle, hm, h0, _⟩ := id hv
  unfold maxLen at hm
  generalize hRR : rightZ l = RR
  unfold rightZ at hRR
  have Hr := Lib.hid hRR
  clear hRR
  go_enter Try.func67, Try.ntmps67
  go_wp2_with fail
  go_loopw [3, 4, 7] (fun _ _ i wr => ∃ k : Nat, i = .int .i64 (k : Int) ∧ k ≤ l.length ∧ (∀ j, j < k → okZ l j = true) ∧ Ext w wr) (fun _ _ i _ => l.length - (intOf i).toNat)
  case atStart => exact ⟨0, rfl, by omega, fun j hj => by omega, Ext.refl _⟩
  case round =>
    obtain ⟨k, rfl, hk, hall, hx0⟩ := hrel
    have Hall := Lib.hid hall
    have Hx0 := Lib.hid hx0
    have hvr := hv.mono rMb_mono hx0
    clear hall hx0
    by_cases hlt : k < l.length
    · obtain ⟨x, hx⟩ : ∃ x, l[k]? = some x := ⟨_, List.getElem?_eq_getElem hlt⟩
      obtain ⟨g, o, rfl, hu, hu', hs1, hs2⟩ := hvr.atMb hx
      have Hx := Lib.hid hx
      obtain ⟨n, s⟩ := x
      simp only at hu hu' hs1 hs2
      clear hx
      cases hlg : longB s with
      | true =>
        have Hlg := Lib.hid hlg
        have Hf : Hid (RR = false) := Lib.hid (by rw [← Hr.out, allN_false hlt (by unfold okZ; rw [Hx.out]; unfold longB at hlg; have := of_decide_eq_true hlg; simp [this])]; simp)
        clear hlg
        go_wp2_with fail
        have b0 := box1 wr #[.int .i64 n, .string s] 45 (g := wr.heap.size) (i := 0) (v := .int .i64 n) rfl rfl
        have b1 := box1 wr #[.int .i64 n, .string s] 45 (g := wr.heap.size) (i := 1) (v := .string s) rfl rfl
        have hW : Ext wr (wr.alloc (.cells #[.int .i64 n, .string s] 45)) := (Ext.refl wr).alloc _
        generalize wr.alloc (.cells #[.int .i64 n, .string s] 45) = W at b0 b1 hW ⊢
        have HW := Lib.hid hW
        clear hW
        refine wp_region_rely_lit rfl [some 12, some 13, some 14, some 15, some 16, some 17, some 18, some 19, some 20, some 21, some 22, some 23, some 24, some 25, some 26, some 27, some 28, some 29, some 30, some 31, some 32, some 33, some 34, some 35] rfl [[], [0], [1], [2], [2, 3], [2, 4], [5], [5], [5, 7], [5, 6, 8], [5, 9], [5], [5, 10, 11], [5, 12], [2, 5, 13], [2, 14], [15], [16], [16], [16, 18], [16, 17, 19], [16], [16, 20, 21], [16, 22]] (by kernel_rfl) (fun w' => Ext W w') Ext
          (fun i w' v => match i with
            | 0 => v = .agg #[.int .i64 n, .string s]
            | 1 => v = .bool true
            | 2 => v = .bool true
            | 3 => v = undef
            | 4 => v = undef
            | 5 => v = undef
            | 6 => v = undef
            | 7 => v = undef
            | 8 => v = undef
            | 9 => v = undef
            | 10 => v = undef
            | 11 => v = undef
            | 12 => v = undef
            | 13 => v = undef
            | 14 => v = undef
            | 15 => v = .bool true
            | 16 => v = .bool true
            | 17 => v = undef
            | 18 => v = undef
            | 19 => v = undef
            | 20 => v = undef
            | 21 => v = undef
            | 22 => v = undef
            | 23 => v = .bool true
            | _ => True) (fun i w1 w2 v _ h => h) ?_ ?_ ?_
        · exact (Ext.refl W).drew
        · refine ⟨?_, ?_, ?_, ?_, ?_, ?_, ?_, ?_, ?_, ?_, ?_, ?_, ?_, ?_, ?_, ?_, ?_, ?_, ?_, ?_, ?_, ?_, ?_, ?_, trivial⟩
          all_goals (intro vs w' hI hd)
          all_goals simp only [opsFor, actD, List.getD_cons_zero, List.getD_cons_succ, List.foldl_cons, List.foldl_nil, List.mem_cons, List.not_mem_nil, or_false, forall_eq_or_imp, forall_eq] at hd ⊢
          · have e0 := hI.cell b0
            have e1 := hI.cell b1
            go_wp2
            exact ⟨rfl, rfl, Ext.refl _, hI⟩
          · go_wp2_with fail
            refine (zlong_any n s _ hs2).mono ?_
            rintro e w3 ⟨rfl, hx3⟩
            rw [Hlg.out]
            go_wp2
            exact ⟨rfl, rfl, hx3, hI.then hx3⟩
          · go_wp2
            first | exact ⟨rfl, rfl, Ext.refl _, hI⟩ | exact ⟨rfl, trivial, Ext.refl _, hI⟩
          · simp only [hd]
            refine wpList_skip1 rfl ?_
            exact ⟨rfl, rfl, Ext.refl _, hI⟩
          · simp only [hd]
            refine wpList_skip1 rfl ?_
            exact ⟨rfl, rfl, Ext.refl _, hI⟩
          · simp only [hd]
            refine wpList_skip1 rfl ?_
            exact ⟨rfl, rfl, Ext.refl _, hI⟩
          · simp only [hd]
            refine wpList_skip1 rfl ?_
            exact ⟨rfl, rfl, Ext.refl _, hI⟩
          · simp only [hd]
            refine wpList_skip1 rfl ?_
            exact ⟨rfl, rfl, Ext.refl _, hI⟩
          · simp only [hd]
            refine wpList_skip1 rfl ?_
            exact ⟨rfl, rfl, Ext.refl _, hI⟩
          · simp only [hd]
            refine wpList_skip1 rfl ?_
            exact ⟨rfl, rfl, Ext.refl _, hI⟩
          · simp only [hd]
            refine wpList_skip1 rfl ?_
            exact ⟨rfl, rfl, Ext.refl _, hI⟩
          · simp only [hd]
            refine wpList_skip1 rfl ?_
            exact ⟨rfl, rfl, Ext.refl _, hI⟩
          · simp only [hd]
            refine wpList_skip1 rfl ?_
            exact ⟨rfl, rfl, Ext.refl _, hI⟩
          · simp only [hd]
            refine wpList_skip1 rfl ?_
            exact ⟨rfl, rfl, Ext.refl _, hI⟩
          · simp only [hd]
            refine wpList_skip1 rfl ?_
            exact ⟨rfl, rfl, Ext.refl _, hI⟩
          · go_wp2
            first | exact ⟨rfl, rfl, Ext.refl _, hI⟩ | exact ⟨rfl, trivial, Ext.refl _, hI⟩
          · go_wp2
            first | exact ⟨rfl, rfl, Ext.refl _, hI⟩ | exact ⟨rfl, trivial, Ext.refl _, hI⟩
          · simp only [hd]
            refine wpList_skip1 rfl ?_
            exact ⟨rfl, rfl, Ext.refl _, hI⟩
          · simp only [hd]
            refine wpList_skip1 rfl ?_
            exact ⟨rfl, rfl, Ext.refl _, hI⟩
          · simp only [hd]
            refine wpList_skip1 rfl ?_
            exact ⟨rfl, rfl, Ext.refl _, hI⟩
          · simp only [hd]
            refine wpList_skip1 rfl ?_
            exact ⟨rfl, rfl, Ext.refl _, hI⟩
          · simp only [hd]
            refine wpList_skip1 rfl ?_
            exact ⟨rfl, rfl, Ext.refl _, hI⟩
          · simp only [hd]
            refine wpList_skip1 rfl ?_
            exact ⟨rfl, rfl, Ext.refl _, hI⟩
          · go_wp2
            first | exact ⟨rfl, rfl, Ext.refl _, hI⟩ | exact ⟨rfl, trivial, Ext.refl _, hI⟩
        · intro vs w' hI hd
          simp only [actD, List.range, List.range.loop, List.foldl_cons, List.foldl_nil, List.length_cons, List.length_nil, List.getD_cons_zero, List.getD_cons_succ]
          rw [show vs 23 = Value.bool true from hd 23 (by decide)]
          clear hd
          go_simp
          go_wp2_with fail
          go_ret
          exact ⟨by rw [Hf.out]; rfl, (Hx0.out.then HW.out).then hI⟩
      | false =>
        have Hlg := Lib.hid hlg
        have hA : ¬ 4096 < s.size := by unfold longB at hlg; exact of_decide_eq_false hlg
        clear hlg
        by_cases hk0 : k = 0
        · have Hk0 := Lib.hid hk0
          have hd3 : decide ((0 : Int) < (k : Int)) = false := decide_eq_false (by omega)
          have hd4 : decide (0 < k) = false := decide_eq_false (by omega)
          have Hokv : Hid (okZ l k = decide (atZ l s = (k : Int))) := Lib.hid (by unfold okZ; rw [Hx.out, hk0]; simp [hA])
          clear hk0
          by_cases hat : atZ l s = (k : Int)
          · have hne : (atZ l s != (k : Int)) = false := by rw [hat]; simp
            have Hok : Hid (okZ l k = true) := Lib.hid (by rw [Hokv.out]; exact decide_eq_true hat)
            have Hall2 : Hid (∀ j, j < k + 1 → okZ l j = true) := Lib.hid (fun j hj => by (obtain rfl : j = k := by have := Hk0.out; omega); exact Hok.out)
            clear hat
            go_wp2_with fail
            have b0 := box1 wr #[.int .i64 n, .string s] 45 (g := wr.heap.size) (i := 0) (v := .int .i64 n) rfl rfl
            have b1 := box1 wr #[.int .i64 n, .string s] 45 (g := wr.heap.size) (i := 1) (v := .string s) rfl rfl
            have hW : Ext wr (wr.alloc (.cells #[.int .i64 n, .string s] 45)) := (Ext.refl wr).alloc _
            generalize wr.alloc (.cells #[.int .i64 n, .string s] 45) = W at b0 b1 hW ⊢
            have HW := Lib.hid hW
            clear hW
            refine wp_region_rely_lit rfl [some 12, some 13, some 14, some 15, some 16, some 17, some 18, some 19, some 20, some 21, some 22, some 23, some 24, some 25, some 26, some 27, some 28, some 29, some 30, some 31, some 32, some 33, some 34, some 35] rfl [[], [0], [1], [2], [2, 3], [2, 4], [5], [5], [5, 7], [5, 6, 8], [5, 9], [5], [5, 10, 11], [5, 12], [2, 5, 13], [2, 14], [15], [16], [16], [16, 18], [16, 17, 19], [16], [16, 20, 21], [16, 22]] (by kernel_rfl) (fun w' => Ext W w') Ext
              (fun i w' v => match i with
                | 0 => v = .agg #[.int .i64 n, .string s]
                | 1 => v = .bool false
                | 2 => v = .bool false
                | 3 => v = .int .i64 (k : Int)
                | 4 => v = .bool false
                | 5 => v = .bool false
                | 6 => v = undef
                | 7 => v = undef
                | 8 => v = undef
                | 9 => v = undef
                | 10 => v = undef
                | 11 => v = undef
                | 12 => v = undef
                | 13 => v = undef
                | 14 => v = .bool false
                | 15 => v = .bool false
                | 16 => v = .bool false
                | 17 => v = .slice (some ⟨g, o, none⟩) l.length cap
                | 18 => v = .pointer (some ⟨wr.heap.size, 1, none⟩)
                | 19 => v = .string s
                | 20 => v = .int .i64 (atZ l s)
                | 21 => v = .int .i64 (k : Int)
                | 22 => v = .bool false
                | 23 => v = .bool false
                | _ => True) (fun i w1 w2 v _ h => h) ?_ ?_ ?_
            · exact (Ext.refl W).drew
            · refine ⟨?_, ?_, ?_, ?_, ?_, ?_, ?_, ?_, ?_, ?_, ?_, ?_, ?_, ?_, ?_, ?_, ?_, ?_, ?_, ?_, ?_, ?_, ?_, ?_, trivial⟩
              all_goals (intro vs w' hI hd)
              all_goals simp only [opsFor, actD, List.getD_cons_zero, List.getD_cons_succ, List.foldl_cons, List.foldl_nil, List.mem_cons, List.not_mem_nil, or_false, forall_eq_or_imp, forall_eq] at hd ⊢
              · have e0 := hI.cell b0
                have e1 := hI.cell b1
                go_wp2
                exact ⟨rfl, rfl, Ext.refl _, hI⟩
              · go_wp2_with fail
                refine (zlong_any n s _ hs2).mono ?_
                rintro e w3 ⟨rfl, hx3⟩
                rw [Hlg.out]
                go_wp2
                exact ⟨rfl, rfl, hx3, hI.then hx3⟩
              · go_wp2
                first | exact ⟨rfl, rfl, Ext.refl _, hI⟩ | exact ⟨rfl, trivial, Ext.refl _, hI⟩
              · go_wp2
                first | exact ⟨rfl, rfl, Ext.refl _, hI⟩ | exact ⟨rfl, trivial, Ext.refl _, hI⟩
              · go_wp2
                first | exact ⟨rfl, rfl, Ext.refl _, hI⟩ | exact ⟨rfl, trivial, Ext.refl _, hI⟩
              · go_wp2
                first | exact ⟨rfl, rfl, Ext.refl _, hI⟩ | exact ⟨rfl, trivial, Ext.refl _, hI⟩
              · simp only [hd]
                refine wpList_skip1 rfl ?_
                exact ⟨rfl, rfl, Ext.refl _, hI⟩
              · simp only [hd]
                refine wpList_skip1 rfl ?_
                exact ⟨rfl, rfl, Ext.refl _, hI⟩
              · simp only [hd]
                refine wpList_skip1 rfl ?_
                exact ⟨rfl, rfl, Ext.refl _, hI⟩
              · simp only [hd]
                refine wpList_skip1 rfl ?_
                exact ⟨rfl, rfl, Ext.refl _, hI⟩
              · simp only [hd]
                refine wpList_skip1 rfl ?_
                exact ⟨rfl, rfl, Ext.refl _, hI⟩
              · simp only [hd]
                refine wpList_skip1 rfl ?_
                exact ⟨rfl, rfl, Ext.refl _, hI⟩
              · simp only [hd]
                refine wpList_skip1 rfl ?_
                exact ⟨rfl, rfl, Ext.refl _, hI⟩
              · simp only [hd]
                refine wpList_skip1 rfl ?_
                exact ⟨rfl, rfl, Ext.refl _, hI⟩
              · go_wp2
                first | exact ⟨rfl, rfl, Ext.refl _, hI⟩ | exact ⟨rfl, trivial, Ext.refl _, hI⟩
              · go_wp2
                first | exact ⟨rfl, rfl, Ext.refl _, hI⟩ | exact ⟨rfl, trivial, Ext.refl _, hI⟩
              · go_wp2
                first | exact ⟨rfl, rfl, Ext.refl _, hI⟩ | exact ⟨rfl, trivial, Ext.refl _, hI⟩
              · go_wp2
                first | exact ⟨rfl, rfl, Ext.refl _, hI⟩ | exact ⟨rfl, trivial, Ext.refl _, hI⟩
              · go_wp2
                first | exact ⟨rfl, rfl, Ext.refl _, hI⟩ | exact ⟨rfl, trivial, Ext.refl _, hI⟩
              · have e1 := hI.cell b1
                go_wp2
                exact ⟨rfl, rfl, Ext.refl _, hI⟩
              · go_wp2_with fail
                refine (zfind_any _ l s _ (hvr.mono rMb_mono (HW.out.then hI)) hlm).mono ?_
                rintro e w3 ⟨rfl, hx3⟩
                go_wp2
                exact ⟨rfl, rfl, hx3, hI.then hx3⟩
              · go_wp2
                first | exact ⟨rfl, rfl, Ext.refl _, hI⟩ | exact ⟨rfl, trivial, Ext.refl _, hI⟩
              · go_wp2
                first | exact ⟨rfl, rfl, Ext.refl _, hI⟩ | exact ⟨rfl, trivial, Ext.refl _, hI⟩
              · go_wp2
                first | exact ⟨rfl, rfl, Ext.refl _, hI⟩ | exact ⟨rfl, trivial, Ext.refl _, hI⟩
            · intro vs w' hI hd
              simp only [actD, List.range, List.range.loop, List.foldl_cons, List.foldl_nil, List.length_cons, List.length_nil, List.getD_cons_zero, List.getD_cons_succ]
              rw [show vs 23 = Value.bool false from hd 23 (by decide)]
              clear hd
              go_simp
              go_wp2_with fail
              exact ⟨⟨k + 1, by go_num, by omega, Hall2.out, (Hx0.out.then HW.out).then hI⟩, by simp [intOf]; omega⟩
          · have hne : (atZ l s != (k : Int)) = true := bne_iff_ne.2 hat
            have Hf : Hid (RR = false) := Lib.hid (by rw [← Hr.out, allN_false hlt (by rw [Hokv.out]; exact decide_eq_false hat)]; simp)
            clear hat
            go_wp2_with fail
            have b0 := box1 wr #[.int .i64 n, .string s] 45 (g := wr.heap.size) (i := 0) (v := .int .i64 n) rfl rfl
            have b1 := box1 wr #[.int .i64 n, .string s] 45 (g := wr.heap.size) (i := 1) (v := .string s) rfl rfl
            have hW : Ext wr (wr.alloc (.cells #[.int .i64 n, .string s] 45)) := (Ext.refl wr).alloc _
            generalize wr.alloc (.cells #[.int .i64 n, .string s] 45) = W at b0 b1 hW ⊢
            have HW := Lib.hid hW
            clear hW
            refine wp_region_rely_lit rfl [some 12, some 13, some 14, some 15, some 16, some 17, some 18, some 19, some 20, some 21, some 22, some 23, some 24, some 25, some 26, some 27, some 28, some 29, some 30, some 31, some 32, some 33, some 34, some 35] rfl [[], [0], [1], [2], [2, 3], [2, 4], [5], [5], [5, 7], [5, 6, 8], [5, 9], [5], [5, 10, 11], [5, 12], [2, 5, 13], [2, 14], [15], [16], [16], [16, 18], [16, 17, 19], [16], [16, 20, 21], [16, 22]] (by kernel_rfl) (fun w' => Ext W w') Ext
              (fun i w' v => match i with
                | 0 => v = .agg #[.int .i64 n, .string s]
                | 1 => v = .bool false
                | 2 => v = .bool false
                | 3 => v = .int .i64 (k : Int)
                | 4 => v = .bool false
                | 5 => v = .bool false
                | 6 => v = undef
                | 7 => v = undef
                | 8 => v = undef
                | 9 => v = undef
                | 10 => v = undef
                | 11 => v = undef
                | 12 => v = undef
                | 13 => v = undef
                | 14 => v = .bool false
                | 15 => v = .bool false
                | 16 => v = .bool false
                | 17 => v = .slice (some ⟨g, o, none⟩) l.length cap
                | 18 => v = .pointer (some ⟨wr.heap.size, 1, none⟩)
                | 19 => v = .string s
                | 20 => v = .int .i64 (atZ l s)
                | 21 => v = .int .i64 (k : Int)
                | 22 => v = .bool true
                | 23 => v = .bool true
                | _ => True) (fun i w1 w2 v _ h => h) ?_ ?_ ?_
            · exact (Ext.refl W).drew
            · refine ⟨?_, ?_, ?_, ?_, ?_, ?_, ?_, ?_, ?_, ?_, ?_, ?_, ?_, ?_, ?_, ?_, ?_, ?_, ?_, ?_, ?_, ?_, ?_, ?_, trivial⟩
              all_goals (intro vs w' hI hd)
              all_goals simp only [opsFor, actD, List.getD_cons_zero, List.getD_cons_succ, List.foldl_cons, List.foldl_nil, List.mem_cons, List.not_mem_nil, or_false, forall_eq_or_imp, forall_eq] at hd ⊢
              · have e0 := hI.cell b0
                have e1 := hI.cell b1
                go_wp2
                exact ⟨rfl, rfl, Ext.refl _, hI⟩
              · go_wp2_with fail
                refine (zlong_any n s _ hs2).mono ?_
                rintro e w3 ⟨rfl, hx3⟩
                rw [Hlg.out]
                go_wp2
                exact ⟨rfl, rfl, hx3, hI.then hx3⟩
              · go_wp2
                first | exact ⟨rfl, rfl, Ext.refl _, hI⟩ | exact ⟨rfl, trivial, Ext.refl _, hI⟩
              · go_wp2
                first | exact ⟨rfl, rfl, Ext.refl _, hI⟩ | exact ⟨rfl, trivial, Ext.refl _, hI⟩
              · go_wp2
                first | exact ⟨rfl, rfl, Ext.refl _, hI⟩ | exact ⟨rfl, trivial, Ext.refl _, hI⟩
              · go_wp2
                first | exact ⟨rfl, rfl, Ext.refl _, hI⟩ | exact ⟨rfl, trivial, Ext.refl _, hI⟩
              · simp only [hd]
                refine wpList_skip1 rfl ?_
                exact ⟨rfl, rfl, Ext.refl _, hI⟩
              · simp only [hd]
                refine wpList_skip1 rfl ?_
                exact ⟨rfl, rfl, Ext.refl _, hI⟩
              · simp only [hd]
                refine wpList_skip1 rfl ?_
                exact ⟨rfl, rfl, Ext.refl _, hI⟩
              · simp only [hd]
                refine wpList_skip1 rfl ?_
                exact ⟨rfl, rfl, Ext.refl _, hI⟩
              · simp only [hd]
                refine wpList_skip1 rfl ?_
                exact ⟨rfl, rfl, Ext.refl _, hI⟩
              · simp only [hd]
                refine wpList_skip1 rfl ?_
                exact ⟨rfl, rfl, Ext.refl _, hI⟩
              · simp only [hd]
                refine wpList_skip1 rfl ?_
                exact ⟨rfl, rfl, Ext.refl _, hI⟩
              · simp only [hd]
                refine wpList_skip1 rfl ?_
                exact ⟨rfl, rfl, Ext.refl _, hI⟩
              · go_wp2
                first | exact ⟨rfl, rfl, Ext.refl _, hI⟩ | exact ⟨rfl, trivial, Ext.refl _, hI⟩
              · go_wp2
                first | exact ⟨rfl, rfl, Ext.refl _, hI⟩ | exact ⟨rfl, trivial, Ext.refl _, hI⟩
              · go_wp2
                first | exact ⟨rfl, rfl, Ext.refl _, hI⟩ | exact ⟨rfl, trivial, Ext.refl _, hI⟩
              · go_wp2
                first | exact ⟨rfl, rfl, Ext.refl _, hI⟩ | exact ⟨rfl, trivial, Ext.refl _, hI⟩
              · go_wp2
                first | exact ⟨rfl, rfl, Ext.refl _, hI⟩ | exact ⟨rfl, trivial, Ext.refl _, hI⟩
              · have e1 := hI.cell b1
                go_wp2
                exact ⟨rfl, rfl, Ext.refl _, hI⟩
              · go_wp2_with fail
                refine (zfind_any _ l s _ (hvr.mono rMb_mono (HW.out.then hI)) hlm).mono ?_
                rintro e w3 ⟨rfl, hx3⟩
                go_wp2
                exact ⟨rfl, rfl, hx3, hI.then hx3⟩
              · go_wp2
                first | exact ⟨rfl, rfl, Ext.refl _, hI⟩ | exact ⟨rfl, trivial, Ext.refl _, hI⟩
              · go_wp2
                first | exact ⟨rfl, rfl, Ext.refl _, hI⟩ | exact ⟨rfl, trivial, Ext.refl _, hI⟩
              · go_wp2
                first | exact ⟨rfl, rfl, Ext.refl _, hI⟩ | exact ⟨rfl, trivial, Ext.refl _, hI⟩
            · intro vs w' hI hd
              simp only [actD, List.range, List.range.loop, List.foldl_cons, List.foldl_nil, List.length_cons, List.length_nil, List.getD_cons_zero, List.getD_cons_succ]
              rw [show vs 23 = Value.bool true from hd 23 (by decide)]
              clear hd
              go_simp
              go_wp2_with fail
              go_ret
              exact ⟨by rw [Hf.out]; rfl, (Hx0.out.then HW.out).then hI⟩
        · obtain ⟨j, hj⟩ : ∃ j : Nat, (k : Int) - 1 = (j : Int) := ⟨k - 1, by omega⟩
          have hkj := Lib.hid (show k = j + 1 by omega)
          have hjl : j < l.length := by omega
          obtain ⟨y, hy⟩ : ∃ y, l[j]? = some y := ⟨_, List.getElem?_eq_getElem hjl⟩
          obtain ⟨g', o', e', hv1, hv1', ht1, ht2⟩ := hvr.atMb hy
          obtain ⟨rfl, rfl⟩ : g = g' ∧ o = o' := by
            have h := e'
            simp at h
            exact h
          obtain ⟨m, t⟩ := y
          have Hy := Lib.hid hy
          have hkp : 0 < k := by omega
          have hd3 : decide ((0 : Int) < (k : Int)) = true := decide_eq_true (by omega)
          have hd4 : decide (0 < k) = true := decide_eq_true (by omega)
          simp only at hv1 hv1' ht1 ht2
          clear e' hy hk0
          have Hokv : Hid (okZ l k = (beforeB (m, t) (n, s) && decide (atZ l s = (k : Int)))) := Lib.hid (by
            have e1 : l[j + 1]? = some (n, s) := by rw [← hkj.out]; exact Hx.out
            rw [hkj.out]
            unfold okZ
            rw [e1]
            simp only [Hy.out]
            simp [hA])
          have Hge : Hid (decide (0 ≤ ordZ (m, t) (n, s)) = !beforeB (m, t) (n, s)) := Lib.hid (ordZ_ge _ _)
          obtain ⟨cc, hcc⟩ : ∃ cc, ordZ (m, t) (n, s) = cc := ⟨_, rfl⟩
          have hge := Hge.out
          rw [hcc] at hge
          clear Hge
          unfold ordZ at hcc
          have Hcc := Lib.hid hcc
          clear hcc
          cases hbf : beforeB (m, t) (n, s) with
          | false =>
            have Hf : Hid (RR = false) := Lib.hid (by rw [← Hr.out, allN_false hlt (by rw [Hokv.out, hbf]; rfl)]; simp)
            rw [hbf] at hge
            have hcd : decide (0 ≤ cc) = true := hge
            have hcn : 0 ≤ cc := of_decide_eq_true hcd
            clear hge hbf
            go_wp2_with fail
            have b0 := box1 wr #[.int .i64 n, .string s] 45 (g := wr.heap.size) (i := 0) (v := .int .i64 n) rfl rfl
            have b1 := box1 wr #[.int .i64 n, .string s] 45 (g := wr.heap.size) (i := 1) (v := .string s) rfl rfl
            have hW : Ext wr (wr.alloc (.cells #[.int .i64 n, .string s] 45)) := (Ext.refl wr).alloc _
            generalize wr.alloc (.cells #[.int .i64 n, .string s] 45) = W at b0 b1 hW ⊢
            have HW := Lib.hid hW
            clear hW
            refine wp_region_rely_lit rfl [some 12, some 13, some 14, some 15, some 16, some 17, some 18, some 19, some 20, some 21, some 22, some 23, some 24, some 25, some 26, some 27, some 28, some 29, some 30, some 31, some 32, some 33, some 34, some 35] rfl [[], [0], [1], [2], [2, 3], [2, 4], [5], [5], [5, 7], [5, 6, 8], [5, 9], [5], [5, 10, 11], [5, 12], [2, 5, 13], [2, 14], [15], [16], [16], [16, 18], [16, 17, 19], [16], [16, 20, 21], [16, 22]] (by kernel_rfl) (fun w' => Ext W w') Ext
              (fun i w' v => match i with
                | 0 => v = .agg #[.int .i64 n, .string s]
                | 1 => v = .bool false
                | 2 => v = .bool false
                | 3 => v = .int .i64 (k : Int)
                | 4 => v = .bool true
                | 5 => v = .bool true
                | 6 => v = .slice (some ⟨g, o, none⟩) l.length cap
                | 7 => v = .int .i64 (k : Int)
                | 8 => v = .int .i64 (j : Int)
                | 9 => v = .pointer (some ⟨g, o + j * 2, none⟩)
                | 10 => v = .agg #[.int .i64 m, .string t]
                | 11 => v = .agg #[.int .i64 n, .string s]
                | 12 => v = .int .i64 cc
                | 13 => v = .bool true
                | 14 => v = .bool true
                | 15 => v = .bool true
                | 16 => v = .bool true
                | 17 => v = undef
                | 18 => v = undef
                | 19 => v = undef
                | 20 => v = undef
                | 21 => v = undef
                | 22 => v = undef
                | 23 => v = .bool true
                | _ => True) (fun i w1 w2 v _ h => h) ?_ ?_ ?_
            · exact (Ext.refl W).drew
            · refine ⟨?_, ?_, ?_, ?_, ?_, ?_, ?_, ?_, ?_, ?_, ?_, ?_, ?_, ?_, ?_, ?_, ?_, ?_, ?_, ?_, ?_, ?_, ?_, ?_, trivial⟩
              all_goals (intro vs w' hI hd)
              all_goals simp only [opsFor, actD, List.getD_cons_zero, List.getD_cons_succ, List.foldl_cons, List.foldl_nil, List.mem_cons, List.not_mem_nil, or_false, forall_eq_or_imp, forall_eq] at hd ⊢
              · have e0 := hI.cell b0
                have e1 := hI.cell b1
                go_wp2
                exact ⟨rfl, rfl, Ext.refl _, hI⟩
              · go_wp2_with fail
                refine (zlong_any n s _ hs2).mono ?_
                rintro e w3 ⟨rfl, hx3⟩
                rw [Hlg.out]
                go_wp2
                exact ⟨rfl, rfl, hx3, hI.then hx3⟩
              · go_wp2
                first | exact ⟨rfl, rfl, Ext.refl _, hI⟩ | exact ⟨rfl, trivial, Ext.refl _, hI⟩
              · go_wp2
                first | exact ⟨rfl, rfl, Ext.refl _, hI⟩ | exact ⟨rfl, trivial, Ext.refl _, hI⟩
              · go_wp2
                first | exact ⟨rfl, rfl, Ext.refl _, hI⟩ | exact ⟨rfl, trivial, Ext.refl _, hI⟩
              · go_wp2
                first | exact ⟨rfl, rfl, Ext.refl _, hI⟩ | exact ⟨rfl, trivial, Ext.refl _, hI⟩
              · go_wp2
                first | exact ⟨rfl, rfl, Ext.refl _, hI⟩ | exact ⟨rfl, trivial, Ext.refl _, hI⟩
              · go_wp2
                first | exact ⟨rfl, rfl, Ext.refl _, hI⟩ | exact ⟨rfl, trivial, Ext.refl _, hI⟩
              · go_wp2
                first | exact ⟨rfl, rfl, Ext.refl _, hI⟩ | exact ⟨rfl, trivial, Ext.refl _, hI⟩
              · go_wp2
                first | exact ⟨rfl, rfl, Ext.refl _, hI⟩ | exact ⟨rfl, trivial, Ext.refl _, hI⟩
              · have e0 := (HW.out.then hI).cell hv1
                have e1 := (HW.out.then hI).cell hv1'
                go_wp2
                exact ⟨rfl, rfl, Ext.refl _, hI⟩
              · have e0 := hI.cell b0
                have e1 := hI.cell b1
                go_wp2
                exact ⟨rfl, rfl, Ext.refl _, hI⟩
              · go_wp2_with fail
                refine (zorder_any (m, t) (n, s) _).mono ?_
                rintro e w3 ⟨rfl, hx3⟩
                rw [Hcc.out]
                go_wp2
                exact ⟨rfl, rfl, hx3, hI.then hx3⟩
              · go_wp2
                first | exact ⟨rfl, rfl, Ext.refl _, hI⟩ | exact ⟨rfl, trivial, Ext.refl _, hI⟩
              · go_wp2
                first | exact ⟨rfl, rfl, Ext.refl _, hI⟩ | exact ⟨rfl, trivial, Ext.refl _, hI⟩
              · go_wp2
                first | exact ⟨rfl, rfl, Ext.refl _, hI⟩ | exact ⟨rfl, trivial, Ext.refl _, hI⟩
              · go_wp2
                first | exact ⟨rfl, rfl, Ext.refl _, hI⟩ | exact ⟨rfl, trivial, Ext.refl _, hI⟩
              · simp only [hd]
                refine wpList_skip1 rfl ?_
                exact ⟨rfl, rfl, Ext.refl _, hI⟩
              · simp only [hd]
                refine wpList_skip1 rfl ?_
                exact ⟨rfl, rfl, Ext.refl _, hI⟩
              · simp only [hd]
                refine wpList_skip1 rfl ?_
                exact ⟨rfl, rfl, Ext.refl _, hI⟩
              · simp only [hd]
                refine wpList_skip1 rfl ?_
                exact ⟨rfl, rfl, Ext.refl _, hI⟩
              · simp only [hd]
                refine wpList_skip1 rfl ?_
                exact ⟨rfl, rfl, Ext.refl _, hI⟩
              · simp only [hd]
                refine wpList_skip1 rfl ?_
                exact ⟨rfl, rfl, Ext.refl _, hI⟩
              · go_wp2
                first | exact ⟨rfl, rfl, Ext.refl _, hI⟩ | exact ⟨rfl, trivial, Ext.refl _, hI⟩
            · intro vs w' hI hd
              simp only [actD, List.range, List.range.loop, List.foldl_cons, List.foldl_nil, List.length_cons, List.length_nil, List.getD_cons_zero, List.getD_cons_succ]
              rw [show vs 23 = Value.bool true from hd 23 (by decide)]
              clear hd
              go_simp
              go_wp2_with fail
              go_ret
              exact ⟨by rw [Hf.out]; rfl, (Hx0.out.then HW.out).then hI⟩
          | true =>
            have Hokw : Hid (okZ l k = decide (atZ l s = (k : Int))) := Lib.hid (by rw [Hokv.out, hbf, Bool.true_and])
            rw [hbf] at hge
            have hcd : decide (0 ≤ cc) = false := hge
            have hcn : ¬ 0 ≤ cc := of_decide_eq_false hcd
            clear hge hbf
            by_cases hat : atZ l s = (k : Int)
            · have hne : (atZ l s != (k : Int)) = false := by rw [hat]; simp
              have Hok : Hid (okZ l k = true) := Lib.hid (by rw [Hokw.out]; exact decide_eq_true hat)
              have Hall2 : Hid (∀ j, j < k + 1 → okZ l j = true) := Lib.hid (fun j hj => by
                by_cases e : j = k
                · rw [e]; exact Hok.out
                · exact Hall.out j (by omega))
              clear hat
              go_wp2_with fail
              have b0 := box1 wr #[.int .i64 n, .string s] 45 (g := wr.heap.size) (i := 0) (v := .int .i64 n) rfl rfl
              have b1 := box1 wr #[.int .i64 n, .string s] 45 (g := wr.heap.size) (i := 1) (v := .string s) rfl rfl
              have hW : Ext wr (wr.alloc (.cells #[.int .i64 n, .string s] 45)) := (Ext.refl wr).alloc _
              generalize wr.alloc (.cells #[.int .i64 n, .string s] 45) = W at b0 b1 hW ⊢
              have HW := Lib.hid hW
              clear hW
              refine wp_region_rely_lit rfl [some 12, some 13, some 14, some 15, some 16, some 17, some 18, some 19, some 20, some 21, some 22, some 23, some 24, some 25, some 26, some 27, some 28, some 29, some 30, some 31, some 32, some 33, some 34, some 35] rfl [[], [0], [1], [2], [2, 3], [2, 4], [5], [5], [5, 7], [5, 6, 8], [5, 9], [5], [5, 10, 11], [5, 12], [2, 5, 13], [2, 14], [15], [16], [16], [16, 18], [16, 17, 19], [16], [16, 20, 21], [16, 22]] (by kernel_rfl) (fun w' => Ext W w') Ext
                (fun i w' v => match i with
                  | 0 => v = .agg #[.int .i64 n, .string s]
                  | 1 => v = .bool false
                  | 2 => v = .bool false
                  | 3 => v = .int .i64 (k : Int)
                  | 4 => v = .bool true
                  | 5 => v = .bool true
                  | 6 => v = .slice (some ⟨g, o, none⟩) l.length cap
                  | 7 => v = .int .i64 (k : Int)
                  | 8 => v = .int .i64 (j : Int)
                  | 9 => v = .pointer (some ⟨g, o + j * 2, none⟩)
                  | 10 => v = .agg #[.int .i64 m, .string t]
                  | 11 => v = .agg #[.int .i64 n, .string s]
                  | 12 => v = .int .i64 cc
                  | 13 => v = .bool false
                  | 14 => v = .bool false
                  | 15 => v = .bool false
                  | 16 => v = .bool false
                  | 17 => v = .slice (some ⟨g, o, none⟩) l.length cap
                  | 18 => v = .pointer (some ⟨wr.heap.size, 1, none⟩)
                  | 19 => v = .string s
                  | 20 => v = .int .i64 (atZ l s)
                  | 21 => v = .int .i64 (k : Int)
                  | 22 => v = .bool false
                  | 23 => v = .bool false
                  | _ => True) (fun i w1 w2 v _ h => h) ?_ ?_ ?_
              · exact (Ext.refl W).drew
              · refine ⟨?_, ?_, ?_, ?_, ?_, ?_, ?_, ?_, ?_, ?_, ?_, ?_, ?_, ?_, ?_, ?_, ?_, ?_, ?_, ?_, ?_, ?_, ?_, ?_, trivial⟩
                all_goals (intro vs w' hI hd)
                all_goals simp only [opsFor, actD, List.getD_cons_zero, List.getD_cons_succ, List.foldl_cons, List.foldl_nil, List.mem_cons, List.not_mem_nil, or_false, forall_eq_or_imp, forall_eq] at hd ⊢
                · have e0 := hI.cell b0
                  have e1 := hI.cell b1
                  go_wp2
                  exact ⟨rfl, rfl, Ext.refl _, hI⟩
                · go_wp2_with fail
                  refine (zlong_any n s _ hs2).mono ?_
                  rintro e w3 ⟨rfl, hx3⟩
                  rw [Hlg.out]
                  go_wp2
                  exact ⟨rfl, rfl, hx3, hI.then hx3⟩
                · go_wp2
                  first | exact ⟨rfl, rfl, Ext.refl _, hI⟩ | exact ⟨rfl, trivial, Ext.refl _, hI⟩
                · go_wp2
                  first | exact ⟨rfl, rfl, Ext.refl _, hI⟩ | exact ⟨rfl, trivial, Ext.refl _, hI⟩
                · go_wp2
                  first | exact ⟨rfl, rfl, Ext.refl _, hI⟩ | exact ⟨rfl, trivial, Ext.refl _, hI⟩
                · go_wp2
                  first | exact ⟨rfl, rfl, Ext.refl _, hI⟩ | exact ⟨rfl, trivial, Ext.refl _, hI⟩
                · go_wp2
                  first | exact ⟨rfl, rfl, Ext.refl _, hI⟩ | exact ⟨rfl, trivial, Ext.refl _, hI⟩
                · go_wp2
                  first | exact ⟨rfl, rfl, Ext.refl _, hI⟩ | exact ⟨rfl, trivial, Ext.refl _, hI⟩
                · go_wp2
                  first | exact ⟨rfl, rfl, Ext.refl _, hI⟩ | exact ⟨rfl, trivial, Ext.refl _, hI⟩
                · go_wp2
                  first | exact ⟨rfl, rfl, Ext.refl _, hI⟩ | exact ⟨rfl, trivial, Ext.refl _, hI⟩
                · have e0 := (HW.out.then hI).cell hv1
                  have e1 := (HW.out.then hI).cell hv1'
                  go_wp2
                  exact ⟨rfl, rfl, Ext.refl _, hI⟩
                · have e0 := hI.cell b0
                  have e1 := hI.cell b1
                  go_wp2
                  exact ⟨rfl, rfl, Ext.refl _, hI⟩
                · go_wp2_with fail
                  refine (zorder_any (m, t) (n, s) _).mono ?_
                  rintro e w3 ⟨rfl, hx3⟩
                  rw [Hcc.out]
                  go_wp2
                  exact ⟨rfl, rfl, hx3, hI.then hx3⟩
                · go_wp2
                  first | exact ⟨rfl, rfl, Ext.refl _, hI⟩ | exact ⟨rfl, trivial, Ext.refl _, hI⟩
                · go_wp2
                  first | exact ⟨rfl, rfl, Ext.refl _, hI⟩ | exact ⟨rfl, trivial, Ext.refl _, hI⟩
                · go_wp2
                  first | exact ⟨rfl, rfl, Ext.refl _, hI⟩ | exact ⟨rfl, trivial, Ext.refl _, hI⟩
                · go_wp2
                  first | exact ⟨rfl, rfl, Ext.refl _, hI⟩ | exact ⟨rfl, trivial, Ext.refl _, hI⟩
                · go_wp2
                  first | exact ⟨rfl, rfl, Ext.refl _, hI⟩ | exact ⟨rfl, trivial, Ext.refl _, hI⟩
                · go_wp2
                  first | exact ⟨rfl, rfl, Ext.refl _, hI⟩ | exact ⟨rfl, trivial, Ext.refl _, hI⟩
                · have e1 := hI.cell b1
                  go_wp2
                  exact ⟨rfl, rfl, Ext.refl _, hI⟩
                · go_wp2_with fail
                  refine (zfind_any _ l s _ (hvr.mono rMb_mono (HW.out.then hI)) hlm).mono ?_
                  rintro e w3 ⟨rfl, hx3⟩
                  go_wp2
                  exact ⟨rfl, rfl, hx3, hI.then hx3⟩
                · go_wp2
                  first | exact ⟨rfl, rfl, Ext.refl _, hI⟩ | exact ⟨rfl, trivial, Ext.refl _, hI⟩
                · go_wp2
                  first | exact ⟨rfl, rfl, Ext.refl _, hI⟩ | exact ⟨rfl, trivial, Ext.refl _, hI⟩
                · go_wp2
                  first | exact ⟨rfl, rfl, Ext.refl _, hI⟩ | exact ⟨rfl, trivial, Ext.refl _, hI⟩
              · intro vs w' hI hd
                simp only [actD, List.range, List.range.loop, List.foldl_cons, List.foldl_nil, List.length_cons, List.length_nil, List.getD_cons_zero, List.getD_cons_succ]
                rw [show vs 23 = Value.bool false from hd 23 (by decide)]
                clear hd
                go_simp
                go_wp2_with fail
                exact ⟨⟨k + 1, by go_num, by omega, Hall2.out, (Hx0.out.then HW.out).then hI⟩, by simp [intOf]; omega⟩
            · have hne : (atZ l s != (k : Int)) = true := bne_iff_ne.2 hat
              have Hf : Hid (RR = false) := Lib.hid (by rw [← Hr.out, allN_false hlt (by rw [Hokw.out]; exact decide_eq_false hat)]; simp)
              clear hat
              go_wp2_with fail
              have b0 := box1 wr #[.int .i64 n, .string s] 45 (g := wr.heap.size) (i := 0) (v := .int .i64 n) rfl rfl
              have b1 := box1 wr #[.int .i64 n, .string s] 45 (g := wr.heap.size) (i := 1) (v := .string s) rfl rfl
              have hW : Ext wr (wr.alloc (.cells #[.int .i64 n, .string s] 45)) := (Ext.refl wr).alloc _
              generalize wr.alloc (.cells #[.int .i64 n, .string s] 45) = W at b0 b1 hW ⊢
              have HW := Lib.hid hW
              clear hW
              refine wp_region_rely_lit rfl [some 12, some 13, some 14, some 15, some 16, some 17, some 18, some 19, some 20, some 21, some 22, some 23, some 24, some 25, some 26, some 27, some 28, some 29, some 30, some 31, some 32, some 33, some 34, some 35] rfl [[], [0], [1], [2], [2, 3], [2, 4], [5], [5], [5, 7], [5, 6, 8], [5, 9], [5], [5, 10, 11], [5, 12], [2, 5, 13], [2, 14], [15], [16], [16], [16, 18], [16, 17, 19], [16], [16, 20, 21], [16, 22]] (by kernel_rfl) (fun w' => Ext W w') Ext
                (fun i w' v => match i with
                  | 0 => v = .agg #[.int .i64 n, .string s]
                  | 1 => v = .bool false
                  | 2 => v = .bool false
                  | 3 => v = .int .i64 (k : Int)
                  | 4 => v = .bool true
                  | 5 => v = .bool true
                  | 6 => v = .slice (some ⟨g, o, none⟩) l.length cap
                  | 7 => v = .int .i64 (k : Int)
                  | 8 => v = .int .i64 (j : Int)
                  | 9 => v = .pointer (some ⟨g, o + j * 2, none⟩)
                  | 10 => v = .agg #[.int .i64 m, .string t]
                  | 11 => v = .agg #[.int .i64 n, .string s]
                  | 12 => v = .int .i64 cc
                  | 13 => v = .bool false
                  | 14 => v = .bool false
                  | 15 => v = .bool false
                  | 16 => v = .bool false
                  | 17 => v = .slice (some ⟨g, o, none⟩) l.length cap
                  | 18 => v = .pointer (some ⟨wr.heap.size, 1, none⟩)
                  | 19 => v = .string s
                  | 20 => v = .int .i64 (atZ l s)
                  | 21 => v = .int .i64 (k : Int)
                  | 22 => v = .bool true
                  | 23 => v = .bool true
                  | _ => True) (fun i w1 w2 v _ h => h) ?_ ?_ ?_
              · exact (Ext.refl W).drew
              · refine ⟨?_, ?_, ?_, ?_, ?_, ?_, ?_, ?_, ?_, ?_, ?_, ?_, ?_, ?_, ?_, ?_, ?_, ?_, ?_, ?_, ?_, ?_, ?_, ?_, trivial⟩
                all_goals (intro vs w' hI hd)
                all_goals simp only [opsFor, actD, List.getD_cons_zero, List.getD_cons_succ, List.foldl_cons, List.foldl_nil, List.mem_cons, List.not_mem_nil, or_false, forall_eq_or_imp, forall_eq] at hd ⊢
                · have e0 := hI.cell b0
                  have e1 := hI.cell b1
                  go_wp2
                  exact ⟨rfl, rfl, Ext.refl _, hI⟩
                · go_wp2_with fail
                  refine (zlong_any n s _ hs2).mono ?_
                  rintro e w3 ⟨rfl, hx3⟩
                  rw [Hlg.out]
                  go_wp2
                  exact ⟨rfl, rfl, hx3, hI.then hx3⟩
                · go_wp2
                  first | exact ⟨rfl, rfl, Ext.refl _, hI⟩ | exact ⟨rfl, trivial, Ext.refl _, hI⟩
                · go_wp2
                  first | exact ⟨rfl, rfl, Ext.refl _, hI⟩ | exact ⟨rfl, trivial, Ext.refl _, hI⟩
                · go_wp2
                  first | exact ⟨rfl, rfl, Ext.refl _, hI⟩ | exact ⟨rfl, trivial, Ext.refl _, hI⟩
                · go_wp2
                  first | exact ⟨rfl, rfl, Ext.refl _, hI⟩ | exact ⟨rfl, trivial, Ext.refl _, hI⟩
                · go_wp2
                  first | exact ⟨rfl, rfl, Ext.refl _, hI⟩ | exact ⟨rfl, trivial, Ext.refl _, hI⟩
                · go_wp2
                  first | exact ⟨rfl, rfl, Ext.refl _, hI⟩ | exact ⟨rfl, trivial, Ext.refl _, hI⟩
                · go_wp2
                  first | exact ⟨rfl, rfl, Ext.refl _, hI⟩ | exact ⟨rfl, trivial, Ext.refl _, hI⟩
                · go_wp2
                  first | exact ⟨rfl, rfl, Ext.refl _, hI⟩ | exact ⟨rfl, trivial, Ext.refl _, hI⟩
                · have e0 := (HW.out.then hI).cell hv1
                  have e1 := (HW.out.then hI).cell hv1'
                  go_wp2
                  exact ⟨rfl, rfl, Ext.refl _, hI⟩
                · have e0 := hI.cell b0
                  have e1 := hI.cell b1
                  go_wp2
                  exact ⟨rfl, rfl, Ext.refl _, hI⟩
                · go_wp2_with fail
                  refine (zorder_any (m, t) (n, s) _).mono ?_
                  rintro e w3 ⟨rfl, hx3⟩
                  rw [Hcc.out]
                  go_wp2
                  exact ⟨rfl, rfl, hx3, hI.then hx3⟩
                · go_wp2
                  first | exact ⟨rfl, rfl, Ext.refl _, hI⟩ | exact ⟨rfl, trivial, Ext.refl _, hI⟩
                · go_wp2
                  first | exact ⟨rfl, rfl, Ext.refl _, hI⟩ | exact ⟨rfl, trivial, Ext.refl _, hI⟩
                · go_wp2
                  first | exact ⟨rfl, rfl, Ext.refl _, hI⟩ | exact ⟨rfl, trivial, Ext.refl _, hI⟩
                · go_wp2
                  first | exact ⟨rfl, rfl, Ext.refl _, hI⟩ | exact ⟨rfl, trivial, Ext.refl _, hI⟩
                · go_wp2
                  first | exact ⟨rfl, rfl, Ext.refl _, hI⟩ | exact ⟨rfl, trivial, Ext.refl _, hI⟩
                · go_wp2
                  first | exact ⟨rfl, rfl, Ext.refl _, hI⟩ | exact ⟨rfl, trivial, Ext.refl _, hI⟩
                · have e1 := hI.cell b1
                  go_wp2
                  exact ⟨rfl, rfl, Ext.refl _, hI⟩
                · go_wp2_with fail
                  refine (zfind_any _ l s _ (hvr.mono rMb_mono (HW.out.then hI)) hlm).mono ?_
                  rintro e w3 ⟨rfl, hx3⟩
                  go_wp2
                  exact ⟨rfl, rfl, hx3, hI.then hx3⟩
                · go_wp2
                  first | exact ⟨rfl, rfl, Ext.refl _, hI⟩ | exact ⟨rfl, trivial, Ext.refl _, hI⟩
                · go_wp2
                  first | exact ⟨rfl, rfl, Ext.refl _, hI⟩ | exact ⟨rfl, trivial, Ext.refl _, hI⟩
                · go_wp2
                  first | exact ⟨rfl, rfl, Ext.refl _, hI⟩ | exact ⟨rfl, trivial, Ext.refl _, hI⟩
              · intro vs w' hI hd
                simp only [actD, List.range, List.range.loop, List.foldl_cons, List.foldl_nil, List.length_cons, List.length_nil, List.getD_cons_zero, List.getD_cons_succ]
                rw [show vs 23 = Value.bool true from hd 23 (by decide)]
                clear hd
                go_simp
                go_wp2_with fail
                go_ret
                exact ⟨by rw [Hf.out]; rfl, (Hx0.out.then HW.out).then hI⟩
    · obtain rfl : k = l.length := by omega
      have Hf : Hid (RR = decide (l.length ≤ 512)) := Lib.hid (by rw [← Hr.out, allN_true Hall.out, Bool.true_and])
      go_wp2_with fail
      go_ret
      refine ⟨?_, Hx0.out⟩
      rw [Hf.out]
      show Ending.returned (.bool (decide ((l.length : Int) ≤ 512))) = _
      congr 2
      simp; omega
end Go.Proofs.Ythclkljdnmokcaa
