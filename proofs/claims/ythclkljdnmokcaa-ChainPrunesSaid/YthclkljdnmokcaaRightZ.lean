/-
  Which sorted sets are right (the reference): walked.
-/
import Derived.Test.YthclkljdnmokcaaRights
set_option linter.unusedVariables false
set_option linter.unusedSimpArgs false
namespace Go.Proofs.Ythclkljdnmokcaa
open Go.RowKit Go.Proofs

/-- an operation whose guard does not want it -/
theorem wpList_skip1 {P : Program} {ops : Array Oper} {Q : Exit → Act → World → Prop} {o : Oper} {a : Act} {w : World} (h : Region.wanted o (yielded ops a.tmps) = false) (hQ : Q .normal (a.put o.dst undef) w) : wpList P ops Q [o] a w := by
  simp only [wpList, h]
  exact hQ
def okZ (l : List (Int × ByteArray)) (k : Nat) : Bool :=
  match l[k]? with
  | none => true
  | some x => !decide (4096 < x.2.size) && ((match k with | 0 => true | j + 1 => match l[j]? with | some y => beforeB y x | none => true) && decide (atZ l x.2 = (k : Int)))
def rightZ (l : List (Int × ByteArray)) : Bool := allN l.length (okZ l) && decide (l.length ≤ 512)
set_option maxRecDepth 100000 in
set_option maxHeartbeats 4000000 in
theorem right13_any (v : Value) (l : List (Int × ByteArray)) (w : World) (hv : SliceOf rMb w v l) :
    Calls Try.prog 42 #[v] w fun e w' => e = .returned (.bool (rightZ l)) ∧ Ext w w' := by
  obtain ⟨a, cap, rfl, hle, hm, h0, _⟩ := id hv
  unfold maxLen at hm
  have Hr : Hid (rightZ l = (allN l.length (okZ l) && decide (l.length ≤ 512))) := Lib.hid rfl
  go_enter Try.func42, Try.ntmps42
  go_wp2_with fail
  go_loopw [3] (fun i wr => ∃ k : Nat, i = .int .i64 (k : Int) ∧ k ≤ l.length ∧ (∀ j, j < k → okZ l j = true) ∧ Ext w wr) (fun i _ => l.length - (intOf i).toNat)
  case atStart => exact ⟨0, rfl, by omega, fun j hj => by omega, Ext.refl _⟩
  case round =>
    obtain ⟨k, rfl, hk, hall, hx0⟩ := hrel
    have Hall := Lib.hid hall
    have Hx0 := Lib.hid hx0
    have hvr := hv.mono rMb_mono hx0
    clear hall hx0
    by_cases hlt : k < l.length
    · obtain ⟨x, hx⟩ : ∃ x, l[k]? = some x := ⟨_, List.getElem?_eq_getElem hlt⟩
      obtain ⟨g, o, rfl, hu, hu', hs1, hs2⟩ := hvr.atMb hx
      have Hx := Lib.hid hx
      obtain ⟨n, s⟩ := x
      simp only at hu hu' hs1 hs2
      have hs2' := hs2
      unfold maxLen at hs2'
      clear hx
      by_cases hA : 4096 < s.size
      · have hd : decide ((4096 : Int) < (s.size : Int)) = true := decide_eq_true (by omega)
        have Hf : Hid (rightZ l = false) := Lib.hid (by rw [Hr.out, allN_false hlt (by unfold okZ; rw [Hx.out]; simp [hA])]; rfl)
        go_wp2_with fail
        refine wp_region_rely_lit rfl [some 10, some 11, some 12, some 13, some 14, some 15, some 16, some 17, some 18, some 19, some 20, some 21, some 22, some 23, some 24, some 25, some 26, some 27, some 28, some 29, some 30, some 31, some 32, some 33, some 34, some 35, some 36, some 37, some 38, some 39, some 40, some 41, some 42, some 43, some 44] rfl [[], [], [0, 1], [2], [3], [4], [5], [6], [7], [7, 8], [7, 9], [10], [10], [10, 12], [10, 11, 13], [10, 14], [10], [10], [10, 16, 17], [10, 18], [10, 15, 19], [10, 20], [7, 10, 21], [7, 22], [23], [24], [24], [24], [24, 26, 27], [24, 28], [24, 29], [24, 25, 30], [24], [24, 31, 32], [24, 33]] (by kernel_rfl) (fun w' => Ext wr w') Ext
          (fun i w' v => match i with
            | 0 => v = .slice (some ⟨g, o, none⟩) l.length cap
            | 1 => v = .int .i64 (k : Int)
            | 2 => v = .pointer (some ⟨g, o + k * 2, none⟩)
            | 3 => v = .pointer (some ⟨g, o + k * 2 + 1, none⟩)
            | 4 => v = .string s
            | 5 => v = .int .i64 (s.size : Int)
            | 6 => v = .bool true
            | 7 => v = .bool true
            | 8 => v = undef
            | 9 => v = undef
            | 10 => v = undef
            | 11 => v = undef
            | 12 => v = undef
            | 13 => v = undef
            | 14 => v = undef
            | 15 => v = undef
            | 16 => v = undef
            | 17 => v = undef
            | 18 => v = undef
            | 19 => v = undef
            | 20 => v = undef
            | 21 => v = undef
            | 22 => v = undef
            | 23 => v = .bool true
            | 24 => v = .bool true
            | 25 => v = undef
            | 26 => v = undef
            | 27 => v = undef
            | 28 => v = undef
            | 29 => v = undef
            | 30 => v = undef
            | 31 => v = undef
            | 32 => v = undef
            | 33 => v = undef
            | 34 => v = .bool true
            | _ => True) (fun i w1 w2 v _ h => h) ?_ ?_ ?_
        · exact (Ext.refl wr).drew
        · refine ⟨?_, ?_, ?_, ?_, ?_, ?_, ?_, ?_, ?_, ?_, ?_, ?_, ?_, ?_, ?_, ?_, ?_, ?_, ?_, ?_, ?_, ?_, ?_, ?_, ?_, ?_, ?_, ?_, ?_, ?_, ?_, ?_, ?_, ?_, ?_, trivial⟩
          all_goals (intro vs w' hI hd)
          all_goals simp only [opsFor, actD, List.getD_cons_zero, List.getD_cons_succ, List.foldl_cons, List.foldl_nil, List.mem_cons, List.not_mem_nil, or_false, forall_eq_or_imp, forall_eq] at hd ⊢
          · go_wp2
            first | exact ⟨rfl, rfl, Ext.refl _, hI⟩ | exact ⟨rfl, trivial, Ext.refl _, hI⟩
          · go_wp2
            first | exact ⟨rfl, rfl, Ext.refl _, hI⟩ | exact ⟨rfl, trivial, Ext.refl _, hI⟩
          · go_wp2
            first | exact ⟨rfl, rfl, Ext.refl _, hI⟩ | exact ⟨rfl, trivial, Ext.refl _, hI⟩
          · go_wp2
            first | exact ⟨rfl, rfl, Ext.refl _, hI⟩ | exact ⟨rfl, trivial, Ext.refl _, hI⟩
          · have hc := hI.cell hu'
            go_wp2
            exact ⟨rfl, rfl, Ext.refl _, hI⟩
          · go_wp2
            first | exact ⟨rfl, rfl, Ext.refl _, hI⟩ | exact ⟨rfl, trivial, Ext.refl _, hI⟩
          · go_wp2
            first | exact ⟨rfl, rfl, Ext.refl _, hI⟩ | exact ⟨rfl, trivial, Ext.refl _, hI⟩
          · go_wp2
            first | exact ⟨rfl, rfl, Ext.refl _, hI⟩ | exact ⟨rfl, trivial, Ext.refl _, hI⟩
          · simp only [hd]
            refine wpList_skip1 rfl ?_
            exact ⟨rfl, rfl, Ext.refl _, hI⟩
          · simp only [hd]
            refine wpList_skip1 rfl ?_
            exact ⟨rfl, rfl, Ext.refl _, hI⟩
          · simp only [hd]
            refine wpList_skip1 rfl ?_
            exact ⟨rfl, rfl, Ext.refl _, hI⟩
          · simp only [hd]
            refine wpList_skip1 rfl ?_
            exact ⟨rfl, rfl, Ext.refl _, hI⟩
          · simp only [hd]
            refine wpList_skip1 rfl ?_
            exact ⟨rfl, rfl, Ext.refl _, hI⟩
          · simp only [hd]
            refine wpList_skip1 rfl ?_
            exact ⟨rfl, rfl, Ext.refl _, hI⟩
          · simp only [hd]
            refine wpList_skip1 rfl ?_
            exact ⟨rfl, rfl, Ext.refl _, hI⟩
          · simp only [hd]
            refine wpList_skip1 rfl ?_
            exact ⟨rfl, rfl, Ext.refl _, hI⟩
          · simp only [hd]
            refine wpList_skip1 rfl ?_
            exact ⟨rfl, rfl, Ext.refl _, hI⟩
          · simp only [hd]
            refine wpList_skip1 rfl ?_
            exact ⟨rfl, rfl, Ext.refl _, hI⟩
          · simp only [hd]
            refine wpList_skip1 rfl ?_
            exact ⟨rfl, rfl, Ext.refl _, hI⟩
          · simp only [hd]
            refine wpList_skip1 rfl ?_
            exact ⟨rfl, rfl, Ext.refl _, hI⟩
          · simp only [hd]
            refine wpList_skip1 rfl ?_
            exact ⟨rfl, rfl, Ext.refl _, hI⟩
          · simp only [hd]
            refine wpList_skip1 rfl ?_
            exact ⟨rfl, rfl, Ext.refl _, hI⟩
          · simp only [hd]
            refine wpList_skip1 rfl ?_
            exact ⟨rfl, rfl, Ext.refl _, hI⟩
          · go_wp2
            first | exact ⟨rfl, rfl, Ext.refl _, hI⟩ | exact ⟨rfl, trivial, Ext.refl _, hI⟩
          · go_wp2
            first | exact ⟨rfl, rfl, Ext.refl _, hI⟩ | exact ⟨rfl, trivial, Ext.refl _, hI⟩
          · simp only [hd]
            refine wpList_skip1 rfl ?_
            exact ⟨rfl, rfl, Ext.refl _, hI⟩
          · simp only [hd]
            refine wpList_skip1 rfl ?_
            exact ⟨rfl, rfl, Ext.refl _, hI⟩
          · simp only [hd]
            refine wpList_skip1 rfl ?_
            exact ⟨rfl, rfl, Ext.refl _, hI⟩
          · simp only [hd]
            refine wpList_skip1 rfl ?_
            exact ⟨rfl, rfl, Ext.refl _, hI⟩
          · simp only [hd]
            refine wpList_skip1 rfl ?_
            exact ⟨rfl, rfl, Ext.refl _, hI⟩
          · simp only [hd]
            refine wpList_skip1 rfl ?_
            exact ⟨rfl, rfl, Ext.refl _, hI⟩
          · simp only [hd]
            refine wpList_skip1 rfl ?_
            exact ⟨rfl, rfl, Ext.refl _, hI⟩
          · simp only [hd]
            refine wpList_skip1 rfl ?_
            exact ⟨rfl, rfl, Ext.refl _, hI⟩
          · simp only [hd]
            refine wpList_skip1 rfl ?_
            exact ⟨rfl, rfl, Ext.refl _, hI⟩
          · go_wp2
            first | exact ⟨rfl, rfl, Ext.refl _, hI⟩ | exact ⟨rfl, trivial, Ext.refl _, hI⟩
        · intro vs w' hI hd
          simp only [actD, List.range, List.range.loop, List.foldl_cons, List.foldl_nil, List.length_cons, List.length_nil, List.getD_cons_zero, List.getD_cons_succ]
          rw [show vs 34 = Value.bool true from hd 34 (by decide)]
          clear hd
          go_simp
          go_wp2_with fail
          go_ret
          exact ⟨by rw [Hf.out]; rfl, Hx0.out.then hI⟩
      · have hd : decide ((4096 : Int) < (s.size : Int)) = false := decide_eq_false (by omega)
        by_cases hk0 : k = 0
        · have Hk0 := Lib.hid hk0
          have hd3 : decide ((0 : Int) < (k : Int)) = false := decide_eq_false (by omega)
          have hd4 : decide (0 < k) = false := decide_eq_false (by omega)
          have Hokv : Hid (okZ l k = decide (atZ l s = (k : Int))) := Lib.hid (by unfold okZ; rw [Hx.out, hk0]; simp [hA])
          clear hk0
          by_cases hat : atZ l s = (k : Int)
          · have hne : (atZ l s != (k : Int)) = false := by rw [hat]; simp
            have Hok : Hid (okZ l k = true) := Lib.hid (by rw [Hokv.out]; exact decide_eq_true hat)
            have Hall2 : Hid (∀ j, j < k + 1 → okZ l j = true) := Lib.hid (fun j hj => by (obtain rfl : j = k := by have := Hk0.out; omega); exact Hok.out)
            clear hat
            go_wp2_with fail
            refine wp_region_rely_lit rfl [some 10, some 11, some 12, some 13, some 14, some 15, some 16, some 17, some 18, some 19, some 20, some 21, some 22, some 23, some 24, some 25, some 26, some 27, some 28, some 29, some 30, some 31, some 32, some 33, some 34, some 35, some 36, some 37, some 38, some 39, some 40, some 41, some 42, some 43, some 44] rfl [[], [], [0, 1], [2], [3], [4], [5], [6], [7], [7, 8], [7, 9], [10], [10], [10, 12], [10, 11, 13], [10, 14], [10], [10], [10, 16, 17], [10, 18], [10, 15, 19], [10, 20], [7, 10, 21], [7, 22], [23], [24], [24], [24], [24, 26, 27], [24, 28], [24, 29], [24, 25, 30], [24], [24, 31, 32], [24, 33]] (by kernel_rfl) (fun w' => Ext wr w') Ext
              (fun i w' v => match i with
                | 0 => v = .slice (some ⟨g, o, none⟩) l.length cap
                | 1 => v = .int .i64 (k : Int)
                | 2 => v = .pointer (some ⟨g, o + k * 2, none⟩)
                | 3 => v = .pointer (some ⟨g, o + k * 2 + 1, none⟩)
                | 4 => v = .string s
                | 5 => v = .int .i64 (s.size : Int)
                | 6 => v = .bool false
                | 7 => v = .bool false
                | 8 => v = .int .i64 (k : Int)
                | 9 => v = .bool false
                | 10 => v = .bool false
                | 11 => v = undef
                | 12 => v = undef
                | 13 => v = undef
                | 14 => v = undef
                | 15 => v = undef
                | 16 => v = undef
                | 17 => v = undef
                | 18 => v = undef
                | 19 => v = undef
                | 20 => v = undef
                | 21 => v = undef
                | 22 => v = .bool false
                | 23 => v = .bool false
                | 24 => v = .bool false
                | 25 => v = .slice (some ⟨g, o, none⟩) l.length cap
                | 26 => v = .slice (some ⟨g, o, none⟩) l.length cap
                | 27 => v = .int .i64 (k : Int)
                | 28 => v = .pointer (some ⟨g, o + k * 2, none⟩)
                | 29 => v = .pointer (some ⟨g, o + k * 2 + 1, none⟩)
                | 30 => v = .string s
                | 31 => v = .int .i64 (atZ l s)
                | 32 => v = .int .i64 (k : Int)
                | 33 => v = .bool false
                | 34 => v = .bool false
                | _ => True) (fun i w1 w2 v _ h => h) ?_ ?_ ?_
            · exact (Ext.refl wr).drew
            · refine ⟨?_, ?_, ?_, ?_, ?_, ?_, ?_, ?_, ?_, ?_, ?_, ?_, ?_, ?_, ?_, ?_, ?_, ?_, ?_, ?_, ?_, ?_, ?_, ?_, ?_, ?_, ?_, ?_, ?_, ?_, ?_, ?_, ?_, ?_, ?_, trivial⟩
              all_goals (intro vs w' hI hd)
              all_goals simp only [opsFor, actD, List.getD_cons_zero, List.getD_cons_succ, List.foldl_cons, List.foldl_nil, List.mem_cons, List.not_mem_nil, or_false, forall_eq_or_imp, forall_eq] at hd ⊢
              · go_wp2
                first | exact ⟨rfl, rfl, Ext.refl _, hI⟩ | exact ⟨rfl, trivial, Ext.refl _, hI⟩
              · go_wp2
                first | exact ⟨rfl, rfl, Ext.refl _, hI⟩ | exact ⟨rfl, trivial, Ext.refl _, hI⟩
              · go_wp2
                first | exact ⟨rfl, rfl, Ext.refl _, hI⟩ | exact ⟨rfl, trivial, Ext.refl _, hI⟩
              · go_wp2
                first | exact ⟨rfl, rfl, Ext.refl _, hI⟩ | exact ⟨rfl, trivial, Ext.refl _, hI⟩
              · have hc := hI.cell hu'
                go_wp2
                exact ⟨rfl, rfl, Ext.refl _, hI⟩
              · go_wp2
                first | exact ⟨rfl, rfl, Ext.refl _, hI⟩ | exact ⟨rfl, trivial, Ext.refl _, hI⟩
              · go_wp2
                first | exact ⟨rfl, rfl, Ext.refl _, hI⟩ | exact ⟨rfl, trivial, Ext.refl _, hI⟩
              · go_wp2
                first | exact ⟨rfl, rfl, Ext.refl _, hI⟩ | exact ⟨rfl, trivial, Ext.refl _, hI⟩
              · go_wp2
                first | exact ⟨rfl, rfl, Ext.refl _, hI⟩ | exact ⟨rfl, trivial, Ext.refl _, hI⟩
              · go_wp2
                first | exact ⟨rfl, rfl, Ext.refl _, hI⟩ | exact ⟨rfl, trivial, Ext.refl _, hI⟩
              · go_wp2
                first | exact ⟨rfl, rfl, Ext.refl _, hI⟩ | exact ⟨rfl, trivial, Ext.refl _, hI⟩
              · simp only [hd]
                refine wpList_skip1 rfl ?_
                exact ⟨rfl, rfl, Ext.refl _, hI⟩
              · simp only [hd]
                refine wpList_skip1 rfl ?_
                exact ⟨rfl, rfl, Ext.refl _, hI⟩
              · simp only [hd]
                refine wpList_skip1 rfl ?_
                exact ⟨rfl, rfl, Ext.refl _, hI⟩
              · simp only [hd]
                refine wpList_skip1 rfl ?_
                exact ⟨rfl, rfl, Ext.refl _, hI⟩
              · simp only [hd]
                refine wpList_skip1 rfl ?_
                exact ⟨rfl, rfl, Ext.refl _, hI⟩
              · simp only [hd]
                refine wpList_skip1 rfl ?_
                exact ⟨rfl, rfl, Ext.refl _, hI⟩
              · simp only [hd]
                refine wpList_skip1 rfl ?_
                exact ⟨rfl, rfl, Ext.refl _, hI⟩
              · simp only [hd]
                refine wpList_skip1 rfl ?_
                exact ⟨rfl, rfl, Ext.refl _, hI⟩
              · simp only [hd]
                refine wpList_skip1 rfl ?_
                exact ⟨rfl, rfl, Ext.refl _, hI⟩
              · simp only [hd]
                refine wpList_skip1 rfl ?_
                exact ⟨rfl, rfl, Ext.refl _, hI⟩
              · simp only [hd]
                refine wpList_skip1 rfl ?_
                exact ⟨rfl, rfl, Ext.refl _, hI⟩
              · go_wp2
                first | exact ⟨rfl, rfl, Ext.refl _, hI⟩ | exact ⟨rfl, trivial, Ext.refl _, hI⟩
              · go_wp2
                first | exact ⟨rfl, rfl, Ext.refl _, hI⟩ | exact ⟨rfl, trivial, Ext.refl _, hI⟩
              · go_wp2
                first | exact ⟨rfl, rfl, Ext.refl _, hI⟩ | exact ⟨rfl, trivial, Ext.refl _, hI⟩
              · go_wp2
                first | exact ⟨rfl, rfl, Ext.refl _, hI⟩ | exact ⟨rfl, trivial, Ext.refl _, hI⟩
              · go_wp2
                first | exact ⟨rfl, rfl, Ext.refl _, hI⟩ | exact ⟨rfl, trivial, Ext.refl _, hI⟩
              · go_wp2
                first | exact ⟨rfl, rfl, Ext.refl _, hI⟩ | exact ⟨rfl, trivial, Ext.refl _, hI⟩
              · go_wp2
                first | exact ⟨rfl, rfl, Ext.refl _, hI⟩ | exact ⟨rfl, trivial, Ext.refl _, hI⟩
              · go_wp2
                first | exact ⟨rfl, rfl, Ext.refl _, hI⟩ | exact ⟨rfl, trivial, Ext.refl _, hI⟩
              · have hc := hI.cell hu'
                go_wp2
                exact ⟨rfl, rfl, Ext.refl _, hI⟩
              · go_wp2_with fail
                refine (at13_any _ l s _ (hvr.mono rMb_mono hI)).mono ?_
                rintro e w3 ⟨rfl, hw⟩
                rw [hw]
                go_wp2
                exact ⟨rfl, rfl, Ext.refl _, hI⟩
              · go_wp2
                first | exact ⟨rfl, rfl, Ext.refl _, hI⟩ | exact ⟨rfl, trivial, Ext.refl _, hI⟩
              · go_wp2
                first | exact ⟨rfl, rfl, Ext.refl _, hI⟩ | exact ⟨rfl, trivial, Ext.refl _, hI⟩
              · go_wp2
                first | exact ⟨rfl, rfl, Ext.refl _, hI⟩ | exact ⟨rfl, trivial, Ext.refl _, hI⟩
            · intro vs w' hI hd
              simp only [actD, List.range, List.range.loop, List.foldl_cons, List.foldl_nil, List.length_cons, List.length_nil, List.getD_cons_zero, List.getD_cons_succ]
              rw [show vs 34 = Value.bool false from hd 34 (by decide)]
              clear hd
              go_simp
              go_wp2_with fail
              exact ⟨⟨k + 1, by go_num, by omega, Hall2.out, Hx0.out.then hI⟩, by simp [intOf]; omega⟩
          · have hne : (atZ l s != (k : Int)) = true := bne_iff_ne.2 hat
            have Hf : Hid (rightZ l = false) := Lib.hid (by rw [Hr.out, allN_false hlt (by rw [Hokv.out]; exact decide_eq_false hat)]; rfl)
            clear hat
            go_wp2_with fail
            refine wp_region_rely_lit rfl [some 10, some 11, some 12, some 13, some 14, some 15, some 16, some 17, some 18, some 19, some 20, some 21, some 22, some 23, some 24, some 25, some 26, some 27, some 28, some 29, some 30, some 31, some 32, some 33, some 34, some 35, some 36, some 37, some 38, some 39, some 40, some 41, some 42, some 43, some 44] rfl [[], [], [0, 1], [2], [3], [4], [5], [6], [7], [7, 8], [7, 9], [10], [10], [10, 12], [10, 11, 13], [10, 14], [10], [10], [10, 16, 17], [10, 18], [10, 15, 19], [10, 20], [7, 10, 21], [7, 22], [23], [24], [24], [24], [24, 26, 27], [24, 28], [24, 29], [24, 25, 30], [24], [24, 31, 32], [24, 33]] (by kernel_rfl) (fun w' => Ext wr w') Ext
              (fun i w' v => match i with
                | 0 => v = .slice (some ⟨g, o, none⟩) l.length cap
                | 1 => v = .int .i64 (k : Int)
                | 2 => v = .pointer (some ⟨g, o + k * 2, none⟩)
                | 3 => v = .pointer (some ⟨g, o + k * 2 + 1, none⟩)
                | 4 => v = .string s
                | 5 => v = .int .i64 (s.size : Int)
                | 6 => v = .bool false
                | 7 => v = .bool false
                | 8 => v = .int .i64 (k : Int)
                | 9 => v = .bool false
                | 10 => v = .bool false
                | 11 => v = undef
                | 12 => v = undef
                | 13 => v = undef
                | 14 => v = undef
                | 15 => v = undef
                | 16 => v = undef
                | 17 => v = undef
                | 18 => v = undef
                | 19 => v = undef
                | 20 => v = undef
                | 21 => v = undef
                | 22 => v = .bool false
                | 23 => v = .bool false
                | 24 => v = .bool false
                | 25 => v = .slice (some ⟨g, o, none⟩) l.length cap
                | 26 => v = .slice (some ⟨g, o, none⟩) l.length cap
                | 27 => v = .int .i64 (k : Int)
                | 28 => v = .pointer (some ⟨g, o + k * 2, none⟩)
                | 29 => v = .pointer (some ⟨g, o + k * 2 + 1, none⟩)
                | 30 => v = .string s
                | 31 => v = .int .i64 (atZ l s)
                | 32 => v = .int .i64 (k : Int)
                | 33 => v = .bool true
                | 34 => v = .bool true
                | _ => True) (fun i w1 w2 v _ h => h) ?_ ?_ ?_
            · exact (Ext.refl wr).drew
            · refine ⟨?_, ?_, ?_, ?_, ?_, ?_, ?_, ?_, ?_, ?_, ?_, ?_, ?_, ?_, ?_, ?_, ?_, ?_, ?_, ?_, ?_, ?_, ?_, ?_, ?_, ?_, ?_, ?_, ?_, ?_, ?_, ?_, ?_, ?_, ?_, trivial⟩
              all_goals (intro vs w' hI hd)
              all_goals simp only [opsFor, actD, List.getD_cons_zero, List.getD_cons_succ, List.foldl_cons, List.foldl_nil, List.mem_cons, List.not_mem_nil, or_false, forall_eq_or_imp, forall_eq] at hd ⊢
              · go_wp2
                first | exact ⟨rfl, rfl, Ext.refl _, hI⟩ | exact ⟨rfl, trivial, Ext.refl _, hI⟩
              · go_wp2
                first | exact ⟨rfl, rfl, Ext.refl _, hI⟩ | exact ⟨rfl, trivial, Ext.refl _, hI⟩
              · go_wp2
                first | exact ⟨rfl, rfl, Ext.refl _, hI⟩ | exact ⟨rfl, trivial, Ext.refl _, hI⟩
              · go_wp2
                first | exact ⟨rfl, rfl, Ext.refl _, hI⟩ | exact ⟨rfl, trivial, Ext.refl _, hI⟩
              · have hc := hI.cell hu'
                go_wp2
                exact ⟨rfl, rfl, Ext.refl _, hI⟩
              · go_wp2
                first | exact ⟨rfl, rfl, Ext.refl _, hI⟩ | exact ⟨rfl, trivial, Ext.refl _, hI⟩
              · go_wp2
                first | exact ⟨rfl, rfl, Ext.refl _, hI⟩ | exact ⟨rfl, trivial, Ext.refl _, hI⟩
              · go_wp2
                first | exact ⟨rfl, rfl, Ext.refl _, hI⟩ | exact ⟨rfl, trivial, Ext.refl _, hI⟩
              · go_wp2
                first | exact ⟨rfl, rfl, Ext.refl _, hI⟩ | exact ⟨rfl, trivial, Ext.refl _, hI⟩
              · go_wp2
                first | exact ⟨rfl, rfl, Ext.refl _, hI⟩ | exact ⟨rfl, trivial, Ext.refl _, hI⟩
              · go_wp2
                first | exact ⟨rfl, rfl, Ext.refl _, hI⟩ | exact ⟨rfl, trivial, Ext.refl _, hI⟩
              · simp only [hd]
                refine wpList_skip1 rfl ?_
                exact ⟨rfl, rfl, Ext.refl _, hI⟩
              · simp only [hd]
                refine wpList_skip1 rfl ?_
                exact ⟨rfl, rfl, Ext.refl _, hI⟩
              · simp only [hd]
                refine wpList_skip1 rfl ?_
                exact ⟨rfl, rfl, Ext.refl _, hI⟩
              · simp only [hd]
                refine wpList_skip1 rfl ?_
                exact ⟨rfl, rfl, Ext.refl _, hI⟩
              · simp only [hd]
                refine wpList_skip1 rfl ?_
                exact ⟨rfl, rfl, Ext.refl _, hI⟩
              · simp only [hd]
                refine wpList_skip1 rfl ?_
                exact ⟨rfl, rfl, Ext.refl _, hI⟩
              · simp only [hd]
                refine wpList_skip1 rfl ?_
                exact ⟨rfl, rfl, Ext.refl _, hI⟩
              · simp only [hd]
                refine wpList_skip1 rfl ?_
                exact ⟨rfl, rfl, Ext.refl _, hI⟩
              · simp only [hd]
                refine wpList_skip1 rfl ?_
                exact ⟨rfl, rfl, Ext.refl _, hI⟩
              · simp only [hd]
                refine wpList_skip1 rfl ?_
                exact ⟨rfl, rfl, Ext.refl _, hI⟩
              · simp only [hd]
                refine wpList_skip1 rfl ?_
                exact ⟨rfl, rfl, Ext.refl _, hI⟩
              · go_wp2
                first | exact ⟨rfl, rfl, Ext.refl _, hI⟩ | exact ⟨rfl, trivial, Ext.refl _, hI⟩
              · go_wp2
                first | exact ⟨rfl, rfl, Ext.refl _, hI⟩ | exact ⟨rfl, trivial, Ext.refl _, hI⟩
              · go_wp2
                first | exact ⟨rfl, rfl, Ext.refl _, hI⟩ | exact ⟨rfl, trivial, Ext.refl _, hI⟩
              · go_wp2
                first | exact ⟨rfl, rfl, Ext.refl _, hI⟩ | exact ⟨rfl, trivial, Ext.refl _, hI⟩
              · go_wp2
                first | exact ⟨rfl, rfl, Ext.refl _, hI⟩ | exact ⟨rfl, trivial, Ext.refl _, hI⟩
              · go_wp2
                first | exact ⟨rfl, rfl, Ext.refl _, hI⟩ | exact ⟨rfl, trivial, Ext.refl _, hI⟩
              · go_wp2
                first | exact ⟨rfl, rfl, Ext.refl _, hI⟩ | exact ⟨rfl, trivial, Ext.refl _, hI⟩
              · go_wp2
                first | exact ⟨rfl, rfl, Ext.refl _, hI⟩ | exact ⟨rfl, trivial, Ext.refl _, hI⟩
              · have hc := hI.cell hu'
                go_wp2
                exact ⟨rfl, rfl, Ext.refl _, hI⟩
              · go_wp2_with fail
                refine (at13_any _ l s _ (hvr.mono rMb_mono hI)).mono ?_
                rintro e w3 ⟨rfl, hw⟩
                rw [hw]
                go_wp2
                exact ⟨rfl, rfl, Ext.refl _, hI⟩
              · go_wp2
                first | exact ⟨rfl, rfl, Ext.refl _, hI⟩ | exact ⟨rfl, trivial, Ext.refl _, hI⟩
              · go_wp2
                first | exact ⟨rfl, rfl, Ext.refl _, hI⟩ | exact ⟨rfl, trivial, Ext.refl _, hI⟩
              · go_wp2
                first | exact ⟨rfl, rfl, Ext.refl _, hI⟩ | exact ⟨rfl, trivial, Ext.refl _, hI⟩
            · intro vs w' hI hd
              simp only [actD, List.range, List.range.loop, List.foldl_cons, List.foldl_nil, List.length_cons, List.length_nil, List.getD_cons_zero, List.getD_cons_succ]
              rw [show vs 34 = Value.bool true from hd 34 (by decide)]
              clear hd
              go_simp
              go_wp2_with fail
              go_ret
              exact ⟨by rw [Hf.out]; rfl, Hx0.out.then hI⟩
        · obtain ⟨j, hj⟩ : ∃ j : Nat, (k : Int) - 1 = (j : Int) := ⟨k - 1, by omega⟩
          have hkj := Lib.hid (show k = j + 1 by omega)
          have hjl : j < l.length := by omega
          obtain ⟨y, hy⟩ : ∃ y, l[j]? = some y := ⟨_, List.getElem?_eq_getElem hjl⟩
          obtain ⟨g', o', e', hv1, hv1', ht1, ht2⟩ := hvr.atMb hy
          obtain ⟨rfl, rfl⟩ : g = g' ∧ o = o' := by
            have h := e'
            simp at h
            exact h
          obtain ⟨m, t⟩ := y
          have Hy := Lib.hid hy
          have hkp : 0 < k := by omega
          have hd3 : decide ((0 : Int) < (k : Int)) = true := decide_eq_true (by omega)
          have hd4 : decide (0 < k) = true := decide_eq_true (by omega)
          simp only at hv1 hv1' ht1 ht2
          clear e' hy hk0
          have Hokv : Hid (okZ l k = (beforeB (m, t) (n, s) && decide (atZ l s = (k : Int)))) := Lib.hid (by
            have e1 : l[j + 1]? = some (n, s) := by rw [← hkj.out]; exact Hx.out
            rw [hkj.out]
            unfold okZ
            rw [e1]
            simp only [Hy.out]
            simp [hA])
          cases hbf : beforeB (m, t) (n, s) with
          | false =>
            have Hbf := Lib.hid hbf
            have Hf : Hid (rightZ l = false) := Lib.hid (by rw [Hr.out, allN_false hlt (by rw [Hokv.out, hbf]; rfl)]; rfl)
            clear hbf
            go_wp2_with fail
            refine wp_region_rely_lit rfl [some 10, some 11, some 12, some 13, some 14, some 15, some 16, some 17, some 18, some 19, some 20, some 21, some 22, some 23, some 24, some 25, some 26, some 27, some 28, some 29, some 30, some 31, some 32, some 33, some 34, some 35, some 36, some 37, some 38, some 39, some 40, some 41, some 42, some 43, some 44] rfl [[], [], [0, 1], [2], [3], [4], [5], [6], [7], [7, 8], [7, 9], [10], [10], [10, 12], [10, 11, 13], [10, 14], [10], [10], [10, 16, 17], [10, 18], [10, 15, 19], [10, 20], [7, 10, 21], [7, 22], [23], [24], [24], [24], [24, 26, 27], [24, 28], [24, 29], [24, 25, 30], [24], [24, 31, 32], [24, 33]] (by kernel_rfl) (fun w' => Ext wr w') Ext
              (fun i w' v => match i with
                | 0 => v = .slice (some ⟨g, o, none⟩) l.length cap
                | 1 => v = .int .i64 (k : Int)
                | 2 => v = .pointer (some ⟨g, o + k * 2, none⟩)
                | 3 => v = .pointer (some ⟨g, o + k * 2 + 1, none⟩)
                | 4 => v = .string s
                | 5 => v = .int .i64 (s.size : Int)
                | 6 => v = .bool false
                | 7 => v = .bool false
                | 8 => v = .int .i64 (k : Int)
                | 9 => v = .bool true
                | 10 => v = .bool true
                | 11 => v = .slice (some ⟨g, o, none⟩) l.length cap
                | 12 => v = .int .i64 (k : Int)
                | 13 => v = .int .i64 (j : Int)
                | 14 => v = .pointer (some ⟨g, o + j * 2, none⟩)
                | 15 => v = .agg #[.int .i64 m, .string t]
                | 16 => v = .slice (some ⟨g, o, none⟩) l.length cap
                | 17 => v = .int .i64 (k : Int)
                | 18 => v = .pointer (some ⟨g, o + k * 2, none⟩)
                | 19 => v = .agg #[.int .i64 n, .string s]
                | 20 => v = .bool false
                | 21 => v = .bool true
                | 22 => v = .bool true
                | 23 => v = .bool true
                | 24 => v = .bool true
                | 25 => v = undef
                | 26 => v = undef
                | 27 => v = undef
                | 28 => v = undef
                | 29 => v = undef
                | 30 => v = undef
                | 31 => v = undef
                | 32 => v = undef
                | 33 => v = undef
                | 34 => v = .bool true
                | _ => True) (fun i w1 w2 v _ h => h) ?_ ?_ ?_
            · exact (Ext.refl wr).drew
            · refine ⟨?_, ?_, ?_, ?_, ?_, ?_, ?_, ?_, ?_, ?_, ?_, ?_, ?_, ?_, ?_, ?_, ?_, ?_, ?_, ?_, ?_, ?_, ?_, ?_, ?_, ?_, ?_, ?_, ?_, ?_, ?_, ?_, ?_, ?_, ?_, trivial⟩
              all_goals (intro vs w' hI hd)
              all_goals simp only [opsFor, actD, List.getD_cons_zero, List.getD_cons_succ, List.foldl_cons, List.foldl_nil, List.mem_cons, List.not_mem_nil, or_false, forall_eq_or_imp, forall_eq] at hd ⊢
              · go_wp2
                first | exact ⟨rfl, rfl, Ext.refl _, hI⟩ | exact ⟨rfl, trivial, Ext.refl _, hI⟩
              · go_wp2
                first | exact ⟨rfl, rfl, Ext.refl _, hI⟩ | exact ⟨rfl, trivial, Ext.refl _, hI⟩
              · go_wp2
                first | exact ⟨rfl, rfl, Ext.refl _, hI⟩ | exact ⟨rfl, trivial, Ext.refl _, hI⟩
              · go_wp2
                first | exact ⟨rfl, rfl, Ext.refl _, hI⟩ | exact ⟨rfl, trivial, Ext.refl _, hI⟩
              · have hc := hI.cell hu'
                go_wp2
                exact ⟨rfl, rfl, Ext.refl _, hI⟩
              · go_wp2
                first | exact ⟨rfl, rfl, Ext.refl _, hI⟩ | exact ⟨rfl, trivial, Ext.refl _, hI⟩
              · go_wp2
                first | exact ⟨rfl, rfl, Ext.refl _, hI⟩ | exact ⟨rfl, trivial, Ext.refl _, hI⟩
              · go_wp2
                first | exact ⟨rfl, rfl, Ext.refl _, hI⟩ | exact ⟨rfl, trivial, Ext.refl _, hI⟩
              · go_wp2
                first | exact ⟨rfl, rfl, Ext.refl _, hI⟩ | exact ⟨rfl, trivial, Ext.refl _, hI⟩
              · go_wp2
                first | exact ⟨rfl, rfl, Ext.refl _, hI⟩ | exact ⟨rfl, trivial, Ext.refl _, hI⟩
              · go_wp2
                first | exact ⟨rfl, rfl, Ext.refl _, hI⟩ | exact ⟨rfl, trivial, Ext.refl _, hI⟩
              · go_wp2
                first | exact ⟨rfl, rfl, Ext.refl _, hI⟩ | exact ⟨rfl, trivial, Ext.refl _, hI⟩
              · go_wp2
                first | exact ⟨rfl, rfl, Ext.refl _, hI⟩ | exact ⟨rfl, trivial, Ext.refl _, hI⟩
              · go_wp2
                first | exact ⟨rfl, rfl, Ext.refl _, hI⟩ | exact ⟨rfl, trivial, Ext.refl _, hI⟩
              · go_wp2
                first | exact ⟨rfl, rfl, Ext.refl _, hI⟩ | exact ⟨rfl, trivial, Ext.refl _, hI⟩
              · have hc := hI.cell hv1
                have hc2 := hI.cell hv1'
                go_wp2
                exact ⟨rfl, rfl, Ext.refl _, hI⟩
              · go_wp2
                first | exact ⟨rfl, rfl, Ext.refl _, hI⟩ | exact ⟨rfl, trivial, Ext.refl _, hI⟩
              · go_wp2
                first | exact ⟨rfl, rfl, Ext.refl _, hI⟩ | exact ⟨rfl, trivial, Ext.refl _, hI⟩
              · go_wp2
                first | exact ⟨rfl, rfl, Ext.refl _, hI⟩ | exact ⟨rfl, trivial, Ext.refl _, hI⟩
              · have hc := hI.cell hu
                have hc2 := hI.cell hu'
                go_wp2
                exact ⟨rfl, rfl, Ext.refl _, hI⟩
              · go_wp2_with fail
                refine (before_any (m, t) (n, s) _ ht2 hs2).mono ?_
                rintro e w3 ⟨rfl, hx3⟩
                rw [Hbf.out]
                go_wp2
                exact ⟨rfl, rfl, hx3, hI.then hx3⟩
              · go_wp2
                first | exact ⟨rfl, rfl, Ext.refl _, hI⟩ | exact ⟨rfl, trivial, Ext.refl _, hI⟩
              · go_wp2
                first | exact ⟨rfl, rfl, Ext.refl _, hI⟩ | exact ⟨rfl, trivial, Ext.refl _, hI⟩
              · go_wp2
                first | exact ⟨rfl, rfl, Ext.refl _, hI⟩ | exact ⟨rfl, trivial, Ext.refl _, hI⟩
              · go_wp2
                first | exact ⟨rfl, rfl, Ext.refl _, hI⟩ | exact ⟨rfl, trivial, Ext.refl _, hI⟩
              · simp only [hd]
                refine wpList_skip1 rfl ?_
                exact ⟨rfl, rfl, Ext.refl _, hI⟩
              · simp only [hd]
                refine wpList_skip1 rfl ?_
                exact ⟨rfl, rfl, Ext.refl _, hI⟩
              · simp only [hd]
                refine wpList_skip1 rfl ?_
                exact ⟨rfl, rfl, Ext.refl _, hI⟩
              · simp only [hd]
                refine wpList_skip1 rfl ?_
                exact ⟨rfl, rfl, Ext.refl _, hI⟩
              · simp only [hd]
                refine wpList_skip1 rfl ?_
                exact ⟨rfl, rfl, Ext.refl _, hI⟩
              · simp only [hd]
                refine wpList_skip1 rfl ?_
                exact ⟨rfl, rfl, Ext.refl _, hI⟩
              · simp only [hd]
                refine wpList_skip1 rfl ?_
                exact ⟨rfl, rfl, Ext.refl _, hI⟩
              · simp only [hd]
                refine wpList_skip1 rfl ?_
                exact ⟨rfl, rfl, Ext.refl _, hI⟩
              · simp only [hd]
                refine wpList_skip1 rfl ?_
                exact ⟨rfl, rfl, Ext.refl _, hI⟩
              · go_wp2
                first | exact ⟨rfl, rfl, Ext.refl _, hI⟩ | exact ⟨rfl, trivial, Ext.refl _, hI⟩
            · intro vs w' hI hd
              simp only [actD, List.range, List.range.loop, List.foldl_cons, List.foldl_nil, List.length_cons, List.length_nil, List.getD_cons_zero, List.getD_cons_succ]
              rw [show vs 34 = Value.bool true from hd 34 (by decide)]
              clear hd
              go_simp
              go_wp2_with fail
              go_ret
              exact ⟨by rw [Hf.out]; rfl, Hx0.out.then hI⟩
          | true =>
            have Hbf := Lib.hid hbf
            by_cases hat : atZ l s = (k : Int)
            · have hne : (atZ l s != (k : Int)) = false := by rw [hat]; simp
              have Hok : Hid (okZ l k = true) := Lib.hid (by rw [Hokv.out, hbf]; simpa using hat)
              have Hall2 : Hid (∀ j, j < k + 1 → okZ l j = true) := Lib.hid (fun j hj => by
                by_cases e : j = k
                · rw [e]; exact Hok.out
                · exact Hall.out j (by omega))
              clear hat hbf
              go_wp2_with fail
              refine wp_region_rely_lit rfl [some 10, some 11, some 12, some 13, some 14, some 15, some 16, some 17, some 18, some 19, some 20, some 21, some 22, some 23, some 24, some 25, some 26, some 27, some 28, some 29, some 30, some 31, some 32, some 33, some 34, some 35, some 36, some 37, some 38, some 39, some 40, some 41, some 42, some 43, some 44] rfl [[], [], [0, 1], [2], [3], [4], [5], [6], [7], [7, 8], [7, 9], [10], [10], [10, 12], [10, 11, 13], [10, 14], [10], [10], [10, 16, 17], [10, 18], [10, 15, 19], [10, 20], [7, 10, 21], [7, 22], [23], [24], [24], [24], [24, 26, 27], [24, 28], [24, 29], [24, 25, 30], [24], [24, 31, 32], [24, 33]] (by kernel_rfl) (fun w' => Ext wr w') Ext
                (fun i w' v => match i with
                  | 0 => v = .slice (some ⟨g, o, none⟩) l.length cap
                  | 1 => v = .int .i64 (k : Int)
                  | 2 => v = .pointer (some ⟨g, o + k * 2, none⟩)
                  | 3 => v = .pointer (some ⟨g, o + k * 2 + 1, none⟩)
                  | 4 => v = .string s
                  | 5 => v = .int .i64 (s.size : Int)
                  | 6 => v = .bool false
                  | 7 => v = .bool false
                  | 8 => v = .int .i64 (k : Int)
                  | 9 => v = .bool true
                  | 10 => v = .bool true
                  | 11 => v = .slice (some ⟨g, o, none⟩) l.length cap
                  | 12 => v = .int .i64 (k : Int)
                  | 13 => v = .int .i64 (j : Int)
                  | 14 => v = .pointer (some ⟨g, o + j * 2, none⟩)
                  | 15 => v = .agg #[.int .i64 m, .string t]
                  | 16 => v = .slice (some ⟨g, o, none⟩) l.length cap
                  | 17 => v = .int .i64 (k : Int)
                  | 18 => v = .pointer (some ⟨g, o + k * 2, none⟩)
                  | 19 => v = .agg #[.int .i64 n, .string s]
                  | 20 => v = .bool true
                  | 21 => v = .bool false
                  | 22 => v = .bool false
                  | 23 => v = .bool false
                  | 24 => v = .bool false
                  | 25 => v = .slice (some ⟨g, o, none⟩) l.length cap
                  | 26 => v = .slice (some ⟨g, o, none⟩) l.length cap
                  | 27 => v = .int .i64 (k : Int)
                  | 28 => v = .pointer (some ⟨g, o + k * 2, none⟩)
                  | 29 => v = .pointer (some ⟨g, o + k * 2 + 1, none⟩)
                  | 30 => v = .string s
                  | 31 => v = .int .i64 (atZ l s)
                  | 32 => v = .int .i64 (k : Int)
                  | 33 => v = .bool false
                  | 34 => v = .bool false
                  | _ => True) (fun i w1 w2 v _ h => h) ?_ ?_ ?_
              · exact (Ext.refl wr).drew
              · refine ⟨?_, ?_, ?_, ?_, ?_, ?_, ?_, ?_, ?_, ?_, ?_, ?_, ?_, ?_, ?_, ?_, ?_, ?_, ?_, ?_, ?_, ?_, ?_, ?_, ?_, ?_, ?_, ?_, ?_, ?_, ?_, ?_, ?_, ?_, ?_, trivial⟩
                all_goals (intro vs w' hI hd)
                all_goals simp only [opsFor, actD, List.getD_cons_zero, List.getD_cons_succ, List.foldl_cons, List.foldl_nil, List.mem_cons, List.not_mem_nil, or_false, forall_eq_or_imp, forall_eq] at hd ⊢
                · go_wp2
                  first | exact ⟨rfl, rfl, Ext.refl _, hI⟩ | exact ⟨rfl, trivial, Ext.refl _, hI⟩
                · go_wp2
                  first | exact ⟨rfl, rfl, Ext.refl _, hI⟩ | exact ⟨rfl, trivial, Ext.refl _, hI⟩
                · go_wp2
                  first | exact ⟨rfl, rfl, Ext.refl _, hI⟩ | exact ⟨rfl, trivial, Ext.refl _, hI⟩
                · go_wp2
                  first | exact ⟨rfl, rfl, Ext.refl _, hI⟩ | exact ⟨rfl, trivial, Ext.refl _, hI⟩
                · have hc := hI.cell hu'
                  go_wp2
                  exact ⟨rfl, rfl, Ext.refl _, hI⟩
                · go_wp2
                  first | exact ⟨rfl, rfl, Ext.refl _, hI⟩ | exact ⟨rfl, trivial, Ext.refl _, hI⟩
                · go_wp2
                  first | exact ⟨rfl, rfl, Ext.refl _, hI⟩ | exact ⟨rfl, trivial, Ext.refl _, hI⟩
                · go_wp2
                  first | exact ⟨rfl, rfl, Ext.refl _, hI⟩ | exact ⟨rfl, trivial, Ext.refl _, hI⟩
                · go_wp2
                  first | exact ⟨rfl, rfl, Ext.refl _, hI⟩ | exact ⟨rfl, trivial, Ext.refl _, hI⟩
                · go_wp2
                  first | exact ⟨rfl, rfl, Ext.refl _, hI⟩ | exact ⟨rfl, trivial, Ext.refl _, hI⟩
                · go_wp2
                  first | exact ⟨rfl, rfl, Ext.refl _, hI⟩ | exact ⟨rfl, trivial, Ext.refl _, hI⟩
                · go_wp2
                  first | exact ⟨rfl, rfl, Ext.refl _, hI⟩ | exact ⟨rfl, trivial, Ext.refl _, hI⟩
                · go_wp2
                  first | exact ⟨rfl, rfl, Ext.refl _, hI⟩ | exact ⟨rfl, trivial, Ext.refl _, hI⟩
                · go_wp2
                  first | exact ⟨rfl, rfl, Ext.refl _, hI⟩ | exact ⟨rfl, trivial, Ext.refl _, hI⟩
                · go_wp2
                  first | exact ⟨rfl, rfl, Ext.refl _, hI⟩ | exact ⟨rfl, trivial, Ext.refl _, hI⟩
                · have hc := hI.cell hv1
                  have hc2 := hI.cell hv1'
                  go_wp2
                  exact ⟨rfl, rfl, Ext.refl _, hI⟩
                · go_wp2
                  first | exact ⟨rfl, rfl, Ext.refl _, hI⟩ | exact ⟨rfl, trivial, Ext.refl _, hI⟩
                · go_wp2
                  first | exact ⟨rfl, rfl, Ext.refl _, hI⟩ | exact ⟨rfl, trivial, Ext.refl _, hI⟩
                · go_wp2
                  first | exact ⟨rfl, rfl, Ext.refl _, hI⟩ | exact ⟨rfl, trivial, Ext.refl _, hI⟩
                · have hc := hI.cell hu
                  have hc2 := hI.cell hu'
                  go_wp2
                  exact ⟨rfl, rfl, Ext.refl _, hI⟩
                · go_wp2_with fail
                  refine (before_any (m, t) (n, s) _ ht2 hs2).mono ?_
                  rintro e w3 ⟨rfl, hx3⟩
                  rw [Hbf.out]
                  go_wp2
                  exact ⟨rfl, rfl, hx3, hI.then hx3⟩
                · go_wp2
                  first | exact ⟨rfl, rfl, Ext.refl _, hI⟩ | exact ⟨rfl, trivial, Ext.refl _, hI⟩
                · go_wp2
                  first | exact ⟨rfl, rfl, Ext.refl _, hI⟩ | exact ⟨rfl, trivial, Ext.refl _, hI⟩
                · go_wp2
                  first | exact ⟨rfl, rfl, Ext.refl _, hI⟩ | exact ⟨rfl, trivial, Ext.refl _, hI⟩
                · go_wp2
                  first | exact ⟨rfl, rfl, Ext.refl _, hI⟩ | exact ⟨rfl, trivial, Ext.refl _, hI⟩
                · go_wp2
                  first | exact ⟨rfl, rfl, Ext.refl _, hI⟩ | exact ⟨rfl, trivial, Ext.refl _, hI⟩
                · go_wp2
                  first | exact ⟨rfl, rfl, Ext.refl _, hI⟩ | exact ⟨rfl, trivial, Ext.refl _, hI⟩
                · go_wp2
                  first | exact ⟨rfl, rfl, Ext.refl _, hI⟩ | exact ⟨rfl, trivial, Ext.refl _, hI⟩
                · go_wp2
                  first | exact ⟨rfl, rfl, Ext.refl _, hI⟩ | exact ⟨rfl, trivial, Ext.refl _, hI⟩
                · go_wp2
                  first | exact ⟨rfl, rfl, Ext.refl _, hI⟩ | exact ⟨rfl, trivial, Ext.refl _, hI⟩
                · have hc := hI.cell hu'
                  go_wp2
                  exact ⟨rfl, rfl, Ext.refl _, hI⟩
                · go_wp2_with fail
                  refine (at13_any _ l s _ (hvr.mono rMb_mono hI)).mono ?_
                  rintro e w3 ⟨rfl, hw⟩
                  rw [hw]
                  go_wp2
                  exact ⟨rfl, rfl, Ext.refl _, hI⟩
                · go_wp2
                  first | exact ⟨rfl, rfl, Ext.refl _, hI⟩ | exact ⟨rfl, trivial, Ext.refl _, hI⟩
                · go_wp2
                  first | exact ⟨rfl, rfl, Ext.refl _, hI⟩ | exact ⟨rfl, trivial, Ext.refl _, hI⟩
                · go_wp2
                  first | exact ⟨rfl, rfl, Ext.refl _, hI⟩ | exact ⟨rfl, trivial, Ext.refl _, hI⟩
              · intro vs w' hI hd
                simp only [actD, List.range, List.range.loop, List.foldl_cons, List.foldl_nil, List.length_cons, List.length_nil, List.getD_cons_zero, List.getD_cons_succ]
                rw [show vs 34 = Value.bool false from hd 34 (by decide)]
                clear hd
                go_simp
                go_wp2_with fail
                exact ⟨⟨k + 1, by go_num, by omega, Hall2.out, Hx0.out.then hI⟩, by simp [intOf]; omega⟩
            · have hne : (atZ l s != (k : Int)) = true := bne_iff_ne.2 hat
              have Hf : Hid (rightZ l = false) := Lib.hid (by rw [Hr.out, allN_false hlt (by rw [Hokv.out, hbf]; simpa using hat)]; rfl)
              clear hat hbf
              go_wp2_with fail
              refine wp_region_rely_lit rfl [some 10, some 11, some 12, some 13, some 14, some 15, some 16, some 17, some 18, some 19, some 20, some 21, some 22, some 23, some 24, some 25, some 26, some 27, some 28, some 29, some 30, some 31, some 32, some 33, some 34, some 35, some 36, some 37, some 38, some 39, some 40, some 41, some 42, some 43, some 44] rfl [[], [], [0, 1], [2], [3], [4], [5], [6], [7], [7, 8], [7, 9], [10], [10], [10, 12], [10, 11, 13], [10, 14], [10], [10], [10, 16, 17], [10, 18], [10, 15, 19], [10, 20], [7, 10, 21], [7, 22], [23], [24], [24], [24], [24, 26, 27], [24, 28], [24, 29], [24, 25, 30], [24], [24, 31, 32], [24, 33]] (by kernel_rfl) (fun w' => Ext wr w') Ext
                (fun i w' v => match i with
                  | 0 => v = .slice (some ⟨g, o, none⟩) l.length cap
                  | 1 => v = .int .i64 (k : Int)
                  | 2 => v = .pointer (some ⟨g, o + k * 2, none⟩)
                  | 3 => v = .pointer (some ⟨g, o + k * 2 + 1, none⟩)
                  | 4 => v = .string s
                  | 5 => v = .int .i64 (s.size : Int)
                  | 6 => v = .bool false
                  | 7 => v = .bool false
                  | 8 => v = .int .i64 (k : Int)
                  | 9 => v = .bool true
                  | 10 => v = .bool true
                  | 11 => v = .slice (some ⟨g, o, none⟩) l.length cap
                  | 12 => v = .int .i64 (k : Int)
                  | 13 => v = .int .i64 (j : Int)
                  | 14 => v = .pointer (some ⟨g, o + j * 2, none⟩)
                  | 15 => v = .agg #[.int .i64 m, .string t]
                  | 16 => v = .slice (some ⟨g, o, none⟩) l.length cap
                  | 17 => v = .int .i64 (k : Int)
                  | 18 => v = .pointer (some ⟨g, o + k * 2, none⟩)
                  | 19 => v = .agg #[.int .i64 n, .string s]
                  | 20 => v = .bool true
                  | 21 => v = .bool false
                  | 22 => v = .bool false
                  | 23 => v = .bool false
                  | 24 => v = .bool false
                  | 25 => v = .slice (some ⟨g, o, none⟩) l.length cap
                  | 26 => v = .slice (some ⟨g, o, none⟩) l.length cap
                  | 27 => v = .int .i64 (k : Int)
                  | 28 => v = .pointer (some ⟨g, o + k * 2, none⟩)
                  | 29 => v = .pointer (some ⟨g, o + k * 2 + 1, none⟩)
                  | 30 => v = .string s
                  | 31 => v = .int .i64 (atZ l s)
                  | 32 => v = .int .i64 (k : Int)
                  | 33 => v = .bool true
                  | 34 => v = .bool true
                  | _ => True) (fun i w1 w2 v _ h => h) ?_ ?_ ?_
              · exact (Ext.refl wr).drew
              · refine ⟨?_, ?_, ?_, ?_, ?_, ?_, ?_, ?_, ?_, ?_, ?_, ?_, ?_, ?_, ?_, ?_, ?_, ?_, ?_, ?_, ?_, ?_, ?_, ?_, ?_, ?_, ?_, ?_, ?_, ?_, ?_, ?_, ?_, ?_, ?_, trivial⟩
                all_goals (intro vs w' hI hd)
                all_goals simp only [opsFor, actD, List.getD_cons_zero, List.getD_cons_succ, List.foldl_cons, List.foldl_nil, List.mem_cons, List.not_mem_nil, or_false, forall_eq_or_imp, forall_eq] at hd ⊢
                · go_wp2
                  first | exact ⟨rfl, rfl, Ext.refl _, hI⟩ | exact ⟨rfl, trivial, Ext.refl _, hI⟩
                · go_wp2
                  first | exact ⟨rfl, rfl, Ext.refl _, hI⟩ | exact ⟨rfl, trivial, Ext.refl _, hI⟩
                · go_wp2
                  first | exact ⟨rfl, rfl, Ext.refl _, hI⟩ | exact ⟨rfl, trivial, Ext.refl _, hI⟩
                · go_wp2
                  first | exact ⟨rfl, rfl, Ext.refl _, hI⟩ | exact ⟨rfl, trivial, Ext.refl _, hI⟩
                · have hc := hI.cell hu'
                  go_wp2
                  exact ⟨rfl, rfl, Ext.refl _, hI⟩
                · go_wp2
                  first | exact ⟨rfl, rfl, Ext.refl _, hI⟩ | exact ⟨rfl, trivial, Ext.refl _, hI⟩
                · go_wp2
                  first | exact ⟨rfl, rfl, Ext.refl _, hI⟩ | exact ⟨rfl, trivial, Ext.refl _, hI⟩
                · go_wp2
                  first | exact ⟨rfl, rfl, Ext.refl _, hI⟩ | exact ⟨rfl, trivial, Ext.refl _, hI⟩
                · go_wp2
                  first | exact ⟨rfl, rfl, Ext.refl _, hI⟩ | exact ⟨rfl, trivial, Ext.refl _, hI⟩
                · go_wp2
                  first | exact ⟨rfl, rfl, Ext.refl _, hI⟩ | exact ⟨rfl, trivial, Ext.refl _, hI⟩
                · go_wp2
                  first | exact ⟨rfl, rfl, Ext.refl _, hI⟩ | exact ⟨rfl, trivial, Ext.refl _, hI⟩
                · go_wp2
                  first | exact ⟨rfl, rfl, Ext.refl _, hI⟩ | exact ⟨rfl, trivial, Ext.refl _, hI⟩
                · go_wp2
                  first | exact ⟨rfl, rfl, Ext.refl _, hI⟩ | exact ⟨rfl, trivial, Ext.refl _, hI⟩
                · go_wp2
                  first | exact ⟨rfl, rfl, Ext.refl _, hI⟩ | exact ⟨rfl, trivial, Ext.refl _, hI⟩
                · go_wp2
                  first | exact ⟨rfl, rfl, Ext.refl _, hI⟩ | exact ⟨rfl, trivial, Ext.refl _, hI⟩
                · have hc := hI.cell hv1
                  have hc2 := hI.cell hv1'
                  go_wp2
                  exact ⟨rfl, rfl, Ext.refl _, hI⟩
                · go_wp2
                  first | exact ⟨rfl, rfl, Ext.refl _, hI⟩ | exact ⟨rfl, trivial, Ext.refl _, hI⟩
                · go_wp2
                  first | exact ⟨rfl, rfl, Ext.refl _, hI⟩ | exact ⟨rfl, trivial, Ext.refl _, hI⟩
                · go_wp2
                  first | exact ⟨rfl, rfl, Ext.refl _, hI⟩ | exact ⟨rfl, trivial, Ext.refl _, hI⟩
                · have hc := hI.cell hu
                  have hc2 := hI.cell hu'
                  go_wp2
                  exact ⟨rfl, rfl, Ext.refl _, hI⟩
                · go_wp2_with fail
                  refine (before_any (m, t) (n, s) _ ht2 hs2).mono ?_
                  rintro e w3 ⟨rfl, hx3⟩
                  rw [Hbf.out]
                  go_wp2
                  exact ⟨rfl, rfl, hx3, hI.then hx3⟩
                · go_wp2
                  first | exact ⟨rfl, rfl, Ext.refl _, hI⟩ | exact ⟨rfl, trivial, Ext.refl _, hI⟩
                · go_wp2
                  first | exact ⟨rfl, rfl, Ext.refl _, hI⟩ | exact ⟨rfl, trivial, Ext.refl _, hI⟩
                · go_wp2
                  first | exact ⟨rfl, rfl, Ext.refl _, hI⟩ | exact ⟨rfl, trivial, Ext.refl _, hI⟩
                · go_wp2
                  first | exact ⟨rfl, rfl, Ext.refl _, hI⟩ | exact ⟨rfl, trivial, Ext.refl _, hI⟩
                · go_wp2
                  first | exact ⟨rfl, rfl, Ext.refl _, hI⟩ | exact ⟨rfl, trivial, Ext.refl _, hI⟩
                · go_wp2
                  first | exact ⟨rfl, rfl, Ext.refl _, hI⟩ | exact ⟨rfl, trivial, Ext.refl _, hI⟩
                · go_wp2
                  first | exact ⟨rfl, rfl, Ext.refl _, hI⟩ | exact ⟨rfl, trivial, Ext.refl _, hI⟩
                · go_wp2
                  first | exact ⟨rfl, rfl, Ext.refl _, hI⟩ | exact ⟨rfl, trivial, Ext.refl _, hI⟩
                · go_wp2
                  first | exact ⟨rfl, rfl, Ext.refl _, hI⟩ | exact ⟨rfl, trivial, Ext.refl _, hI⟩
                · have hc := hI.cell hu'
                  go_wp2
                  exact ⟨rfl, rfl, Ext.refl _, hI⟩
                · go_wp2_with fail
                  refine (at13_any _ l s _ (hvr.mono rMb_mono hI)).mono ?_
                  rintro e w3 ⟨rfl, hw⟩
                  rw [hw]
                  go_wp2
                  exact ⟨rfl, rfl, Ext.refl _, hI⟩
                · go_wp2
                  first | exact ⟨rfl, rfl, Ext.refl _, hI⟩ | exact ⟨rfl, trivial, Ext.refl _, hI⟩
                · go_wp2
                  first | exact ⟨rfl, rfl, Ext.refl _, hI⟩ | exact ⟨rfl, trivial, Ext.refl _, hI⟩
                · go_wp2
                  first | exact ⟨rfl, rfl, Ext.refl _, hI⟩ | exact ⟨rfl, trivial, Ext.refl _, hI⟩
              · intro vs w' hI hd
                simp only [actD, List.range, List.range.loop, List.foldl_cons, List.foldl_nil, List.length_cons, List.length_nil, List.getD_cons_zero, List.getD_cons_succ]
                rw [show vs 34 = Value.bool true from hd 34 (by decide)]
                clear hd
                go_simp
                go_wp2_with fail
                go_ret
                exact ⟨by rw [Hf.out]; rfl, Hx0.out.then hI⟩
    · obtain rfl : k = l.length := by omega
      have Hf : Hid (rightZ l = decide (l.length ≤ 512)) := Lib.hid (by rw [Hr.out, allN_true Hall.out, Bool.true_and])
      go_wp2_with fail
      go_ret
      refine ⟨?_, Hx0.out⟩
      rw [Hf.out]
      show Ending.returned (.bool (decide ((l.length : Int) ≤ 512))) = _
      congr 2
      simp; omega
end Go.Proofs.Ythclkljdnmokcaa
