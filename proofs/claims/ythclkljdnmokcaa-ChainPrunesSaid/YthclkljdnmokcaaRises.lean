/-
  Which versions, which chains are right (the reference): walked.
-/
import Derived.Test.YthclkljdnmokcaaRight14
import Derived.Test.YthclkljdnmokcaaUpTo
set_option linter.unusedVariables false
set_option linter.unusedSimpArgs false
namespace Go.Proofs.Ythclkljdnmokcaa
open Go.RowKit Go.Proofs

def zeroVal : Val := ⟨0, ⟨#[]⟩, [], [], []⟩
def outOf (x : Ver) : Bool := decide (x.stamp < 1) || (decide (1152921504606846975 < x.stamp) || (decide (x.expire < 0) || decide (1099511627776 < x.expire)))
def oneB (x : Ver) : Bool := if outOf x then false else if x.gone then decide (x.expire = 0) && decide (x.val = zeroVal) else rightV x.val
theorem oneB_stamp {x : Ver} (h : oneB x = true) : 1 ≤ x.stamp ∧ x.stamp ≤ 1152921504606846975 := by
  unfold oneB outOf at h
  by_cases h1 : x.stamp < 1
  · simp [h1] at h
  · by_cases h2 : 1152921504606846975 < x.stamp
    · simp [h2] at h
    · omega
set_option maxRecDepth 100000 in
set_option maxHeartbeats 2000000 in
theorem one_any (x : Ver) (p t z : Value) (w : World) (hok : VerOk w x p t z) :
    Calls Try.prog 37 #[verV x p t z] w fun e w' => e = .returned (.bool (oneB x)) ∧ Ext w w' := by
  obtain ⟨st, gn, ex, v⟩ := x
  have Hok := Lib.hid hok
  clear hok
  unfold verV
  simp only
  have hx0 : Ext w (w.alloc (.cells #[.int .i64 st, .bool gn, .int .i64 ex, .int .i64 v.kind, .string v.text, p, t, z] 32)) := (Ext.refl w).alloc _
  by_cases c1 : st < 1
  · have Hf : Hid (oneB ⟨st, gn, ex, v⟩ = false) := Lib.hid (if_pos (by unfold outOf; simp only; rw [decide_eq_true c1]; rfl))
    rw [Hf.out]
    go_enter Try.func37, Try.ntmps37
    go_wp2_with fail
    go_ret
    exact ⟨by first | rfl | simp, hx0⟩
  by_cases c2 : 1152921504606846975 < st
  · have Hf : Hid (oneB ⟨st, gn, ex, v⟩ = false) := Lib.hid (if_pos (by unfold outOf; simp only; rw [decide_eq_true c2]; simp))
    rw [Hf.out]
    go_enter Try.func37, Try.ntmps37
    go_wp2_with fail
    go_ret
    exact ⟨by first | rfl | simp, hx0⟩
  by_cases c3 : ex < 0
  · have Hf : Hid (oneB ⟨st, gn, ex, v⟩ = false) := Lib.hid (if_pos (by unfold outOf; simp only; rw [decide_eq_true c3]; simp))
    rw [Hf.out]
    go_enter Try.func37, Try.ntmps37
    go_wp2_with fail
    go_ret
    exact ⟨by first | rfl | simp, hx0⟩
  by_cases c4 : 1099511627776 < ex
  · have Hf : Hid (oneB ⟨st, gn, ex, v⟩ = false) := Lib.hid (if_pos (by unfold outOf; simp only; rw [decide_eq_true c4]; simp))
    rw [Hf.out]
    go_enter Try.func37, Try.ntmps37
    go_wp2_with fail
    go_ret
    exact ⟨by first | rfl | simp, hx0⟩
  have Ho : Hid (outOf ⟨st, gn, ex, v⟩ = false) := Lib.hid (by unfold outOf; simp only; rw [decide_eq_false c1, decide_eq_false c2, decide_eq_false c3, decide_eq_false c4]; rfl)
  cases gn with
  | true =>
    by_cases he : ex = 0
    · have Hf : Hid (oneB ⟨st, true, ex, v⟩ = decide (v = zeroVal)) := Lib.hid (by unfold oneB; rw [Ho.out]; simp [he])
      rw [Hf.out]
      have hee : (ex == 0) = true := by rw [he]; rfl
      clear he
      go_enter Try.func37, Try.ntmps37
      go_wp2_with fail
      refine (same14 v zeroVal p t z (.slice none 0 0) (.slice none 0 0) (.slice none 0 0) _ (Hok.out.parts.mono hx0) ⟨sliceOf_nil _ _, sliceOf_nil _ _, sliceOf_nil _ _⟩).mono ?_
      rintro e w3 ⟨rfl, hx3⟩
      go_wp2
      go_ret
      exact ⟨rfl, hx0.then hx3⟩
    · have Hf : Hid (oneB ⟨st, true, ex, v⟩ = false) := Lib.hid (by unfold oneB; rw [Ho.out]; simp [he])
      rw [Hf.out]
      have hee : (ex == 0) = false := beq_eq_false_iff_ne.2 he
      clear he
      go_enter Try.func37, Try.ntmps37
      go_wp2_with fail
      go_ret
      exact ⟨by first | rfl | simp, hx0⟩
  | false =>
    have Hf : Hid (oneB ⟨st, false, ex, v⟩ = rightV v) := Lib.hid (by unfold oneB; rw [Ho.out]; simp)
    rw [Hf.out]
    go_enter Try.func37, Try.ntmps37
    go_wp2_with fail
    refine (right14_any v p t z _ (Hok.out.parts.mono hx0) Hok.out.text).mono ?_
    rintro e w3 ⟨rfl, hx3⟩
    go_wp2
    go_ret
    exact ⟨rfl, hx0.then hx3⟩
def okR (l : List Ver) (k : Nat) : Bool :=
  match l[k]? with
  | none => true
  | some x => oneB x && (match k with | 0 => true | j + 1 => match l[j]? with | some y => decide (y.stamp < x.stamp) | none => true)
def risesB (l : List Ver) : Bool := allN l.length (okR l)
theorem allN_all {n : Nat} {f : Nat → Bool} (h : allN n f = true) : ∀ k, k < n → f k = true := by
  unfold allN at h
  rw [List.all_eq_true] at h
  exact fun k hk => h k (List.mem_range.2 hk)
theorem risesB_one {l : List Ver} (h : risesB l = true) : ∀ (k : Nat) (x : Ver), l[k]? = some x → oneB x = true := by
  intro k x hx
  have h1 := allN_all h k (List.getElem?_eq_some_iff.1 hx).1
  unfold okR at h1
  rw [hx] at h1
  simp only [Bool.and_eq_true] at h1
  exact h1.1
theorem risesB_next {l : List Ver} (h : risesB l = true) : ∀ (k : Nat) (x y : Ver), l[k]? = some x → l[k + 1]? = some y → x.stamp < y.stamp := by
  intro k x y hx hy
  have h1 := allN_all h (k + 1) (List.getElem?_eq_some_iff.1 hy).1
  unfold okR at h1
  rw [hy] at h1
  simp only [Bool.and_eq_true] at h1
  have h2 := h1.2
  rw [hx] at h2
  simpa using h2
theorem risesB_rising {l : List Ver} (h : risesB l = true) : Rising l := by
  intro i j x y hx hy hij
  obtain ⟨d, rfl⟩ : ∃ d, j = i + 1 + d := ⟨j - i - 1, by omega⟩
  clear hij
  induction d generalizing y with
  | zero => exact risesB_next h i x y hx hy
  | succ d ih =>
    have hl := (List.getElem?_eq_some_iff.1 hy).1
    obtain ⟨u, hu⟩ : ∃ u, l[i + 1 + d]? = some u := ⟨_, List.getElem?_eq_getElem (by omega)⟩
    have h1 := ih u hu
    have h2 := risesB_next h (i + 1 + d) u y hu hy
    omega
set_option maxRecDepth 100000 in
set_option maxHeartbeats 4000000 in
theorem rises_any (v : Value) (l : List Ver) (w : World) (hv : SliceOf rVer w v l) :
    Calls Try.prog 12 #[v] w fun e w' => e = .returned (.bool (risesB l)) ∧ Ext w w' := by
  obtain ⟨a, cap, rfl, hle, hm, h0, _⟩ := id hv
  unfold maxLen at hm
  go_enter Try.func12, Try.ntmps12
  go_wp2_with fail
  go_loopw [3] (fun i wr => ∃ k : Nat, i = .int .i64 (k : Int) ∧ k ≤ l.length ∧ (∀ j, j < k → okR l j = true) ∧ Ext w wr) (fun i _ => l.length - (intOf i).toNat)
  case atStart => exact ⟨0, rfl, by omega, fun j hj => by omega, Ext.refl _⟩
  case round =>
    obtain ⟨k, rfl, hk, hall, hx0⟩ := hrel
    have Hall := Lib.hid hall
    have Hx0 := Lib.hid hx0
    have hvr := hv.mono rVer_mono hx0
    clear hall hx0
    by_cases hlt : k < l.length
    · obtain ⟨x, hx⟩ : ∃ x, l[k]? = some x := ⟨_, List.getElem?_eq_getElem hlt⟩
      obtain ⟨g, o, p, t, z, rfl, hat, hok⟩ := hvr.atVer hx
      have Hx := Lib.hid hx
      clear hx
      cases hone : oneB x with
      | false =>
        have Hone := Lib.hid hone
        have Hf : Hid (risesB l = false) := Lib.hid (allN_false hlt (by unfold okR; rw [Hx.out]; simp [hone]))
        clear hone
        go_wp2_with fail
        refine wp_region_rely_lit rfl [some 10, some 11, some 12, some 13, some 14, some 15, some 16, some 17, some 18, some 19, some 20, some 21, some 22, some 23, some 24, some 25, some 26, some 27, some 28, some 29, some 30, some 31, some 32, some 33] rfl [[], [], [0, 1], [2], [3], [4], [5], [6], [6, 7], [6, 8], [9], [9], [9, 11], [9, 10, 12], [9, 13], [9, 14], [9], [9], [9, 16, 17], [9, 18], [9, 19], [9, 15, 20], [6, 9, 21], [6, 22]] (by kernel_rfl) (fun w' => Ext wr w') Ext
          (fun i w' v => match i with
            | 0 => v = .slice (some ⟨g, o, none⟩) l.length cap
            | 1 => v = .int .i64 (k : Int)
            | 2 => v = .pointer (some ⟨g, o + k * 8, none⟩)
            | 3 => v = verV x p t z
            | 4 => v = .bool false
            | 5 => v = .bool true
            | 6 => v = .bool true
            | 7 => v = undef
            | 8 => v = undef
            | 9 => v = undef
            | 10 => v = undef
            | 11 => v = undef
            | 12 => v = undef
            | 13 => v = undef
            | 14 => v = undef
            | 15 => v = undef
            | 16 => v = undef
            | 17 => v = undef
            | 18 => v = undef
            | 19 => v = undef
            | 20 => v = undef
            | 21 => v = undef
            | 22 => v = undef
            | 23 => v = .bool true
            | _ => True) (fun i w1 w2 v _ h => h) ?_ ?_ ?_
        · exact (Ext.refl wr).drew
        · refine ⟨?_, ?_, ?_, ?_, ?_, ?_, ?_, ?_, ?_, ?_, ?_, ?_, ?_, ?_, ?_, ?_, ?_, ?_, ?_, ?_, ?_, ?_, ?_, ?_, trivial⟩
          all_goals (intro vs w' hI hd)
          all_goals simp only [opsFor, actD, List.getD_cons_zero, List.getD_cons_succ, List.foldl_cons, List.foldl_nil, List.mem_cons, List.not_mem_nil, or_false, forall_eq_or_imp, forall_eq] at hd ⊢
          · go_wp2
            first | exact ⟨rfl, rfl, Ext.refl _, hI⟩ | exact ⟨rfl, trivial, Ext.refl _, hI⟩
          · go_wp2
            first | exact ⟨rfl, rfl, Ext.refl _, hI⟩ | exact ⟨rfl, trivial, Ext.refl _, hI⟩
          · go_wp2
            first | exact ⟨rfl, rfl, Ext.refl _, hI⟩ | exact ⟨rfl, trivial, Ext.refl _, hI⟩
          · obtain ⟨c0, c1, c2, c3, c4, c5, c6, c7⟩ := hat.mono hI
            go_wp2
            exact ⟨rfl, rfl, Ext.refl _, hI⟩
          · go_wp2_with fail
            refine (one_any x p t z _ (hok.mono hI)).mono ?_
            rintro e w3 ⟨rfl, hx3⟩
            rw [Hone.out]
            go_wp2
            exact ⟨rfl, rfl, hx3, hI.then hx3⟩
          · go_wp2
            first | exact ⟨rfl, rfl, Ext.refl _, hI⟩ | exact ⟨rfl, trivial, Ext.refl _, hI⟩
          · go_wp2
            first | exact ⟨rfl, rfl, Ext.refl _, hI⟩ | exact ⟨rfl, trivial, Ext.refl _, hI⟩
          · simp only [hd]
            refine wpList_skip1 rfl ?_
            exact ⟨rfl, rfl, Ext.refl _, hI⟩
          · simp only [hd]
            refine wpList_skip1 rfl ?_
            exact ⟨rfl, rfl, Ext.refl _, hI⟩
          · simp only [hd]
            refine wpList_skip1 rfl ?_
            exact ⟨rfl, rfl, Ext.refl _, hI⟩
          · simp only [hd]
            refine wpList_skip1 rfl ?_
            exact ⟨rfl, rfl, Ext.refl _, hI⟩
          · simp only [hd]
            refine wpList_skip1 rfl ?_
            exact ⟨rfl, rfl, Ext.refl _, hI⟩
          · simp only [hd]
            refine wpList_skip1 rfl ?_
            exact ⟨rfl, rfl, Ext.refl _, hI⟩
          · simp only [hd]
            refine wpList_skip1 rfl ?_
            exact ⟨rfl, rfl, Ext.refl _, hI⟩
          · simp only [hd]
            refine wpList_skip1 rfl ?_
            exact ⟨rfl, rfl, Ext.refl _, hI⟩
          · simp only [hd]
            refine wpList_skip1 rfl ?_
            exact ⟨rfl, rfl, Ext.refl _, hI⟩
          · simp only [hd]
            refine wpList_skip1 rfl ?_
            exact ⟨rfl, rfl, Ext.refl _, hI⟩
          · simp only [hd]
            refine wpList_skip1 rfl ?_
            exact ⟨rfl, rfl, Ext.refl _, hI⟩
          · simp only [hd]
            refine wpList_skip1 rfl ?_
            exact ⟨rfl, rfl, Ext.refl _, hI⟩
          · simp only [hd]
            refine wpList_skip1 rfl ?_
            exact ⟨rfl, rfl, Ext.refl _, hI⟩
          · simp only [hd]
            refine wpList_skip1 rfl ?_
            exact ⟨rfl, rfl, Ext.refl _, hI⟩
          · simp only [hd]
            refine wpList_skip1 rfl ?_
            exact ⟨rfl, rfl, Ext.refl _, hI⟩
          · simp only [hd]
            refine wpList_skip1 rfl ?_
            exact ⟨rfl, rfl, Ext.refl _, hI⟩
          · go_wp2
            first | exact ⟨rfl, rfl, Ext.refl _, hI⟩ | exact ⟨rfl, trivial, Ext.refl _, hI⟩
        · intro vs w' hI hd
          simp only [actD, List.range, List.range.loop, List.foldl_cons, List.foldl_nil, List.length_cons, List.length_nil, List.getD_cons_zero, List.getD_cons_succ]
          rw [show vs 23 = Value.bool true from hd 23 (by decide)]
          clear hd
          go_simp
          go_wp2_with fail
          go_ret
          exact ⟨by rw [Hf.out]; rfl, Hx0.out.then hI⟩
      | true =>
        have Hone := Lib.hid hone
        by_cases hk0 : k = 0
        · have Hk0 := Lib.hid hk0
          have hd3 : decide ((0 : Int) < (k : Int)) = false := decide_eq_false (by omega)
          have hd4 : decide (0 < k) = false := decide_eq_false (by omega)
          have Hok2 : Hid (okR l k = true) := Lib.hid (by unfold okR; rw [Hx.out, hk0]; simp [hone])
          have Hall2 : Hid (∀ j, j < k + 1 → okR l j = true) := Lib.hid (fun j hj => by (obtain rfl : j = k := by have := Hk0.out; omega); exact Hok2.out)
          clear hk0 hone
          go_wp2_with fail
          refine wp_region_rely_lit rfl [some 10, some 11, some 12, some 13, some 14, some 15, some 16, some 17, some 18, some 19, some 20, some 21, some 22, some 23, some 24, some 25, some 26, some 27, some 28, some 29, some 30, some 31, some 32, some 33] rfl [[], [], [0, 1], [2], [3], [4], [5], [6], [6, 7], [6, 8], [9], [9], [9, 11], [9, 10, 12], [9, 13], [9, 14], [9], [9], [9, 16, 17], [9, 18], [9, 19], [9, 15, 20], [6, 9, 21], [6, 22]] (by kernel_rfl) (fun w' => Ext wr w') Ext
            (fun i w' v => match i with
              | 0 => v = .slice (some ⟨g, o, none⟩) l.length cap
              | 1 => v = .int .i64 (k : Int)
              | 2 => v = .pointer (some ⟨g, o + k * 8, none⟩)
              | 3 => v = verV x p t z
              | 4 => v = .bool true
              | 5 => v = .bool false
              | 6 => v = .bool false
              | 7 => v = .int .i64 (k : Int)
              | 8 => v = .bool false
              | 9 => v = .bool false
              | 10 => v = undef
              | 11 => v = undef
              | 12 => v = undef
              | 13 => v = undef
              | 14 => v = undef
              | 15 => v = undef
              | 16 => v = undef
              | 17 => v = undef
              | 18 => v = undef
              | 19 => v = undef
              | 20 => v = undef
              | 21 => v = undef
              | 22 => v = .bool false
              | 23 => v = .bool false
              | _ => True) (fun i w1 w2 v _ h => h) ?_ ?_ ?_
          · exact (Ext.refl wr).drew
          · refine ⟨?_, ?_, ?_, ?_, ?_, ?_, ?_, ?_, ?_, ?_, ?_, ?_, ?_, ?_, ?_, ?_, ?_, ?_, ?_, ?_, ?_, ?_, ?_, ?_, trivial⟩
            all_goals (intro vs w' hI hd)
            all_goals simp only [opsFor, actD, List.getD_cons_zero, List.getD_cons_succ, List.foldl_cons, List.foldl_nil, List.mem_cons, List.not_mem_nil, or_false, forall_eq_or_imp, forall_eq] at hd ⊢
            · go_wp2
              first | exact ⟨rfl, rfl, Ext.refl _, hI⟩ | exact ⟨rfl, trivial, Ext.refl _, hI⟩
            · go_wp2
              first | exact ⟨rfl, rfl, Ext.refl _, hI⟩ | exact ⟨rfl, trivial, Ext.refl _, hI⟩
            · go_wp2
              first | exact ⟨rfl, rfl, Ext.refl _, hI⟩ | exact ⟨rfl, trivial, Ext.refl _, hI⟩
            · obtain ⟨c0, c1, c2, c3, c4, c5, c6, c7⟩ := hat.mono hI
              go_wp2
              exact ⟨rfl, rfl, Ext.refl _, hI⟩
            · go_wp2_with fail
              refine (one_any x p t z _ (hok.mono hI)).mono ?_
              rintro e w3 ⟨rfl, hx3⟩
              rw [Hone.out]
              go_wp2
              exact ⟨rfl, rfl, hx3, hI.then hx3⟩
            · go_wp2
              first | exact ⟨rfl, rfl, Ext.refl _, hI⟩ | exact ⟨rfl, trivial, Ext.refl _, hI⟩
            · go_wp2
              first | exact ⟨rfl, rfl, Ext.refl _, hI⟩ | exact ⟨rfl, trivial, Ext.refl _, hI⟩
            · go_wp2
              first | exact ⟨rfl, rfl, Ext.refl _, hI⟩ | exact ⟨rfl, trivial, Ext.refl _, hI⟩
            · go_wp2
              first | exact ⟨rfl, rfl, Ext.refl _, hI⟩ | exact ⟨rfl, trivial, Ext.refl _, hI⟩
            · go_wp2
              first | exact ⟨rfl, rfl, Ext.refl _, hI⟩ | exact ⟨rfl, trivial, Ext.refl _, hI⟩
            · simp only [hd]
              refine wpList_skip1 rfl ?_
              exact ⟨rfl, rfl, Ext.refl _, hI⟩
            · simp only [hd]
              refine wpList_skip1 rfl ?_
              exact ⟨rfl, rfl, Ext.refl _, hI⟩
            · simp only [hd]
              refine wpList_skip1 rfl ?_
              exact ⟨rfl, rfl, Ext.refl _, hI⟩
            · simp only [hd]
              refine wpList_skip1 rfl ?_
              exact ⟨rfl, rfl, Ext.refl _, hI⟩
            · simp only [hd]
              refine wpList_skip1 rfl ?_
              exact ⟨rfl, rfl, Ext.refl _, hI⟩
            · simp only [hd]
              refine wpList_skip1 rfl ?_
              exact ⟨rfl, rfl, Ext.refl _, hI⟩
            · simp only [hd]
              refine wpList_skip1 rfl ?_
              exact ⟨rfl, rfl, Ext.refl _, hI⟩
            · simp only [hd]
              refine wpList_skip1 rfl ?_
              exact ⟨rfl, rfl, Ext.refl _, hI⟩
            · simp only [hd]
              refine wpList_skip1 rfl ?_
              exact ⟨rfl, rfl, Ext.refl _, hI⟩
            · simp only [hd]
              refine wpList_skip1 rfl ?_
              exact ⟨rfl, rfl, Ext.refl _, hI⟩
            · simp only [hd]
              refine wpList_skip1 rfl ?_
              exact ⟨rfl, rfl, Ext.refl _, hI⟩
            · simp only [hd]
              refine wpList_skip1 rfl ?_
              exact ⟨rfl, rfl, Ext.refl _, hI⟩
            · go_wp2
              first | exact ⟨rfl, rfl, Ext.refl _, hI⟩ | exact ⟨rfl, trivial, Ext.refl _, hI⟩
            · go_wp2
              first | exact ⟨rfl, rfl, Ext.refl _, hI⟩ | exact ⟨rfl, trivial, Ext.refl _, hI⟩
          · intro vs w' hI hd
            simp only [actD, List.range, List.range.loop, List.foldl_cons, List.foldl_nil, List.length_cons, List.length_nil, List.getD_cons_zero, List.getD_cons_succ]
            rw [show vs 23 = Value.bool false from hd 23 (by decide)]
            clear hd
            go_simp
            go_wp2_with fail
            exact ⟨⟨k + 1, by go_num, by omega, Hall2.out, Hx0.out.then hI⟩, by simp [intOf]; omega⟩
        · obtain ⟨j, hj⟩ : ∃ j : Nat, (k : Int) - 1 = (j : Int) := ⟨k - 1, by omega⟩
          have hkj := Lib.hid (show k = j + 1 by omega)
          have hjl : j < l.length := by omega
          obtain ⟨y, hy⟩ : ∃ y, l[j]? = some y := ⟨_, List.getElem?_eq_getElem hjl⟩
          obtain ⟨g', o', p2, t2, z2, e', haty, hoky⟩ := hvr.atVer hy
          obtain ⟨rfl, rfl⟩ : g = g' ∧ o = o' := by
            have h := e'
            simp at h
            exact h
          have Hy := Lib.hid hy
          have hkp : 0 < k := by omega
          have hd3 : decide ((0 : Int) < (k : Int)) = true := decide_eq_true (by omega)
          have hd4 : decide (0 < k) = true := decide_eq_true (by omega)
          clear e' hy hk0
          have Hokv : Hid (okR l k = decide (y.stamp < x.stamp)) := Lib.hid (by
            have e1 : l[j + 1]? = some x := by rw [← hkj.out]; exact Hx.out
            rw [hkj.out]
            unfold okR
            rw [e1]
            simp only [Hy.out]
            simp [hone])
          clear hone
          by_cases hst : y.stamp < x.stamp
          · have Hok2 : Hid (okR l k = true) := Lib.hid (by rw [Hokv.out]; exact decide_eq_true hst)
            have Hall2 : Hid (∀ j, j < k + 1 → okR l j = true) := Lib.hid (fun j hj => by
              by_cases e : j = k
              · rw [e]; exact Hok2.out
              · exact Hall.out j (by omega))
            have hge : decide (x.stamp ≤ y.stamp) = false := decide_eq_false (by omega)
            clear hst
            go_wp2_with fail
            refine wp_region_rely_lit rfl [some 10, some 11, some 12, some 13, some 14, some 15, some 16, some 17, some 18, some 19, some 20, some 21, some 22, some 23, some 24, some 25, some 26, some 27, some 28, some 29, some 30, some 31, some 32, some 33] rfl [[], [], [0, 1], [2], [3], [4], [5], [6], [6, 7], [6, 8], [9], [9], [9, 11], [9, 10, 12], [9, 13], [9, 14], [9], [9], [9, 16, 17], [9, 18], [9, 19], [9, 15, 20], [6, 9, 21], [6, 22]] (by kernel_rfl) (fun w' => Ext wr w') Ext
              (fun i w' v => match i with
                | 0 => v = .slice (some ⟨g, o, none⟩) l.length cap
                | 1 => v = .int .i64 (k : Int)
                | 2 => v = .pointer (some ⟨g, o + k * 8, none⟩)
                | 3 => v = verV x p t z
                | 4 => v = .bool true
                | 5 => v = .bool false
                | 6 => v = .bool false
                | 7 => v = .int .i64 (k : Int)
                | 8 => v = .bool true
                | 9 => v = .bool true
                | 10 => v = .slice (some ⟨g, o, none⟩) l.length cap
                | 11 => v = .int .i64 (k : Int)
                | 12 => v = .int .i64 (j : Int)
                | 13 => v = .pointer (some ⟨g, o + j * 8, none⟩)
                | 14 => v = .pointer (some ⟨g, o + j * 8, none⟩)
                | 15 => v = .int .i64 y.stamp
                | 16 => v = .slice (some ⟨g, o, none⟩) l.length cap
                | 17 => v = .int .i64 (k : Int)
                | 18 => v = .pointer (some ⟨g, o + k * 8, none⟩)
                | 19 => v = .pointer (some ⟨g, o + k * 8, none⟩)
                | 20 => v = .int .i64 x.stamp
                | 21 => v = .bool false
                | 22 => v = .bool false
                | 23 => v = .bool false
                | _ => True) (fun i w1 w2 v _ h => h) ?_ ?_ ?_
            · exact (Ext.refl wr).drew
            · refine ⟨?_, ?_, ?_, ?_, ?_, ?_, ?_, ?_, ?_, ?_, ?_, ?_, ?_, ?_, ?_, ?_, ?_, ?_, ?_, ?_, ?_, ?_, ?_, ?_, trivial⟩
              all_goals (intro vs w' hI hd)
              all_goals simp only [opsFor, actD, List.getD_cons_zero, List.getD_cons_succ, List.foldl_cons, List.foldl_nil, List.mem_cons, List.not_mem_nil, or_false, forall_eq_or_imp, forall_eq] at hd ⊢
              · go_wp2
                first | exact ⟨rfl, rfl, Ext.refl _, hI⟩ | exact ⟨rfl, trivial, Ext.refl _, hI⟩
              · go_wp2
                first | exact ⟨rfl, rfl, Ext.refl _, hI⟩ | exact ⟨rfl, trivial, Ext.refl _, hI⟩
              · go_wp2
                first | exact ⟨rfl, rfl, Ext.refl _, hI⟩ | exact ⟨rfl, trivial, Ext.refl _, hI⟩
              · obtain ⟨c0, c1, c2, c3, c4, c5, c6, c7⟩ := hat.mono hI
                go_wp2
                exact ⟨rfl, rfl, Ext.refl _, hI⟩
              · go_wp2_with fail
                refine (one_any x p t z _ (hok.mono hI)).mono ?_
                rintro e w3 ⟨rfl, hx3⟩
                rw [Hone.out]
                go_wp2
                exact ⟨rfl, rfl, hx3, hI.then hx3⟩
              · go_wp2
                first | exact ⟨rfl, rfl, Ext.refl _, hI⟩ | exact ⟨rfl, trivial, Ext.refl _, hI⟩
              · go_wp2
                first | exact ⟨rfl, rfl, Ext.refl _, hI⟩ | exact ⟨rfl, trivial, Ext.refl _, hI⟩
              · go_wp2
                first | exact ⟨rfl, rfl, Ext.refl _, hI⟩ | exact ⟨rfl, trivial, Ext.refl _, hI⟩
              · go_wp2
                first | exact ⟨rfl, rfl, Ext.refl _, hI⟩ | exact ⟨rfl, trivial, Ext.refl _, hI⟩
              · go_wp2
                first | exact ⟨rfl, rfl, Ext.refl _, hI⟩ | exact ⟨rfl, trivial, Ext.refl _, hI⟩
              · go_wp2
                first | exact ⟨rfl, rfl, Ext.refl _, hI⟩ | exact ⟨rfl, trivial, Ext.refl _, hI⟩
              · go_wp2
                first | exact ⟨rfl, rfl, Ext.refl _, hI⟩ | exact ⟨rfl, trivial, Ext.refl _, hI⟩
              · go_wp2
                first | exact ⟨rfl, rfl, Ext.refl _, hI⟩ | exact ⟨rfl, trivial, Ext.refl _, hI⟩
              · go_wp2
                first | exact ⟨rfl, rfl, Ext.refl _, hI⟩ | exact ⟨rfl, trivial, Ext.refl _, hI⟩
              · go_wp2
                first | exact ⟨rfl, rfl, Ext.refl _, hI⟩ | exact ⟨rfl, trivial, Ext.refl _, hI⟩
              · have hc := hI.cell haty.c0
                go_wp2
                exact ⟨rfl, rfl, Ext.refl _, hI⟩
              · go_wp2
                first | exact ⟨rfl, rfl, Ext.refl _, hI⟩ | exact ⟨rfl, trivial, Ext.refl _, hI⟩
              · go_wp2
                first | exact ⟨rfl, rfl, Ext.refl _, hI⟩ | exact ⟨rfl, trivial, Ext.refl _, hI⟩
              · go_wp2
                first | exact ⟨rfl, rfl, Ext.refl _, hI⟩ | exact ⟨rfl, trivial, Ext.refl _, hI⟩
              · go_wp2
                first | exact ⟨rfl, rfl, Ext.refl _, hI⟩ | exact ⟨rfl, trivial, Ext.refl _, hI⟩
              · have hc := hI.cell hat.c0
                go_wp2
                exact ⟨rfl, rfl, Ext.refl _, hI⟩
              · go_wp2
                first | exact ⟨rfl, rfl, Ext.refl _, hI⟩ | exact ⟨rfl, trivial, Ext.refl _, hI⟩
              · go_wp2
                first | exact ⟨rfl, rfl, Ext.refl _, hI⟩ | exact ⟨rfl, trivial, Ext.refl _, hI⟩
              · go_wp2
                first | exact ⟨rfl, rfl, Ext.refl _, hI⟩ | exact ⟨rfl, trivial, Ext.refl _, hI⟩
            · intro vs w' hI hd
              simp only [actD, List.range, List.range.loop, List.foldl_cons, List.foldl_nil, List.length_cons, List.length_nil, List.getD_cons_zero, List.getD_cons_succ]
              rw [show vs 23 = Value.bool false from hd 23 (by decide)]
              clear hd
              go_simp
              go_wp2_with fail
              exact ⟨⟨k + 1, by go_num, by omega, Hall2.out, Hx0.out.then hI⟩, by simp [intOf]; omega⟩
          · have Hf : Hid (risesB l = false) := Lib.hid (allN_false hlt (by rw [Hokv.out]; exact decide_eq_false hst))
            have hge : decide (x.stamp ≤ y.stamp) = true := decide_eq_true (by omega)
            clear hst
            go_wp2_with fail
            refine wp_region_rely_lit rfl [some 10, some 11, some 12, some 13, some 14, some 15, some 16, some 17, some 18, some 19, some 20, some 21, some 22, some 23, some 24, some 25, some 26, some 27, some 28, some 29, some 30, some 31, some 32, some 33] rfl [[], [], [0, 1], [2], [3], [4], [5], [6], [6, 7], [6, 8], [9], [9], [9, 11], [9, 10, 12], [9, 13], [9, 14], [9], [9], [9, 16, 17], [9, 18], [9, 19], [9, 15, 20], [6, 9, 21], [6, 22]] (by kernel_rfl) (fun w' => Ext wr w') Ext
              (fun i w' v => match i with
                | 0 => v = .slice (some ⟨g, o, none⟩) l.length cap
                | 1 => v = .int .i64 (k : Int)
                | 2 => v = .pointer (some ⟨g, o + k * 8, none⟩)
                | 3 => v = verV x p t z
                | 4 => v = .bool true
                | 5 => v = .bool false
                | 6 => v = .bool false
                | 7 => v = .int .i64 (k : Int)
                | 8 => v = .bool true
                | 9 => v = .bool true
                | 10 => v = .slice (some ⟨g, o, none⟩) l.length cap
                | 11 => v = .int .i64 (k : Int)
                | 12 => v = .int .i64 (j : Int)
                | 13 => v = .pointer (some ⟨g, o + j * 8, none⟩)
                | 14 => v = .pointer (some ⟨g, o + j * 8, none⟩)
                | 15 => v = .int .i64 y.stamp
                | 16 => v = .slice (some ⟨g, o, none⟩) l.length cap
                | 17 => v = .int .i64 (k : Int)
                | 18 => v = .pointer (some ⟨g, o + k * 8, none⟩)
                | 19 => v = .pointer (some ⟨g, o + k * 8, none⟩)
                | 20 => v = .int .i64 x.stamp
                | 21 => v = .bool true
                | 22 => v = .bool true
                | 23 => v = .bool true
                | _ => True) (fun i w1 w2 v _ h => h) ?_ ?_ ?_
            · exact (Ext.refl wr).drew
            · refine ⟨?_, ?_, ?_, ?_, ?_, ?_, ?_, ?_, ?_, ?_, ?_, ?_, ?_, ?_, ?_, ?_, ?_, ?_, ?_, ?_, ?_, ?_, ?_, ?_, trivial⟩
              all_goals (intro vs w' hI hd)
              all_goals simp only [opsFor, actD, List.getD_cons_zero, List.getD_cons_succ, List.foldl_cons, List.foldl_nil, List.mem_cons, List.not_mem_nil, or_false, forall_eq_or_imp, forall_eq] at hd ⊢
              · go_wp2
                first | exact ⟨rfl, rfl, Ext.refl _, hI⟩ | exact ⟨rfl, trivial, Ext.refl _, hI⟩
              · go_wp2
                first | exact ⟨rfl, rfl, Ext.refl _, hI⟩ | exact ⟨rfl, trivial, Ext.refl _, hI⟩
              · go_wp2
                first | exact ⟨rfl, rfl, Ext.refl _, hI⟩ | exact ⟨rfl, trivial, Ext.refl _, hI⟩
              · obtain ⟨c0, c1, c2, c3, c4, c5, c6, c7⟩ := hat.mono hI
                go_wp2
                exact ⟨rfl, rfl, Ext.refl _, hI⟩
              · go_wp2_with fail
                refine (one_any x p t z _ (hok.mono hI)).mono ?_
                rintro e w3 ⟨rfl, hx3⟩
                rw [Hone.out]
                go_wp2
                exact ⟨rfl, rfl, hx3, hI.then hx3⟩
              · go_wp2
                first | exact ⟨rfl, rfl, Ext.refl _, hI⟩ | exact ⟨rfl, trivial, Ext.refl _, hI⟩
              · go_wp2
                first | exact ⟨rfl, rfl, Ext.refl _, hI⟩ | exact ⟨rfl, trivial, Ext.refl _, hI⟩
              · go_wp2
                first | exact ⟨rfl, rfl, Ext.refl _, hI⟩ | exact ⟨rfl, trivial, Ext.refl _, hI⟩
              · go_wp2
                first | exact ⟨rfl, rfl, Ext.refl _, hI⟩ | exact ⟨rfl, trivial, Ext.refl _, hI⟩
              · go_wp2
                first | exact ⟨rfl, rfl, Ext.refl _, hI⟩ | exact ⟨rfl, trivial, Ext.refl _, hI⟩
              · go_wp2
                first | exact ⟨rfl, rfl, Ext.refl _, hI⟩ | exact ⟨rfl, trivial, Ext.refl _, hI⟩
              · go_wp2
                first | exact ⟨rfl, rfl, Ext.refl _, hI⟩ | exact ⟨rfl, trivial, Ext.refl _, hI⟩
              · go_wp2
                first | exact ⟨rfl, rfl, Ext.refl _, hI⟩ | exact ⟨rfl, trivial, Ext.refl _, hI⟩
              · go_wp2
                first | exact ⟨rfl, rfl, Ext.refl _, hI⟩ | exact ⟨rfl, trivial, Ext.refl _, hI⟩
              · go_wp2
                first | exact ⟨rfl, rfl, Ext.refl _, hI⟩ | exact ⟨rfl, trivial, Ext.refl _, hI⟩
              · have hc := hI.cell haty.c0
                go_wp2
                exact ⟨rfl, rfl, Ext.refl _, hI⟩
              · go_wp2
                first | exact ⟨rfl, rfl, Ext.refl _, hI⟩ | exact ⟨rfl, trivial, Ext.refl _, hI⟩
              · go_wp2
                first | exact ⟨rfl, rfl, Ext.refl _, hI⟩ | exact ⟨rfl, trivial, Ext.refl _, hI⟩
              · go_wp2
                first | exact ⟨rfl, rfl, Ext.refl _, hI⟩ | exact ⟨rfl, trivial, Ext.refl _, hI⟩
              · go_wp2
                first | exact ⟨rfl, rfl, Ext.refl _, hI⟩ | exact ⟨rfl, trivial, Ext.refl _, hI⟩
              · have hc := hI.cell hat.c0
                go_wp2
                exact ⟨rfl, rfl, Ext.refl _, hI⟩
              · go_wp2
                first | exact ⟨rfl, rfl, Ext.refl _, hI⟩ | exact ⟨rfl, trivial, Ext.refl _, hI⟩
              · go_wp2
                first | exact ⟨rfl, rfl, Ext.refl _, hI⟩ | exact ⟨rfl, trivial, Ext.refl _, hI⟩
              · go_wp2
                first | exact ⟨rfl, rfl, Ext.refl _, hI⟩ | exact ⟨rfl, trivial, Ext.refl _, hI⟩
            · intro vs w' hI hd
              simp only [actD, List.range, List.range.loop, List.foldl_cons, List.foldl_nil, List.length_cons, List.length_nil, List.getD_cons_zero, List.getD_cons_succ]
              rw [show vs 23 = Value.bool true from hd 23 (by decide)]
              clear hd
              go_simp
              go_wp2_with fail
              go_ret
              exact ⟨by rw [Hf.out]; rfl, Hx0.out.then hI⟩
    · obtain rfl : k = l.length := by omega
      have Hf : Hid (risesB l = true) := Lib.hid (allN_true Hall.out)
      go_wp2_with fail
      go_ret
      exact ⟨by rw [Hf.out]; rfl, Hx0.out⟩
end Go.Proofs.Ythclkljdnmokcaa
