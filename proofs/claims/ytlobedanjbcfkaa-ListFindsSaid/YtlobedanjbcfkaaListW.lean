/-
  Lists of texts and of numbers: cloned, turned round, compared.
-/
import Derived.Test.YtlobedanjbcfkaaProg
import Derived.Test.YtlobedanjbcfkaaLib
import Derived.Test.YtlobedanjbcfkaaOwn2
import Derived.WalkKit
import Derived.WalkSpells
import Derived.WalkLawsBesides
import Derived.BigQuiet
import Derived.Deep.QuietTactic
import Derived.Lib.Hide
import Derived.Lib.LazyBuf
import Derived.Outline
set_option linter.unusedVariables false
set_option linter.unusedSimpArgs false
namespace Go.Proofs.Ytlobedanjbcfkaa
open Go.RowKit Go.Proofs

theorem ltake_succ {α : Type} (l : List α) (k : Nat) (h : k < l.length) : l.take (k + 1) = l.take k ++ [l[k]] := by
  rw [List.take_succ_eq_append_getElem h]
theorem lstr_ext {a b : ByteArray} (h : a.toList = b.toList) : a = b := by
  rw [ByteArray.toList_eq, ByteArray.toList_eq] at h
  cases a with | mk a => cases b with | mk b => congr 1; exact Array.toList_inj.1 h
theorem el_S : El Try.prog 35 9 1 16 := El.mk' (z := .string ByteArray.empty) Try.underlying35 (by kernel_rfl) rfl (by decide)
theorem el_I : El Try.prog 42 3 1 8 := El.mk' (z := .int .i64 0) Try.underlying42 (by kernel_rfl) rfl (by decide)
/-- k swaps of a list that is turned round -/
def swapped {α : Type} (l : List α) (k : Nat) (M : List α) : Prop := M.length = l.length ∧ ∀ x, x < l.length → M[x]? = if x < k ∨ l.length - k ≤ x then l[l.length - 1 - x]? else l[x]?
theorem swapped_zero {α : Type} (l : List α) : swapped l 0 l := ⟨rfl, fun x hx => by rw [if_neg (by omega)]⟩
theorem swapped_step {α : Type} {l M : List α} {k : Nat} (h : swapped l k M) (hk : k < l.length - 1 - k) (a b : α) (ha : M[k]? = some a) (hb : M[l.length - 1 - k]? = some b) : swapped l (k + 1) ((M.set k b).set (l.length - 1 - k) a) := by
  obtain ⟨h1, h2⟩ := h
  refine ⟨by simp [h1], fun x hx => ?_⟩
  have ea := h2 k (by omega)
  have eb := h2 (l.length - 1 - k) (by omega)
  rw [if_neg (by omega)] at ea eb
  rw [List.getElem?_set, List.getElem?_set, List.length_set, h1]
  by_cases hx1 : l.length - 1 - k = x
  · subst hx1
    rw [if_pos rfl, if_pos (by omega), if_pos (by omega), show l.length - 1 - (l.length - 1 - k) = k by omega, ← ea, ha]
  · rw [if_neg hx1]
    by_cases hx2 : k = x
    · subst hx2
      rw [if_pos rfl, if_pos (by omega), if_pos (by omega), ← eb, hb]
    · rw [if_neg hx2, h2 x hx]
      by_cases hc : x < k ∨ l.length - k ≤ x
      · rw [if_pos hc, if_pos (by omega)]
      · rw [if_neg hc, if_neg (by omega)]
theorem swapped_end {α : Type} {l M : List α} {k : Nat} (h : swapped l k M) (hk : ¬ (k : Int) < (l.length : Int) - 1 - k) : M = l.reverse := by
  obtain ⟨h1, h2⟩ := h
  refine List.ext_getElem? fun x => ?_
  by_cases hx : x < l.length
  · rw [h2 x hx, List.getElem?_reverse hx]
    split
    · rfl
    · rename_i hc
      rw [show l.length - 1 - x = x by omega]
  · rw [List.getElem?_eq_none (by omega), List.getElem?_eq_none (by simp; omega)]
theorem set_comm' {α : Type} (M : List α) (i j : Nat) (a b : α) (h : i ≠ j) : (M.set j b).set i a = (M.set i a).set j b := List.set_comm _ _ (fun e => h e.symm)

set_option maxRecDepth 100000 in
set_option maxHeartbeats 400000 in
theorem clone_S (v : Value) (l : List ByteArray) (w : World) (hv : SliceOf rStr w v l) (hl : l.length ≤ 1000000) :
    Calls Try.prog 36 #[v] w (RetOwn rStr 9 w l) := by
  obtain ⟨a, cap, rfl, hle, hm, h0, _⟩ := id hv
  have hnil := fun (w : World) (a : Option Addr) (n c n' c' : Nat) => Lib.run_eql_slice_nil (P := Try.prog) w 35 9 a n c n' c' Try.underlying35
  clear hm
  cases a with
  | none =>
    obtain rfl := h0 rfl
    obtain rfl : l = [] := List.eq_nil_of_length_eq_zero (by omega)
    go_enter Try.func36, Try.ntmps36
    go_wp2
    go_ret
    exact ⟨_, rfl, Own.nil _ _ _ _, Ext.refl _⟩
  | some ad =>
    have hA : ([] : List ByteArray).length + l.length ≤ maxLen := by unfold maxLen; simp; omega
    have hB : (([] : List ByteArray).length + l.length) * 16 ≤ 140737488355328 := by simp; omega
    have HA := Lib.hid hA
    have HB := Lib.hid hB
    clear hA hB h0
    go_enter Try.func36, Try.ntmps36
    go_wp2_with (at_builtin; go_loud (refine append_law rfl (.tmp 5) (.tmp 6) rfl el_S rStr_one _ _ rfl (Own.lit0 rStr 9 w rfl (Nat.le_refl _)) _ l rfl (hv.mono rStr_mono ((Ext.refl _).alloc _)) (fun _ _ _ _ _ h => h) HA.out HB.out (by simp) ?_); intro v' w' hown' hg')
    go_ret
    refine ⟨_, rfl, hown', ?_⟩
    exact ((Ext.refl w).alloc _).grown hg' (by simp) (by intro k hk; cases hk; exact Nat.le_refl _)

set_option maxRecDepth 100000 in
set_option maxHeartbeats 1000000 in
theorem reverse_S (v : Value) (l : List ByteArray) (w0 w : World) (base : Nat) (hb : w0.heap.size ≤ base) (hx0 : Ext w0 w) (hown0 : Own rStr base 9 w v l) :
    Calls Try.prog 37 #[v] w fun e w' => (∃ u, e = .returned u) ∧ Own rStr base 9 w' v l.reverse ∧ w'.heap.size = w.heap.size ∧ Ext w0 w' ∧ (∀ (p : Addr) (x : Value), v.ownBlock ≠ some p.block → w.cell? p = some x → w'.cell? p = some x) := by
  obtain ⟨a, cap, rfl, hle, hm, h0, _⟩ := id hown0.slice
  unfold maxLen at hm
  go_enter Try.func37, Try.ntmps37
  go_wp2_with fail
  go_loopw [2, 3] (fun i j wr => ∃ (k : Nat) (M : List ByteArray), i = .int .i64 (k : Int) ∧ j = .int .i64 ((l.length : Int) - 1 - k) ∧ k ≤ l.length ∧ Own rStr base 9 wr (.slice a l.length cap) M ∧ swapped l k M ∧ wr.heap.size = w.heap.size ∧ Ext w0 wr ∧ (∀ (p : Addr) (x : Value), (Value.slice a l.length cap).ownBlock ≠ some p.block → w.cell? p = some x → wr.cell? p = some x)) (fun i j _ => ((intOf j) - (intOf i)).toNat)
  case atStart => exact ⟨0, l, rfl, by go_num, by omega, hown0, swapped_zero l, rfl, hx0, fun _ _ _ h => h⟩
  case round =>
    obtain ⟨k, M, rfl, rfl, hk, hown, hsw, hsz, hx, hfr⟩ := hrel
    have Hfr := Lib.hid hfr
    clear hfr
    have Hsw := Lib.hid hsw
    have hMl := Lib.hid hsw.1
    have Hsz := Lib.hid hsz
    clear hsw hsz
    by_cases hlt : (k : Int) < (l.length : Int) - 1 - k
    · have hk1 : k < l.length - 1 - k := by omega
      have hj1 : k < M.length := by have := hMl.out; omega
      have hj2 : l.length - 1 - k < M.length := by have := hMl.out; omega
      obtain ⟨x1, hm1⟩ : ∃ x, M[k]? = some x := ⟨_, List.getElem?_eq_getElem hj1⟩
      obtain ⟨x2, hm2⟩ : ∃ x, M[l.length - 1 - k]? = some x := ⟨_, List.getElem?_eq_getElem hj2⟩
      obtain ⟨g, o, u1, ha1, hu1, hr1⟩ := hown.slice.at1 rfl hm1
      obtain ⟨g2, o2, u2, ha2, hu2, hr2⟩ := hown.slice.at1 rfl hm2
      obtain ⟨g', cap', e1, hbg, _⟩ := hown.form (by intro e; rw [e] at hj1; simp at hj1)
      obtain rfl : a = some ⟨g', 0, none⟩ := by injection e1
      obtain ⟨rfl, rfl⟩ : g = g' ∧ o = 0 := by
        have h := ha1.symm
        simp at h
        exact ⟨h.1, h.2⟩
      obtain ⟨rfl, rfl⟩ : g2 = g ∧ o2 = 0 := by
        have h := ha2.symm
        simp at h
        exact ⟨h.1, h.2⟩
      clear ha1 ha2 e1
      rw [Nat.zero_add] at hu1 hu2
      obtain ⟨_, hfz1, _⟩ := hown.formAt rfl hj1
      obtain ⟨_, hfz2, _⟩ := hown.formAt rfl hj2
      have hr1' := hr1.1
      have hr2' := hr2.1
      obtain rfl : u1 = .string x1 := by simpa using hr1'
      obtain rfl : u2 = .string x2 := by simpa using hr2'
      have hs1 := hr1.2
      have hs2 := hr2.2
      clear hr1 hr2 hr1' hr2'
      have hstep := swapped_step Hsw.out hk1 x1 x2 hm1 hm2
      have ho1 := hown.set1 rfl rStr_flat hj1 (u := .string x2) (x := x2) (fun _ => ⟨rfl, hs2⟩)
      have ho2 := ho1.set1 rfl rStr_flat (j := l.length - 1 - k) (by simpa using hj2) (u := .string x1) (x := x1) (fun _ => ⟨rfl, hs1⟩)
      have ho3 := hown.set1 rfl rStr_flat hj2 (u := .string x1) (x := x1) (fun _ => ⟨rfl, hs1⟩)
      have ho4 := ho3.set1 rfl rStr_flat (j := k) (by simpa using hj1) (u := .string x2) (x := x2) (fun _ => ⟨rfl, hs2⟩)
      rw [set_comm' M k (l.length - 1 - k) _ _ (by omega)] at ho4
      have hbg0 : w0.heap.size ≤ g2 := by omega
      have hx1 := Below.setCell (Below.setCell hx (p := ⟨g2, k, none⟩) hbg0 (.string x2)) (p := ⟨g2, l.length - 1 - k, none⟩) hbg0 (.string x1)
      have hx2 := Below.setCell (Below.setCell hx (p := ⟨g2, l.length - 1 - k, none⟩) hbg0 (.string x1)) (p := ⟨g2, k, none⟩) hbg0 (.string x2)
      have hi2 : ((l.length : Int) - 1 - (k : Int)) = ((l.length - 1 - k : Nat) : Int) := by omega
      rw [hi2]
      clear hm1 hm2 hj1 hj2 ho1 ho3
      generalize hJ : l.length - 1 - k = J at hu2 hfz2 hx1 hx2 ho2 ho4 hstep hk1
      have HJ := Lib.hid hJ
      have hJl : J < l.length := by omega
      have hkl : k < l.length := by omega
      have Hstep := Lib.hid hstep
      have Ho2 := Lib.hid ho2
      have Ho4 := Lib.hid ho4
      have Hx1 := Lib.hid hx1
      have Hx2 := Lib.hid hx2
      clear hstep ho2 ho4 hx1 hx2 hi2 hJ
      go_wp2_with fail
      go_region
      all_goals
        go_wp2
        first
          | exact ⟨⟨k + 1, _, by go_num, by have := HJ.out; go_num, by omega, Ho2.out.mono rStr_mono (Ext.refl _).drew, Hstep.out, by have := Hsz.out; simpa using this, Hx1.out.drew, fun p x hp hc => cell_far (cell_far (Hfr.out p x hp hc) (fun e => hp (by rw [e]; rfl)) _) (fun e => hp (by rw [e]; rfl)) _⟩, by have := HJ.out; simp [intOf]; omega⟩
          | exact ⟨⟨k + 1, _, by go_num, by have := HJ.out; go_num, by omega, Ho4.out.mono rStr_mono (Ext.refl _).drew, Hstep.out, by have := Hsz.out; simpa using this, Hx2.out.drew, fun p x hp hc => cell_far (cell_far (Hfr.out p x hp hc) (fun e => hp (by rw [e]; rfl)) _) (fun e => hp (by rw [e]; rfl)) _⟩, by have := HJ.out; simp [intOf]; omega⟩
    · have hend := swapped_end Hsw.out hlt
      subst hend
      have Hown := Lib.hid hown
      clear hown
      go_wp2_with fail
      refine bodyPost_end (results_none rfl _ _ _) rfl ?_
      exact ⟨⟨_, rfl⟩, Hown.out, Hsz.out, hx, Hfr.out⟩

set_option maxRecDepth 100000 in
set_option maxHeartbeats 400000 in
theorem clone_I (v : Value) (l : List Int) (w : World) (hv : SliceOf (rInt .i64) w v l) (hl : l.length ≤ 1000000) :
    Calls Try.prog 41 #[v] w (RetOwn (rInt .i64) 3 w l) := by
  obtain ⟨a, cap, rfl, hle, hm, h0, _⟩ := id hv
  have hnil := fun (w : World) (a : Option Addr) (n c n' c' : Nat) => Lib.run_eql_slice_nil (P := Try.prog) w 42 3 a n c n' c' Try.underlying42
  clear hm
  cases a with
  | none =>
    obtain rfl := h0 rfl
    obtain rfl : l = [] := List.eq_nil_of_length_eq_zero (by omega)
    go_enter Try.func41, Try.ntmps41
    go_wp2
    go_ret
    exact ⟨_, rfl, Own.nil _ _ _ _, Ext.refl _⟩
  | some ad =>
    have hA : ([] : List Int).length + l.length ≤ maxLen := by unfold maxLen; simp; omega
    have hB : (([] : List Int).length + l.length) * 8 ≤ 140737488355328 := by simp; omega
    have HA := Lib.hid hA
    have HB := Lib.hid hB
    clear hA hB h0
    go_enter Try.func41, Try.ntmps41
    go_wp2_with (at_builtin; go_loud (refine append_law rfl (.tmp 5) (.tmp 6) rfl el_I (rInt_one .i64) _ _ rfl (Own.lit0 (rInt .i64) 3 w rfl (Nat.le_refl _)) _ l rfl (hv.mono (rInt_mono .i64) ((Ext.refl _).alloc _)) (fun _ _ _ _ _ h => h) HA.out HB.out (by simp) ?_); intro v' w' hown' hg')
    go_ret
    refine ⟨_, rfl, hown', ?_⟩
    exact ((Ext.refl w).alloc _).grown hg' (by simp) (by intro k hk; cases hk; exact Nat.le_refl _)

set_option maxRecDepth 100000 in
set_option maxHeartbeats 1000000 in
theorem reverse_I (v : Value) (l : List Int) (w0 w : World) (base : Nat) (hb : w0.heap.size ≤ base) (hx0 : Ext w0 w) (hown0 : Own (rInt .i64) base 3 w v l) :
    Calls Try.prog 40 #[v] w fun e w' => (∃ u, e = .returned u) ∧ Own (rInt .i64) base 3 w' v l.reverse ∧ w'.heap.size = w.heap.size ∧ Ext w0 w' ∧ (∀ (p : Addr) (x : Value), v.ownBlock ≠ some p.block → w.cell? p = some x → w'.cell? p = some x) := by
  obtain ⟨a, cap, rfl, hle, hm, h0, _⟩ := id hown0.slice
  unfold maxLen at hm
  go_enter Try.func40, Try.ntmps40
  go_wp2_with fail
  go_loopw [2, 3] (fun i j wr => ∃ (k : Nat) (M : List Int), i = .int .i64 (k : Int) ∧ j = .int .i64 ((l.length : Int) - 1 - k) ∧ k ≤ l.length ∧ Own (rInt .i64) base 3 wr (.slice a l.length cap) M ∧ swapped l k M ∧ wr.heap.size = w.heap.size ∧ Ext w0 wr ∧ (∀ (p : Addr) (x : Value), (Value.slice a l.length cap).ownBlock ≠ some p.block → w.cell? p = some x → wr.cell? p = some x)) (fun i j _ => ((intOf j) - (intOf i)).toNat)
  case atStart => exact ⟨0, l, rfl, by go_num, by omega, hown0, swapped_zero l, rfl, hx0, fun _ _ _ h => h⟩
  case round =>
    obtain ⟨k, M, rfl, rfl, hk, hown, hsw, hsz, hx, hfr⟩ := hrel
    have Hfr := Lib.hid hfr
    clear hfr
    have Hsw := Lib.hid hsw
    have hMl := Lib.hid hsw.1
    have Hsz := Lib.hid hsz
    clear hsw hsz
    by_cases hlt : (k : Int) < (l.length : Int) - 1 - k
    · have hk1 : k < l.length - 1 - k := by omega
      have hj1 : k < M.length := by have := hMl.out; omega
      have hj2 : l.length - 1 - k < M.length := by have := hMl.out; omega
      obtain ⟨x1, hm1⟩ : ∃ x, M[k]? = some x := ⟨_, List.getElem?_eq_getElem hj1⟩
      obtain ⟨x2, hm2⟩ : ∃ x, M[l.length - 1 - k]? = some x := ⟨_, List.getElem?_eq_getElem hj2⟩
      obtain ⟨g, o, u1, ha1, hu1, hr1⟩ := hown.slice.at1 rfl hm1
      obtain ⟨g2, o2, u2, ha2, hu2, hr2⟩ := hown.slice.at1 rfl hm2
      obtain ⟨g', cap', e1, hbg, _⟩ := hown.form (by intro e; rw [e] at hj1; simp at hj1)
      obtain rfl : a = some ⟨g', 0, none⟩ := by injection e1
      obtain ⟨rfl, rfl⟩ : g = g' ∧ o = 0 := by
        have h := ha1.symm
        simp at h
        exact ⟨h.1, h.2⟩
      obtain ⟨rfl, rfl⟩ : g2 = g ∧ o2 = 0 := by
        have h := ha2.symm
        simp at h
        exact ⟨h.1, h.2⟩
      clear ha1 ha2 e1
      rw [Nat.zero_add] at hu1 hu2
      obtain ⟨_, hfz1, _⟩ := hown.formAt rfl hj1
      obtain ⟨_, hfz2, _⟩ := hown.formAt rfl hj2
      have hr1' := hr1.1
      have hr2' := hr2.1
      obtain rfl : u1 = .int .i64 x1 := by simpa using hr1'
      obtain rfl : u2 = .int .i64 x2 := by simpa using hr2'
      have hs1 := hr1.2
      have hs2 := hr2.2
      clear hr1 hr2 hr1' hr2'
      have hstep := swapped_step Hsw.out hk1 x1 x2 hm1 hm2
      have ho1 := hown.set1 rfl (rInt_flat .i64) hj1 (u := .int .i64 x2) (x := x2) (fun _ => ⟨rfl, hs2⟩)
      have ho2 := ho1.set1 rfl (rInt_flat .i64) (j := l.length - 1 - k) (by simpa using hj2) (u := .int .i64 x1) (x := x1) (fun _ => ⟨rfl, hs1⟩)
      have ho3 := hown.set1 rfl (rInt_flat .i64) hj2 (u := .int .i64 x1) (x := x1) (fun _ => ⟨rfl, hs1⟩)
      have ho4 := ho3.set1 rfl (rInt_flat .i64) (j := k) (by simpa using hj1) (u := .int .i64 x2) (x := x2) (fun _ => ⟨rfl, hs2⟩)
      rw [set_comm' M k (l.length - 1 - k) _ _ (by omega)] at ho4
      have hbg0 : w0.heap.size ≤ g2 := by omega
      have hx1 := Below.setCell (Below.setCell hx (p := ⟨g2, k, none⟩) hbg0 (.int .i64 x2)) (p := ⟨g2, l.length - 1 - k, none⟩) hbg0 (.int .i64 x1)
      have hx2 := Below.setCell (Below.setCell hx (p := ⟨g2, l.length - 1 - k, none⟩) hbg0 (.int .i64 x1)) (p := ⟨g2, k, none⟩) hbg0 (.int .i64 x2)
      have hi2 : ((l.length : Int) - 1 - (k : Int)) = ((l.length - 1 - k : Nat) : Int) := by omega
      rw [hi2]
      clear hm1 hm2 hj1 hj2 ho1 ho3
      generalize hJ : l.length - 1 - k = J at hu2 hfz2 hx1 hx2 ho2 ho4 hstep hk1
      have HJ := Lib.hid hJ
      have hJl : J < l.length := by omega
      have hkl : k < l.length := by omega
      have Hstep := Lib.hid hstep
      have Ho2 := Lib.hid ho2
      have Ho4 := Lib.hid ho4
      have Hx1 := Lib.hid hx1
      have Hx2 := Lib.hid hx2
      clear hstep ho2 ho4 hx1 hx2 hi2 hJ
      go_wp2_with fail
      go_region
      all_goals
        go_wp2
        first
          | exact ⟨⟨k + 1, _, by go_num, by have := HJ.out; go_num, by omega, Ho2.out.mono (rInt_mono .i64) (Ext.refl _).drew, Hstep.out, by have := Hsz.out; simpa using this, Hx1.out.drew, fun p x hp hc => cell_far (cell_far (Hfr.out p x hp hc) (fun e => hp (by rw [e]; rfl)) _) (fun e => hp (by rw [e]; rfl)) _⟩, by have := HJ.out; simp [intOf]; omega⟩
          | exact ⟨⟨k + 1, _, by go_num, by have := HJ.out; go_num, by omega, Ho4.out.mono (rInt_mono .i64) (Ext.refl _).drew, Hstep.out, by have := Hsz.out; simpa using this, Hx2.out.drew, fun p x hp hc => cell_far (cell_far (Hfr.out p x hp hc) (fun e => hp (by rw [e]; rfl)) _) (fun e => hp (by rw [e]; rfl)) _⟩, by have := HJ.out; simp [intOf]; omega⟩
    · have hend := swapped_end Hsw.out hlt
      subst hend
      have Hown := Lib.hid hown
      clear hown
      go_wp2_with fail
      refine bodyPost_end (results_none rfl _ _ _) rfl ?_
      exact ⟨⟨_, rfl⟩, Hown.out, Hsz.out, hx, Hfr.out⟩

set_option maxRecDepth 100000 in
set_option maxHeartbeats 400000 in
theorem same_S (v v2 : Value) (l l2 : List ByteArray) (w : World) (hv : SliceOf rStr w v l) (hv2 : SliceOf rStr w v2 l2) :
    Calls Try.prog 22 #[v, v2] w fun e w' => e = .returned (.bool (decide (l = l2))) ∧ Ext w w' := by
  obtain ⟨a, cap, rfl, hle, hm, h0, _⟩ := id hv
  obtain ⟨a2, cap2, rfl, hle2, hm2, h02, _⟩ := id hv2
  unfold maxLen at hm hm2
  by_cases hlen : l.length = l2.length
  · have hne : ((l.length : Int) != (l2.length : Int)) = false := by rw [hlen]; simp
    have Hlen := Lib.hid hlen
    have hlle : l.length ≤ l2.length := by omega
    clear hlen h0 h02
    go_enter Try.func22, Try.ntmps22
    go_wp2_with fail
    go_loopw [5] (fun i wr => ∃ k : Nat, k ≤ l.length ∧ i = .int .i64 k ∧ l.take k = l2.take k ∧ Ext w wr) (fun i _ => l.length - (intOf i).toNat)
    case atStart => exact ⟨0, by omega, rfl, by simp, Ext.refl _⟩
    case round =>
      obtain ⟨k, hk, rfl, heq, hx⟩ := hrel
      have Heq := Lib.hid heq
      clear heq
      by_cases hlt : k < l.length
      · obtain ⟨g, o, u, rfl, hu, hu'⟩ := (hv.mono rStr_mono hx).at1 rfl (List.getElem?_eq_getElem hlt)
        obtain ⟨g2, o2, u2, rfl, hu2, hu2'⟩ := (hv2.mono rStr_mono hx).at1 rfl (List.getElem?_eq_getElem (show k < l2.length by omega))
        have hu'' := hu'.1
        have hu2'' := hu2'.1
        obtain rfl : u = .string l[k] := by simpa using hu''
        obtain rfl : u2 = .string l2[k] := by simpa using hu2''
        clear hu' hu2' hu'' hu2''
        have Hts := Lib.hid (ltake_succ l k hlt)
        have Hts2 := Lib.hid (ltake_succ l2 k (by omega))
        generalize l[k] = b at hu Hts
        generalize l2[k] = b2 at hu2 Hts2
        by_cases hb : b = b2
        · subst hb
          have ht : (b.toList == b.toList) = true := by simp
          go_wp2_with fail
          go_quiet (fail)
          go_wp2
          refine ⟨⟨k + 1, by omega, by go_num, by rw [Hts.out, Hts2.out, Heq.out], hx.drewN _⟩, by simp [intOf]; omega⟩
        · have ht : (b.toList == b2.toList) = false := by rw [beq_eq_false_iff_ne]; exact fun e => hb (lstr_ext e)
          have Hb := Lib.hid hb
          clear hb
          go_wp2_with fail
          go_quiet (fail)
          go_wp2
          go_ret
          refine ⟨?_, hx.drewN _⟩
          have hno : l ≠ l2 := fun e => Hb.out (by
            have h1 := Hts.out
            rw [e, Hts2.out] at h1
            have := List.append_inj_right' h1 rfl
            simpa using this.symm)
          rw [decide_eq_false hno]
          rfl
      · go_wp2_with fail
        go_ret
        refine ⟨?_, hx⟩
        have : l = l2 := by
          have h1 := Heq.out
          have h2 := Hlen.out
          rwa [List.take_of_length_le (by omega), List.take_of_length_le (by omega)] at h1
        rw [decide_eq_true this]
        rfl
  · have hne : ((l.length : Int) != (l2.length : Int)) = true := by
      simp only [bne_iff_ne, ne_eq]; omega
    have Hno := Lib.hid (show l ≠ l2 from fun e => hlen (by rw [e]))
    clear hlen h0 h02
    go_enter Try.func22, Try.ntmps22
    go_wp2_with fail
    go_ret
    exact ⟨by rw [decide_eq_false Hno.out]; rfl, Ext.refl _⟩

set_option maxRecDepth 100000 in
set_option maxHeartbeats 400000 in
theorem same_I (v v2 : Value) (l l2 : List Int) (w : World) (hv : SliceOf (rInt .i64) w v l) (hv2 : SliceOf (rInt .i64) w v2 l2) :
    Calls Try.prog 23 #[v, v2] w fun e w' => e = .returned (.bool (decide (l = l2))) ∧ Ext w w' := by
  obtain ⟨a, cap, rfl, hle, hm, h0, _⟩ := id hv
  obtain ⟨a2, cap2, rfl, hle2, hm2, h02, _⟩ := id hv2
  unfold maxLen at hm hm2
  by_cases hlen : l.length = l2.length
  · have hne : ((l.length : Int) != (l2.length : Int)) = false := by rw [hlen]; simp
    have Hlen := Lib.hid hlen
    have hlle : l.length ≤ l2.length := by omega
    clear hlen h0 h02
    go_enter Try.func23, Try.ntmps23
    go_wp2_with fail
    go_loopw [5] (fun i wr => ∃ k : Nat, k ≤ l.length ∧ i = .int .i64 k ∧ l.take k = l2.take k ∧ Ext w wr) (fun i _ => l.length - (intOf i).toNat)
    case atStart => exact ⟨0, by omega, rfl, by simp, Ext.refl _⟩
    case round =>
      obtain ⟨k, hk, rfl, heq, hx⟩ := hrel
      have Heq := Lib.hid heq
      clear heq
      by_cases hlt : k < l.length
      · obtain ⟨g, o, u, rfl, hu, hu'⟩ := (hv.mono (rInt_mono .i64) hx).at1 rfl (List.getElem?_eq_getElem hlt)
        obtain ⟨g2, o2, u2, rfl, hu2, hu2'⟩ := (hv2.mono (rInt_mono .i64) hx).at1 rfl (List.getElem?_eq_getElem (show k < l2.length by omega))
        have hu'' := hu'.1
        have hu2'' := hu2'.1
        obtain rfl : u = .int .i64 l[k] := by simpa using hu''
        obtain rfl : u2 = .int .i64 l2[k] := by simpa using hu2''
        clear hu' hu2' hu'' hu2''
        have Hts := Lib.hid (ltake_succ l k hlt)
        have Hts2 := Lib.hid (ltake_succ l2 k (by omega))
        generalize l[k] = b at hu Hts
        generalize l2[k] = b2 at hu2 Hts2
        by_cases hb : b = b2
        · subst hb
          have ht : (b != b) = false := by simp
          go_wp2_with fail
          go_quiet (fail)
          go_wp2
          refine ⟨⟨k + 1, by omega, by go_num, by rw [Hts.out, Hts2.out, Heq.out], hx.drewN _⟩, by simp [intOf]; omega⟩
        · have ht : (b != b2) = true := by simpa using hb
          have Hb := Lib.hid hb
          clear hb
          go_wp2_with fail
          go_quiet (fail)
          go_wp2
          go_ret
          refine ⟨?_, hx.drewN _⟩
          have hno : l ≠ l2 := fun e => Hb.out (by
            have h1 := Hts.out
            rw [e, Hts2.out] at h1
            have := List.append_inj_right' h1 rfl
            simpa using this.symm)
          rw [decide_eq_false hno]
          rfl
      · go_wp2_with fail
        go_ret
        refine ⟨?_, hx⟩
        have : l = l2 := by
          have h1 := Heq.out
          have h2 := Hlen.out
          rwa [List.take_of_length_le (by omega), List.take_of_length_le (by omega)] at h1
        rw [decide_eq_true this]
        rfl
  · have hne : ((l.length : Int) != (l2.length : Int)) = true := by
      simp only [bne_iff_ne, ne_eq]; omega
    have Hno := Lib.hid (show l ≠ l2 from fun e => hlen (by rw [e]))
    clear hlen h0 h02
    go_enter Try.func23, Try.ntmps23
    go_wp2_with fail
    go_ret
    exact ⟨by rw [decide_eq_false Hno.out]; rfl, Ext.refl _⟩
end Go.Proofs.Ytlobedanjbcfkaa
