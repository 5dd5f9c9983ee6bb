/-
  The statements' example (layer 11), walked.
-/
import Derived.Test.YtlobedanjbcfkaaListS
import Derived.Test.YtlobedanjbcfkaaListM
import Derived.Test.YtlobedanjbcfkaaRely
set_option linter.unusedVariables false
set_option linter.unusedSimpArgs false
namespace Go.Proofs.Ytlobedanjbcfkaa
open Go.RowKit Go.Proofs

def bA : ByteArray := ⟨#[97]⟩
def bB : ByteArray := ⟨#[98]⟩
def bC : ByteArray := ⟨#[99]⟩
theorem lit_S {g : Nat} (w : World) (hg : g = w.heap.size) (l : List ByteArray) (cs : Array Value) (t : TypeId) (n : Nat) (hn : l.length = n) (hm : n ≤ maxLen) (hcs : cs = (l.map Value.string).toArray) (hs : ∀ x ∈ l, x.size ≤ maxLen) :
    SliceOf rStr (w.alloc (.cells cs t)) (.slice (some ⟨g, 0, none⟩) n n) l := by
  subst hcs
  exact sliceOf_alloc rfl w hg _ t (0, 0) l n hn hm fun j x hx => ⟨.string x, by simp [hx], rfl, hs x (List.mem_of_getElem? hx)⟩
theorem lit_I {g : Nat} (w : World) (hg : g = w.heap.size) (l : List Int) (cs : Array Value) (t : TypeId) (n : Nat) (hn : l.length = n) (hm : n ≤ maxLen) (hcs : cs = (l.map (Value.int .i64)).toArray) (hs : ∀ x ∈ l, (Lit.int .i64 x).wf = true) :
    SliceOf (rInt .i64) (w.alloc (.cells cs t)) (.slice (some ⟨g, 0, none⟩) n n) l := by
  subst hcs
  exact sliceOf_alloc rfl w hg _ t (0, 0) l n hn hm fun j x hx => ⟨.int .i64 x, by simp [hx], rfl, hs x (List.mem_of_getElem? hx)⟩
theorem small_S (l : List ByteArray) (h : l.all (fun x => x.size ≤ 1) = true) : ∀ x ∈ l, x.size ≤ maxLen := by
  intro x hx
  have := List.all_eq_true.1 h x hx
  simp at this
  unfold maxLen
  omega

set_option maxRecDepth 100000 in
set_option maxHeartbeats 1000000 in
theorem awake11 (w : World) :
    Calls Try.prog 18 #[] w fun e w' => e = .returned (.bool true) ∧ Ext w w' := by
  have Hr : Hid (remOut (-1) bA [bA, bB, bA, bB] = ([bA, bB, bB], 1)) := Lib.hid (by decide)
  have Hf : Hid (findOut [bA, bB, bA, bA] bA (-1) 2 = [3, 2]) := Lib.hid (by decide)
  have Hl : Hid ([bB, bC].any longB = false) := Lib.hid (by decide)
  go_enter Try.func18, Try.ntmps18
  go_wp2_with fail
  refine (push_front _ _ [bA] [bB, bC] _ ((lit_S w rfl [bA] _ _ 1 rfl (by decide) rfl (small_S _ (by decide))).mono rStr_mono ((Ext.refl _).alloc _)) (lit_S _ (by simp) [bB, bC] _ _ 2 rfl (by decide) rfl (small_S _ (by decide))) (by decide) Hl.out).mono ?_
  rintro e w1 ⟨v1, rfl, hs1, hx1⟩
  have hxw : Ext w w1 := (((Ext.refl w).alloc _).alloc _).then hx1
  clear hx1
  go_wp2_with fail
  refine (remove_any _ [bA, bB, bA, bB] (-1) bA _ (lit_S w1 rfl [bA, bB, bA, bB] _ _ 4 rfl (by decide) rfl (small_S _ (by decide))) (by decide) ⟨by omega, by omega⟩).mono ?_
  rintro e w2 ⟨v2, rfl, hown2, hx2⟩
  have hs2 := hown2.slice
  rw [Hr.out] at hs2 
  have hx12 : Ext w1 w2 := ((Ext.refl w1).alloc _).then hx2
  have hxw2 := hxw.then hx12
  have hs12 := hs1.mono rStr_mono hx12
  rw [Hr.out]
  clear hown2 hx2 hx12 hs1 hxw
  go_wp2_with fail
  have e1 : [bB, bC].reverse ++ [bA] = [bC, bB, bA] := rfl
  rw [e1] at hs12
  refine (same_S _ _ [bC, bB, bA] [bC, bB, bA] _ (hs12.mono rStr_mono ((Ext.refl _).alloc _)) (lit_S w2 rfl [bC, bB, bA] _ _ 3 rfl (by decide) rfl (small_S _ (by decide)))).mono ?_
  rintro e w3 ⟨rfl, hx3⟩
  rw [decide_eq_true (rfl : [bC, bB, bA] = [bC, bB, bA])]
  have hx23 := ((Ext.refl w2).alloc _).then hx3
  have hxw3 := hxw2.then hx23
  have hs23 := hs2.mono rStr_mono hx23
  clear hx3 hx23 hxw2 hs2 hs12
  go_wp2_with fail
  refine (same_S _ _ [bA, bB, bB] [bA, bB, bB] _ (hs23.mono rStr_mono ((Ext.refl _).alloc _)) (lit_S w3 rfl [bA, bB, bB] _ _ 3 rfl (by decide) rfl (small_S _ (by decide)))).mono ?_
  rintro e w4 ⟨rfl, hx4⟩
  rw [decide_eq_true (rfl : [bA, bB, bB] = [bA, bB, bB])]
  have hxw4 := hxw3.then (((Ext.refl w3).alloc _).then hx4)
  clear hx4 hs23 hxw3
  go_wp2_with fail
  refine (find_any _ [bA, bB, bA, bA] bA (-1) 2 _ (lit_S w4 rfl [bA, bB, bA, bA] _ _ 4 rfl (by decide) rfl (small_S _ (by decide))) (by decide) ⟨by omega, by omega⟩ ⟨by omega, by omega⟩).mono ?_
  rintro e w5 ⟨v5, rfl, hs5, hx5⟩
  rw [Hf.out] at hs5
  have hxw5 := hxw4.then (((Ext.refl w4).alloc _).then hx5)
  clear hx5 hxw4
  go_wp2_with fail
  refine (same_I _ _ [3, 2] [3, 2] _ (hs5.mono (rInt_mono .i64) ((Ext.refl _).alloc _)) (lit_I w5 rfl [3, 2] _ _ 2 rfl (by decide) rfl (by decide))).mono ?_
  rintro e w6 ⟨rfl, hx6⟩
  have hxw6 := hxw5.then (((Ext.refl w5).alloc _).then hx6)
  clear hx6 hxw5 hs5
  rw [decide_eq_true (rfl : ([3, 2] : List Int) = [3, 2])]
  go_wp2
  go_ret
  exact ⟨rfl, hxw6⟩
end Go.Proofs.Ytlobedanjbcfkaa
