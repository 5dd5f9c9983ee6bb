/-
  value.Name, the reference's Name and Size: walked.
-/
import Derived.Test.YthclkljdnmokcaaRefPack
set_option linter.unusedVariables false
set_option linter.unusedSimpArgs false
namespace Go.Proofs.Ythclkljdnmokcaa
open Go.RowKit Go.Proofs

def nameV (k : Int) : ByteArray := if k = 1 then ⟨#[115, 116, 114, 105, 110, 103]⟩ else if k = 2 then ⟨#[104, 97, 115, 104]⟩ else if k = 3 then ⟨#[108, 105, 115, 116]⟩ else if k = 4 then ⟨#[115, 101, 116]⟩ else if k = 5 then ⟨#[122, 115, 101, 116]⟩ else ⟨#[110, 111, 110, 101]⟩
theorem nameV_odd {k : Int} (h : k < 1 ∨ 5 < k) : nameV k = ⟨#[110, 111, 110, 101]⟩ := by
  unfold nameV
  rw [if_neg (by omega), if_neg (by omega), if_neg (by omega), if_neg (by omega), if_neg (by omega)]
set_option maxRecDepth 100000 in
set_option maxHeartbeats 1000000 in
theorem name_any (k : Int) (w : World) : Calls Try.prog 34 #[.int .i64 k] w fun e w' => e = .returned (.string (nameV k)) ∧ Ext w w' := by
  by_cases hk : k < 1 ∨ 5 < k
  · rw [nameV_odd hk]
    have e1 : (k == 1) = false := beq_eq_false_iff_ne.2 (by omega)
    have e2 : (k == 2) = false := beq_eq_false_iff_ne.2 (by omega)
    have e3 : (k == 3) = false := beq_eq_false_iff_ne.2 (by omega)
    have e4 : (k == 4) = false := beq_eq_false_iff_ne.2 (by omega)
    have e5 : (k == 5) = false := beq_eq_false_iff_ne.2 (by omega)
    clear hk
    go_enter Try.func34, Try.ntmps34
    go_wp2
    go_ret
    exact ⟨rfl, Ext.refl _⟩
  · have hk5 : k = 1 ∨ k = 2 ∨ k = 3 ∨ k = 4 ∨ k = 5 := by omega
    clear hk
    rcases hk5 with rfl | rfl | rfl | rfl | rfl
    all_goals
      go_enter Try.func34, Try.ntmps34
      go_wp2
      go_ret
      exact ⟨rfl, Ext.refl _⟩
set_option maxRecDepth 100000 in
set_option maxHeartbeats 1000000 in
theorem refname_any (k : Int) (w : World) : Calls Try.prog 35 #[.int .i64 k] w fun e w' => e = .returned (.string (nameV k)) ∧ Ext w w' := by
  have hx : Ext w (w.alloc (.cells #[.string ⟨#[110, 111, 110, 101]⟩, .string ⟨#[115, 116, 114, 105, 110, 103]⟩, .string ⟨#[104, 97, 115, 104]⟩, .string ⟨#[108, 105, 115, 116]⟩, .string ⟨#[115, 101, 116]⟩, .string ⟨#[122, 115, 101, 116]⟩] 9)) := (Ext.refl w).alloc _
  by_cases hk : k < 1
  · rw [nameV_odd (.inl hk)]
    have hd : decide (k < 1) = true := decide_eq_true hk
    go_enter Try.func35, Try.ntmps35
    go_wp2
    go_ret
    exact ⟨rfl, hx⟩
  · by_cases hk2 : 5 < k
    · rw [nameV_odd (.inr hk2)]
      have hd : decide (k < 1) = false := decide_eq_false hk
      have hd2 : decide (5 < k) = true := decide_eq_true hk2
      go_enter Try.func35, Try.ntmps35
      go_wp2
      go_ret
      exact ⟨rfl, hx⟩
    · have hk5 : k = 1 ∨ k = 2 ∨ k = 3 ∨ k = 4 ∨ k = 5 := by omega
      clear hk hk2
      rcases hk5 with rfl | rfl | rfl | rfl | rfl
      all_goals
        have c1 := box1 w #[.string ⟨#[110, 111, 110, 101]⟩, .string ⟨#[115, 116, 114, 105, 110, 103]⟩, .string ⟨#[104, 97, 115, 104]⟩, .string ⟨#[108, 105, 115, 116]⟩, .string ⟨#[115, 101, 116]⟩, .string ⟨#[122, 115, 101, 116]⟩] 9 (g := w.heap.size) (i := 1) rfl rfl
        have c2 := box1 w #[.string ⟨#[110, 111, 110, 101]⟩, .string ⟨#[115, 116, 114, 105, 110, 103]⟩, .string ⟨#[104, 97, 115, 104]⟩, .string ⟨#[108, 105, 115, 116]⟩, .string ⟨#[115, 101, 116]⟩, .string ⟨#[122, 115, 101, 116]⟩] 9 (g := w.heap.size) (i := 2) rfl rfl
        have c3 := box1 w #[.string ⟨#[110, 111, 110, 101]⟩, .string ⟨#[115, 116, 114, 105, 110, 103]⟩, .string ⟨#[104, 97, 115, 104]⟩, .string ⟨#[108, 105, 115, 116]⟩, .string ⟨#[115, 101, 116]⟩, .string ⟨#[122, 115, 101, 116]⟩] 9 (g := w.heap.size) (i := 3) rfl rfl
        have c4 := box1 w #[.string ⟨#[110, 111, 110, 101]⟩, .string ⟨#[115, 116, 114, 105, 110, 103]⟩, .string ⟨#[104, 97, 115, 104]⟩, .string ⟨#[108, 105, 115, 116]⟩, .string ⟨#[115, 101, 116]⟩, .string ⟨#[122, 115, 101, 116]⟩] 9 (g := w.heap.size) (i := 4) rfl rfl
        have c5 := box1 w #[.string ⟨#[110, 111, 110, 101]⟩, .string ⟨#[115, 116, 114, 105, 110, 103]⟩, .string ⟨#[104, 97, 115, 104]⟩, .string ⟨#[108, 105, 115, 116]⟩, .string ⟨#[115, 101, 116]⟩, .string ⟨#[122, 115, 101, 116]⟩] 9 (g := w.heap.size) (i := 5) rfl rfl
        go_enter Try.func35, Try.ntmps35
        go_wp2
        go_ret
        exact ⟨rfl, hx⟩
set_option maxRecDepth 100000 in
set_option maxHeartbeats 400000 in
theorem refsize_any (x : Val) (p t z : Value) (w : World) (hx : Parts w p t z x) (hs : x.text.size ≤ maxLen) (hb : x.pairs.length ≤ 100000 ∧ x.texts.length ≤ 100000 ∧ x.zset.length ≤ 100000) :
    Calls Try.prog 33 #[.agg #[.int .i64 x.kind, .string x.text, p, t, z]] w fun e w' => e = .returned (.int .i64 (sizeV x)) ∧ Ext w w' := by
  obtain ⟨k, s, P, T, Z⟩ := x
  obtain ⟨hp, ht, hz⟩ := hx
  obtain ⟨a1, c1, rfl, hp1, hp2⟩ := len_of' hp
  obtain ⟨a2, c2, rfl, ht1, ht2⟩ := len_of' ht
  obtain ⟨a3, c3, rfl, hz1, hz2⟩ := len_of' hz
  simp only at hs hb
  unfold maxLen at hs
  obtain ⟨hb1, hb2, hb3⟩ := hb
  clear hp ht hz
  have hx0 : Ext w (w.alloc (.cells #[.int .i64 k, .string s, .slice a1 P.length c1, .slice a2 T.length c2, .slice a3 Z.length c3] 30)) := (Ext.refl w).alloc _
  by_cases hk : k = 1
  · subst hk
    go_enter Try.func33, Try.ntmps33
    go_wp2
    go_ret
    exact ⟨by unfold sizeV; simp, hx0⟩
  · have hkk : (k == 1) = false := beq_eq_false_iff_ne.2 hk
    have Hk := Lib.hid hk
    clear hk
    go_enter Try.func33, Try.ntmps33
    go_wp2
    go_ret
    exact ⟨by unfold sizeV; simp [Hk.out], hx0⟩
end Go.Proofs.Ythclkljdnmokcaa
