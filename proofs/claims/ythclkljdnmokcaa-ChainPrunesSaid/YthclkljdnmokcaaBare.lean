/-
  value.bare, walked.
-/
import Derived.Test.YthclkljdnmokcaaPackAll
import Derived.Test.YthclkljdnmokcaaLess
set_option linter.unusedVariables false
set_option linter.unusedSimpArgs false
namespace Go.Proofs.Ythclkljdnmokcaa
open Go.RowKit Go.Proofs

set_option maxRecDepth 100000 in
set_option maxHeartbeats 1000000 in
theorem bare_str (x : Val) (p t z : Value) (w : World) (hx : Parts w p t z x) :
    Calls Try.prog 63 #[.agg #[.int .i64 x.kind, .string x.text, p, t, z], .bool true, .bool false, .bool false, .bool false] w fun e w' => e = .returned (.bool (decide (x.pairs.length = 0) && (decide (x.texts.length = 0) && decide (x.zset.length = 0)))) ∧ Ext w w' := by
  obtain ⟨k, s, P, T, Z⟩ := x
  obtain ⟨hp, ht, hz⟩ := hx
  obtain ⟨a1, c1, rfl, hp1, hp2⟩ := len_of' hp
  obtain ⟨a2, c2, rfl, ht1, ht2⟩ := len_of' ht
  obtain ⟨a3, c3, rfl, hz1, hz2⟩ := len_of' hz
  simp only at hp1 ht1 hz1 ⊢
  clear hp ht hz
  have hx0 : Ext w (w.alloc (.cells #[.int .i64 k, .string s, .slice a1 P.length c1, .slice a2 T.length c2, .slice a3 Z.length c3] 30)) := (Ext.refl w).alloc _
  by_cases hP0 : P.length = 0
  · rw [decide_eq_true hP0, Bool.true_and]
    have gP : ((P.length : Int) == 0) = true := by rw [hP0]; rfl
    clear hP0
    by_cases hT0 : T.length = 0
    · rw [decide_eq_true hT0, Bool.true_and]
      have gT : ((T.length : Int) == 0) = true := by rw [hT0]; rfl
      clear hT0
      by_cases hZ0 : Z.length = 0
      · rw [decide_eq_true hZ0]
        have gZ : ((Z.length : Int) == 0) = true := by rw [hZ0]; rfl
        clear hZ0
        go_enter Try.func63, Try.ntmps63
        go_wp2
        go_ret
        exact ⟨by first | rfl | simp, hx0⟩
      · rw [decide_eq_false hZ0]
        have gZ : ((Z.length : Int) == 0) = false := beq_eq_false_iff_ne.2 (by omega)
        clear hZ0
        go_enter Try.func63, Try.ntmps63
        go_wp2
        go_ret
        exact ⟨by first | rfl | simp, hx0⟩
    · rw [decide_eq_false hT0, Bool.false_and]
      have gT : ((T.length : Int) == 0) = false := beq_eq_false_iff_ne.2 (by omega)
      clear hT0
      go_enter Try.func63, Try.ntmps63
      go_wp2
      go_ret
      exact ⟨by first | rfl | simp, hx0⟩
  · rw [decide_eq_false hP0, Bool.false_and]
    have gP : ((P.length : Int) == 0) = false := beq_eq_false_iff_ne.2 (by omega)
    clear hP0
    go_enter Try.func63, Try.ntmps63
    go_wp2
    go_ret
    exact ⟨by first | rfl | simp, hx0⟩
set_option maxRecDepth 100000 in
set_option maxHeartbeats 1000000 in
theorem bare_hash (x : Val) (p t z : Value) (w : World) (hx : Parts w p t z x) :
    Calls Try.prog 63 #[.agg #[.int .i64 x.kind, .string x.text, p, t, z], .bool false, .bool true, .bool false, .bool false] w fun e w' => e = .returned (.bool (decide (x.text = ByteArray.empty) && (decide (x.texts.length = 0) && decide (x.zset.length = 0)))) ∧ Ext w w' := by
  obtain ⟨k, s, P, T, Z⟩ := x
  obtain ⟨hp, ht, hz⟩ := hx
  obtain ⟨a1, c1, rfl, hp1, hp2⟩ := len_of' hp
  obtain ⟨a2, c2, rfl, ht1, ht2⟩ := len_of' ht
  obtain ⟨a3, c3, rfl, hz1, hz2⟩ := len_of' hz
  simp only at hp1 ht1 hz1 ⊢
  clear hp ht hz
  have hx0 : Ext w (w.alloc (.cells #[.int .i64 k, .string s, .slice a1 P.length c1, .slice a2 T.length c2, .slice a3 Z.length c3] 30)) := (Ext.refl w).alloc _
  by_cases hs0 : s = ByteArray.empty
  · rw [decide_eq_true hs0, Bool.true_and]
    have he1 : (s.toList == ([] : List UInt8)) = true := by rw [hs0]; simp
    have he2 : s.toList.isEmpty = true := by rw [hs0]; simp
    clear hs0
    by_cases hT0 : T.length = 0
    · rw [decide_eq_true hT0, Bool.true_and]
      have gT : ((T.length : Int) == 0) = true := by rw [hT0]; rfl
      clear hT0
      by_cases hZ0 : Z.length = 0
      · rw [decide_eq_true hZ0]
        have gZ : ((Z.length : Int) == 0) = true := by rw [hZ0]; rfl
        clear hZ0
        go_enter Try.func63, Try.ntmps63
        go_wp2
        go_ret
        exact ⟨by first | rfl | simp, hx0⟩
      · rw [decide_eq_false hZ0]
        have gZ : ((Z.length : Int) == 0) = false := beq_eq_false_iff_ne.2 (by omega)
        clear hZ0
        go_enter Try.func63, Try.ntmps63
        go_wp2
        go_ret
        exact ⟨by first | rfl | simp, hx0⟩
    · rw [decide_eq_false hT0, Bool.false_and]
      have gT : ((T.length : Int) == 0) = false := beq_eq_false_iff_ne.2 (by omega)
      clear hT0
      go_enter Try.func63, Try.ntmps63
      go_wp2
      go_ret
      exact ⟨by first | rfl | simp, hx0⟩
  · rw [decide_eq_false hs0, Bool.false_and]
    have he1 : (s.toList == ([] : List UInt8)) = false := by
      have h := beq_str s ByteArray.empty
      rw [decide_eq_false hs0] at h
      simpa using h
    have he2 : s.toList.isEmpty = false := by cases hl : s.toList with | nil => rw [hl] at he1; simp at he1 | cons a b => rfl
    clear hs0
    go_enter Try.func63, Try.ntmps63
    go_wp2
    go_ret
    exact ⟨by first | rfl | simp, hx0⟩
set_option maxRecDepth 100000 in
set_option maxHeartbeats 1000000 in
theorem bare_list (x : Val) (p t z : Value) (w : World) (hx : Parts w p t z x) :
    Calls Try.prog 63 #[.agg #[.int .i64 x.kind, .string x.text, p, t, z], .bool false, .bool false, .bool true, .bool false] w fun e w' => e = .returned (.bool (decide (x.text = ByteArray.empty) && (decide (x.pairs.length = 0) && decide (x.zset.length = 0)))) ∧ Ext w w' := by
  obtain ⟨k, s, P, T, Z⟩ := x
  obtain ⟨hp, ht, hz⟩ := hx
  obtain ⟨a1, c1, rfl, hp1, hp2⟩ := len_of' hp
  obtain ⟨a2, c2, rfl, ht1, ht2⟩ := len_of' ht
  obtain ⟨a3, c3, rfl, hz1, hz2⟩ := len_of' hz
  simp only at hp1 ht1 hz1 ⊢
  clear hp ht hz
  have hx0 : Ext w (w.alloc (.cells #[.int .i64 k, .string s, .slice a1 P.length c1, .slice a2 T.length c2, .slice a3 Z.length c3] 30)) := (Ext.refl w).alloc _
  by_cases hs0 : s = ByteArray.empty
  · rw [decide_eq_true hs0, Bool.true_and]
    have he1 : (s.toList == ([] : List UInt8)) = true := by rw [hs0]; simp
    have he2 : s.toList.isEmpty = true := by rw [hs0]; simp
    clear hs0
    by_cases hP0 : P.length = 0
    · rw [decide_eq_true hP0, Bool.true_and]
      have gP : ((P.length : Int) == 0) = true := by rw [hP0]; rfl
      clear hP0
      by_cases hZ0 : Z.length = 0
      · rw [decide_eq_true hZ0]
        have gZ : ((Z.length : Int) == 0) = true := by rw [hZ0]; rfl
        clear hZ0
        go_enter Try.func63, Try.ntmps63
        go_wp2
        go_ret
        exact ⟨by first | rfl | simp, hx0⟩
      · rw [decide_eq_false hZ0]
        have gZ : ((Z.length : Int) == 0) = false := beq_eq_false_iff_ne.2 (by omega)
        clear hZ0
        go_enter Try.func63, Try.ntmps63
        go_wp2
        go_ret
        exact ⟨by first | rfl | simp, hx0⟩
    · rw [decide_eq_false hP0, Bool.false_and]
      have gP : ((P.length : Int) == 0) = false := beq_eq_false_iff_ne.2 (by omega)
      clear hP0
      go_enter Try.func63, Try.ntmps63
      go_wp2
      go_ret
      exact ⟨by first | rfl | simp, hx0⟩
  · rw [decide_eq_false hs0, Bool.false_and]
    have he1 : (s.toList == ([] : List UInt8)) = false := by
      have h := beq_str s ByteArray.empty
      rw [decide_eq_false hs0] at h
      simpa using h
    have he2 : s.toList.isEmpty = false := by cases hl : s.toList with | nil => rw [hl] at he1; simp at he1 | cons a b => rfl
    clear hs0
    go_enter Try.func63, Try.ntmps63
    go_wp2
    go_ret
    exact ⟨by first | rfl | simp, hx0⟩
set_option maxRecDepth 100000 in
set_option maxHeartbeats 1000000 in
theorem bare_zset (x : Val) (p t z : Value) (w : World) (hx : Parts w p t z x) :
    Calls Try.prog 63 #[.agg #[.int .i64 x.kind, .string x.text, p, t, z], .bool false, .bool false, .bool false, .bool true] w fun e w' => e = .returned (.bool (decide (x.text = ByteArray.empty) && (decide (x.pairs.length = 0) && decide (x.texts.length = 0)))) ∧ Ext w w' := by
  obtain ⟨k, s, P, T, Z⟩ := x
  obtain ⟨hp, ht, hz⟩ := hx
  obtain ⟨a1, c1, rfl, hp1, hp2⟩ := len_of' hp
  obtain ⟨a2, c2, rfl, ht1, ht2⟩ := len_of' ht
  obtain ⟨a3, c3, rfl, hz1, hz2⟩ := len_of' hz
  simp only at hp1 ht1 hz1 ⊢
  clear hp ht hz
  have hx0 : Ext w (w.alloc (.cells #[.int .i64 k, .string s, .slice a1 P.length c1, .slice a2 T.length c2, .slice a3 Z.length c3] 30)) := (Ext.refl w).alloc _
  by_cases hs0 : s = ByteArray.empty
  · rw [decide_eq_true hs0, Bool.true_and]
    have he1 : (s.toList == ([] : List UInt8)) = true := by rw [hs0]; simp
    have he2 : s.toList.isEmpty = true := by rw [hs0]; simp
    clear hs0
    by_cases hP0 : P.length = 0
    · rw [decide_eq_true hP0, Bool.true_and]
      have gP : ((P.length : Int) == 0) = true := by rw [hP0]; rfl
      clear hP0
      by_cases hT0 : T.length = 0
      · rw [decide_eq_true hT0]
        have gT : ((T.length : Int) == 0) = true := by rw [hT0]; rfl
        clear hT0
        go_enter Try.func63, Try.ntmps63
        go_wp2
        go_ret
        exact ⟨by first | rfl | simp, hx0⟩
      · rw [decide_eq_false hT0]
        have gT : ((T.length : Int) == 0) = false := beq_eq_false_iff_ne.2 (by omega)
        clear hT0
        go_enter Try.func63, Try.ntmps63
        go_wp2
        go_ret
        exact ⟨by first | rfl | simp, hx0⟩
    · rw [decide_eq_false hP0, Bool.false_and]
      have gP : ((P.length : Int) == 0) = false := beq_eq_false_iff_ne.2 (by omega)
      clear hP0
      go_enter Try.func63, Try.ntmps63
      go_wp2
      go_ret
      exact ⟨by first | rfl | simp, hx0⟩
  · rw [decide_eq_false hs0, Bool.false_and]
    have he1 : (s.toList == ([] : List UInt8)) = false := by
      have h := beq_str s ByteArray.empty
      rw [decide_eq_false hs0] at h
      simpa using h
    have he2 : s.toList.isEmpty = false := by cases hl : s.toList with | nil => rw [hl] at he1; simp at he1 | cons a b => rfl
    clear hs0
    go_enter Try.func63, Try.ntmps63
    go_wp2
    go_ret
    exact ⟨by first | rfl | simp, hx0⟩
end Go.Proofs.Ythclkljdnmokcaa
