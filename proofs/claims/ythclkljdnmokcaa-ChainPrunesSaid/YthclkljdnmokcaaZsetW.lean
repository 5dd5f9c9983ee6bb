/-
  zset.long, zset.order, zset.find: walked.
-/
import Derived.Test.YthclkljdnmokcaaHashRight
import Derived.Test.YthclkljdnmokcaaUpTo
set_option linter.unusedVariables false
set_option linter.unusedSimpArgs false
namespace Go.Proofs.Ythclkljdnmokcaa
open Go.RowKit Go.Proofs

set_option maxRecDepth 100000 in
set_option maxHeartbeats 400000 in
theorem zlong_any (n : Int) (s : ByteArray) (w : World) (hs : s.size ≤ maxLen) : Calls Try.prog 82 #[.agg #[.int .i64 n, .string s]] w fun e w' => e = .returned (.bool (longB s)) ∧ Ext w w' := by
  unfold maxLen at hs
  unfold longB
  go_enter Try.func82, Try.ntmps82
  go_wp2
  go_ret
  exact ⟨by show Ending.returned (Value.bool _) = _; congr 2; exact decide_eq_decide.2 (by omega), (Ext.refl w).alloc _⟩
def cmpS (a b : ByteArray) : Int := if Op.bytesLess a.toList b.toList then -1 else if Op.bytesLess b.toList a.toList then 1 else 0
theorem bl_irr (a : List UInt8) : Op.bytesLess a a = false := by
  induction a with
  | nil => rfl
  | cons x a ih => simp [Op.bytesLess, ih]
theorem bl_tri (a b : List UInt8) (h1 : Op.bytesLess a b = false) (h2 : Op.bytesLess b a = false) : a = b := by
  induction a generalizing b with
  | nil => cases b with
    | nil => rfl
    | cons y b => simp [Op.bytesLess] at h1
  | cons x a ih => cases b with
    | nil => simp [Op.bytesLess] at h2
    | cons y b =>
      simp only [Op.bytesLess, Bool.or_eq_false_iff, decide_eq_false_iff_not] at h1 h2
      have e : x = y := by
        have g1 := h1.1
        have g2 := h2.1
        rw [UInt8.lt_iff_toNat_lt] at g1 g2
        exact UInt8.toNat_inj.1 (by omega)
      subst e
      simp at h1 h2
      rw [ih b h1 h2]
set_option maxRecDepth 100000 in
set_option maxHeartbeats 400000 in
theorem cmps_any (a b : ByteArray) (w : World) : Calls Try.prog 87 #[.string a, .string b] w fun e w' => e = .returned (.int .i64 (cmpS a b)) ∧ w' = w := by
  have hx : (a.toList == a.toList) = true := by simp
  have hy : (b.toList == b.toList) = true := by simp
  unfold cmpS
  cases h1 : Op.bytesLess a.toList b.toList with
  | true =>
    go_enter Try.func87, Try.ntmps87
    go_wp2
    all_goals first | (go_ret; exact ⟨rfl, rfl⟩) | (exfalso; simp_all; done)
  | false =>
    cases h2 : Op.bytesLess b.toList a.toList with
    | true =>
      have hq : (a.toList == b.toList) = false := beq_eq_false_iff_ne.2 (fun e => by rw [e, bl_irr] at h2; cases h2)
      go_enter Try.func87, Try.ntmps87
      go_wp2
      all_goals first | (go_ret; exact ⟨rfl, rfl⟩) | (exfalso; simp_all; done)
    | false =>
      have hq : (a.toList == b.toList) = true := beq_iff_eq.2 (bl_tri _ _ h1 h2)
      go_enter Try.func87, Try.ntmps87
      go_wp2
      all_goals first | (go_ret; exact ⟨rfl, rfl⟩) | (exfalso; simp_all; done)
set_option maxRecDepth 100000 in
set_option maxHeartbeats 400000 in
theorem zorder_any (x y : Int × ByteArray) (w : World) :
    Calls Try.prog 83 #[.agg #[.int .i64 x.1, .string x.2], .agg #[.int .i64 y.1, .string y.2]] w fun e w' => e = .returned (.int .i64 (if cmpZ x.1 y.1 ≠ 0 then cmpZ x.1 y.1 else cmpS x.2 y.2)) ∧ Ext w w' := by
  obtain ⟨n, s⟩ := x
  obtain ⟨m, t⟩ := y
  simp only
  have hx0 : Ext w ((w.alloc (.cells #[.int .i64 n, .string s] 45)).alloc (.cells #[.int .i64 m, .string t] 45)) := ((Ext.refl w).alloc _).alloc _
  generalize hc : cmpZ n m = c
  have Hc := Lib.hid hc
  clear hc
  by_cases h0 : c = 0
  · have hne : (c != 0) = false := by rw [h0]; rfl
    rw [if_neg (by simp [h0])]
    clear h0
    go_enter Try.func83, Try.ntmps83
    go_wp2_with fail
    refine (cmp_any n m _).mono ?_
    rintro e w1 ⟨rfl, hw1⟩
    rw [hw1, Hc.out]
    clear hw1
    go_wp2_with fail
    refine (cmps_any s t _).mono ?_
    rintro e w2 ⟨rfl, hw2⟩
    rw [hw2]
    go_wp2
    go_ret
    exact ⟨rfl, hx0⟩
  · have hne : (c != 0) = true := bne_iff_ne.2 h0
    rw [if_pos h0]
    clear h0
    go_enter Try.func83, Try.ntmps83
    go_wp2_with fail
    refine (cmp_any n m _).mono ?_
    rintro e w1 ⟨rfl, hw1⟩
    rw [hw1, Hc.out]
    clear hw1
    go_wp2
    go_ret
    exact ⟨rfl, hx0⟩
end Go.Proofs.Ythclkljdnmokcaa
