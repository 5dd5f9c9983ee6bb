/-
  Values, and versions, compared by the reference: walked.
-/
import Derived.Test.YthclkljdnmokcaaSameV
set_option linter.unusedVariables false
set_option linter.unusedSimpArgs false
namespace Go.Proofs.Ythclkljdnmokcaa
open Go.RowKit Go.Proofs

theorem beq_str (a b : ByteArray) : (a.toList == b.toList) = decide (a = b) := by
  by_cases h : a = b
  · subst h; simp
  · rw [decide_eq_false h, beq_eq_false_iff_ne]; exact fun e => h (lstr_ext e)
theorem box1 (w : World) (cs : Array Value) (ty : TypeId) {g i : Nat} {v : Value} (hg : g = w.heap.size) (h : cs[i]? = some v) : (w.alloc (.cells cs ty)).cell? ⟨g, i, none⟩ = some v := by
  subst hg
  have e := heap_alloc_new w (.cells cs ty)
  simp only [World.cell?, e]
  exact h
theorem box2 (w : World) (cs cs2 : Array Value) (ty ty2 : TypeId) {g i : Nat} {v : Value} (hg : g = w.heap.size) (h : cs[i]? = some v) : ((w.alloc (.cells cs ty)).alloc (.cells cs2 ty2)).cell? ⟨g, i, none⟩ = some v :=
  ((Ext.refl _).alloc _).cell (box1 w cs ty hg h)
set_option maxRecDepth 100000 in
set_option maxHeartbeats 1000000 in
theorem same14 (x y : Val) (p t z p2 t2 z2 : Value) (w : World) (hx : Parts w p t z x) (hy : Parts w p2 t2 z2 y) :
    Calls Try.prog 20 #[.agg #[.int .i64 x.kind, .string x.text, p, t, z], .agg #[.int .i64 y.kind, .string y.text, p2, t2, z2]] w fun e w' => e = .returned (.bool (decide (x = y))) ∧ Ext w w' := by
  obtain ⟨k1, s1, P1, T1, Z1⟩ := x
  obtain ⟨k2, s2, P2, T2, Z2⟩ := y
  obtain ⟨hp1, ht1, hz1⟩ := hx
  obtain ⟨hp2, ht2, hz2⟩ := hy
  simp only at hp1 ht1 hz1 hp2 ht2 hz2
  have hx0 : Ext w ((w.alloc (.cells #[.int .i64 k1, .string s1, p, t, z] 30)).alloc (.cells #[.int .i64 k2, .string s2, p2, t2, z2] 30)) := ((Ext.refl w).alloc _).alloc _
  have hd : decide ((⟨k1, s1, P1, T1, Z1⟩ : Val) = ⟨k2, s2, P2, T2, Z2⟩) = (decide (k1 = k2) && (decide (s1 = s2) && (decide (P1 = P2) && (decide (T1 = T2) && decide (Z1 = Z2))))) := by
    rw [Bool.eq_iff_iff]; simp
  rw [hd]
  clear hd
  by_cases hk : k1 = k2
  · subst hk
    rw [decide_eq_true rfl, Bool.true_and]
    by_cases hs : s1 = s2
    · subst hs
      have hss : (s1.toList == s1.toList) = true := by simp
      rw [decide_eq_true rfl, Bool.true_and]
      cases hP : decide (P1 = P2) with
      | false =>
        have HP := Lib.hid hP
        rw [Bool.false_and]
        clear hP
        go_enter Try.func20, Try.ntmps20
        go_wp2_with fail
        refine (same_P p p2 P1 P2 _ (hp1.mono rPr_mono hx0) (hp2.mono rPr_mono hx0)).mono ?_
        rintro e w1 ⟨rfl, hx1⟩
        rw [HP.out]
        go_wp2
        go_ret
        exact ⟨rfl, hx0.then hx1⟩
      | true =>
        have HP := Lib.hid hP
        rw [Bool.true_and]
        clear hP
        cases hT : decide (T1 = T2) with
        | false =>
          have HT := Lib.hid hT
          rw [Bool.false_and]
          clear hT
          go_enter Try.func20, Try.ntmps20
          go_wp2_with fail
          refine (same_P p p2 P1 P2 _ (hp1.mono rPr_mono hx0) (hp2.mono rPr_mono hx0)).mono ?_
          rintro e w1 ⟨rfl, hx1⟩
          rw [HP.out]
          have ca3 := hx1.cell (box2 w #[.int .i64 k1, .string s1, p, t, z] #[.int .i64 k1, .string s1, p2, t2, z2] 30 30 (i := 3) rfl rfl)
          have ca4 := hx1.cell (box2 w #[.int .i64 k1, .string s1, p, t, z] #[.int .i64 k1, .string s1, p2, t2, z2] 30 30 (i := 4) rfl rfl)
          have cb3 := hx1.cell (box1 (w.alloc (.cells #[.int .i64 k1, .string s1, p, t, z] 30)) #[.int .i64 k1, .string s1, p2, t2, z2] 30 (g := w.heap.size + 1) (i := 3) (by simp) rfl)
          have cb4 := hx1.cell (box1 (w.alloc (.cells #[.int .i64 k1, .string s1, p, t, z] 30)) #[.int .i64 k1, .string s1, p2, t2, z2] 30 (g := w.heap.size + 1) (i := 4) (by simp) rfl)
          have hxw1 := hx0.then hx1
          clear hx0 hx1
          go_wp2_with fail
          refine (same_S t t2 T1 T2 _ (ht1.mono rStr_mono hxw1) (ht2.mono rStr_mono hxw1)).mono ?_
          rintro e w2 ⟨rfl, hx2⟩
          have ca4' := hx2.cell ca4
          have cb4' := hx2.cell cb4
          have hxw2 := hxw1.then hx2
          clear ca3 ca4 cb3 cb4 hxw1 hx2
          rw [HT.out]
          go_wp2
          go_ret
          exact ⟨rfl, hxw2⟩
        | true =>
          have HT := Lib.hid hT
          rw [Bool.true_and]
          clear hT
          go_enter Try.func20, Try.ntmps20
          go_wp2_with fail
          refine (same_P p p2 P1 P2 _ (hp1.mono rPr_mono hx0) (hp2.mono rPr_mono hx0)).mono ?_
          rintro e w1 ⟨rfl, hx1⟩
          rw [HP.out]
          have ca3 := hx1.cell (box2 w #[.int .i64 k1, .string s1, p, t, z] #[.int .i64 k1, .string s1, p2, t2, z2] 30 30 (i := 3) rfl rfl)
          have ca4 := hx1.cell (box2 w #[.int .i64 k1, .string s1, p, t, z] #[.int .i64 k1, .string s1, p2, t2, z2] 30 30 (i := 4) rfl rfl)
          have cb3 := hx1.cell (box1 (w.alloc (.cells #[.int .i64 k1, .string s1, p, t, z] 30)) #[.int .i64 k1, .string s1, p2, t2, z2] 30 (g := w.heap.size + 1) (i := 3) (by simp) rfl)
          have cb4 := hx1.cell (box1 (w.alloc (.cells #[.int .i64 k1, .string s1, p, t, z] 30)) #[.int .i64 k1, .string s1, p2, t2, z2] 30 (g := w.heap.size + 1) (i := 4) (by simp) rfl)
          have hxw1 := hx0.then hx1
          clear hx0 hx1
          go_wp2_with fail
          refine (same_S t t2 T1 T2 _ (ht1.mono rStr_mono hxw1) (ht2.mono rStr_mono hxw1)).mono ?_
          rintro e w2 ⟨rfl, hx2⟩
          have ca4' := hx2.cell ca4
          have cb4' := hx2.cell cb4
          have hxw2 := hxw1.then hx2
          clear ca3 ca4 cb3 cb4 hxw1 hx2
          rw [HT.out]
          go_wp2_with fail
          refine (same_M z z2 Z1 Z2 _ (hz1.mono rMb_mono hxw2) (hz2.mono rMb_mono hxw2)).mono ?_
          rintro e w3 ⟨rfl, hx3⟩
          go_wp2
          go_ret
          exact ⟨rfl, hxw2.then hx3⟩
    · have hss : (s1.toList == s2.toList) = false := by rw [beq_str]; exact decide_eq_false hs
      rw [decide_eq_false hs, Bool.false_and]
      clear hs
      go_enter Try.func20, Try.ntmps20
      go_wp2
      go_ret
      exact ⟨rfl, hx0⟩
  · have hkk : (k1 == k2) = false := beq_eq_false_iff_ne.2 hk
    rw [decide_eq_false hk, Bool.false_and]
    clear hk
    go_enter Try.func20, Try.ntmps20
    go_wp2
    go_ret
    exact ⟨rfl, hx0⟩
/-- a version's value -/
def verV (x : Ver) (p t z : Value) : Value := .agg #[.int .i64 x.stamp, .bool x.gone, .int .i64 x.expire, .int .i64 x.val.kind, .string x.val.text, p, t, z]
set_option maxRecDepth 100000 in
set_option maxHeartbeats 1000000 in
theorem same1 (x y : Ver) (p t z p2 t2 z2 : Value) (w : World) (hx : Parts w p t z x.val) (hy : Parts w p2 t2 z2 y.val) :
    Calls Try.prog 14 #[verV x p t z, verV y p2 t2 z2] w fun e w' => e = .returned (.bool (decide (x = y))) ∧ Ext w w' := by
  obtain ⟨st1, g1, x1, v1⟩ := x
  obtain ⟨st2, g2, x2, v2⟩ := y
  have hx0 : Ext w ((w.alloc (.cells #[.int .i64 st1, .bool g1, .int .i64 x1, .int .i64 v1.kind, .string v1.text, p, t, z] 32)).alloc (.cells #[.int .i64 st2, .bool g2, .int .i64 x2, .int .i64 v2.kind, .string v2.text, p2, t2, z2] 32)) := ((Ext.refl w).alloc _).alloc _
  have hd : decide ((⟨st1, g1, x1, v1⟩ : Ver) = ⟨st2, g2, x2, v2⟩) = (decide (st1 = st2) && (decide (g1 = g2) && (decide (x1 = x2) && decide (v1 = v2)))) := by
    rw [Bool.eq_iff_iff]; simp
  rw [hd]
  clear hd
  unfold verV
  by_cases hk : st1 = st2
  · subst hk
    rw [decide_eq_true rfl, Bool.true_and]
    by_cases hg : g1 = g2
    · subst hg
      have hgg : (g1 == g1) = true := by simp
      rw [decide_eq_true rfl, Bool.true_and]
      by_cases he : x1 = x2
      · subst he
        rw [decide_eq_true rfl, Bool.true_and]
        go_enter Try.func14, Try.ntmps14
        go_wp2_with fail
        refine (same14 v1 v2 p t z p2 t2 z2 _ (hx.mono hx0) (hy.mono hx0)).mono ?_
        rintro e w3 ⟨rfl, hx3⟩
        go_wp2
        go_ret
        exact ⟨rfl, hx0.then hx3⟩
      · have hkk : (x1 == x2) = false := beq_eq_false_iff_ne.2 he
        rw [decide_eq_false he, Bool.false_and]
        clear he
        go_enter Try.func14, Try.ntmps14
        go_wp2
        go_ret
        exact ⟨rfl, hx0⟩
    · have hgg : (g1 == g2) = false := beq_eq_false_iff_ne.2 hg
      rw [decide_eq_false hg, Bool.false_and]
      clear hg
      go_enter Try.func14, Try.ntmps14
      go_wp2
      go_ret
      exact ⟨rfl, hx0⟩
  · have hkk : (st1 == st2) = false := beq_eq_false_iff_ne.2 hk
    rw [decide_eq_false hk, Bool.false_and]
    clear hk
    go_enter Try.func14, Try.ntmps14
    go_wp2
    go_ret
    exact ⟨rfl, hx0⟩
end Go.Proofs.Ythclkljdnmokcaa
