/-
  Where a stamp lies in a chain: walked.
-/
import Derived.Test.YthclkljdnmokcaaSame14
set_option linter.unusedVariables false
set_option linter.unusedSimpArgs false
namespace Go.Proofs.Ythclkljdnmokcaa
open Go.RowKit Go.Proofs

def cmpZ (x y : Int) : Int := if x < y then -1 else if y < x then 1 else 0
set_option maxRecDepth 100000 in
set_option maxHeartbeats 400000 in
theorem cmp_any (x y : Int) (w : World) : Calls Try.prog 70 #[.int .i64 x, .int .i64 y] w fun e w' => e = .returned (.int .i64 (cmpZ x y)) ∧ w' = w := by
  have hx : (x != x) = false := by simp
  have hy : (y != y) = false := by simp
  unfold cmpZ
  by_cases h1 : x < y
  · rw [if_pos h1]
    go_enter Try.func70, Try.ntmps70
    go_wp2
    go_ret
    exact ⟨rfl, rfl⟩
  · rw [if_neg h1]
    by_cases h2 : y < x
    · rw [if_pos h2]
      go_enter Try.func70, Try.ntmps70
      go_wp2
      go_ret
      exact ⟨rfl, rfl⟩
    · rw [if_neg h2]
      go_enter Try.func70, Try.ntmps70
      go_wp2
      go_ret
      exact ⟨rfl, rfl⟩
set_option maxRecDepth 100000 in
set_option maxHeartbeats 400000 in
theorem clo15 (x : Ver) (p t z : Value) (n : Int) (w : World) : Calls Try.prog 69 #[verV x p t z, .int .i64 n] w fun e w' => e = .returned (.int .i64 (cmpZ x.stamp n)) ∧ Ext w w' := by
  unfold verV
  go_enter Try.func69, Try.ntmps69
  go_wp2_with fail
  refine (cmp_any x.stamp n _).mono ?_
  rintro e w1 ⟨rfl, rfl⟩
  go_wp2
  go_ret
  exact ⟨rfl, (Ext.refl w).alloc _⟩
/-- stamps rise -/
def Rising (l : List Ver) : Prop := ∀ (i j : Nat) (x y : Ver), l[i]? = some x → l[j]? = some y → i < j → x.stamp < y.stamp
theorem cmpZ_neg {x y : Int} (h : x < y) : cmpZ x y = -1 := if_pos h
theorem cmpZ_ge {x y : Int} (h : ¬ x < y) : 0 ≤ cmpZ x y := by unfold cmpZ; rw [if_neg h]; split <;> omega
theorem cmpZ_zero (x y : Int) : (cmpZ x y == 0) = decide (x = y) := by
  unfold cmpZ
  by_cases h : x = y
  · subst h; simp
  · rw [decide_eq_false h, beq_eq_false_iff_ne]
    split
    · omega
    · split <;> omega
set_option maxRecDepth 100000 in
set_option maxHeartbeats 1000000 in
theorem bsf_any (v : Value) (l : List Ver) (n : Int) (w : World) (hv : SliceOf rVer w v l) (hl : l.length ≤ 1000) (hr : Rising l) :
    Calls Try.prog 68 #[v, .int .i64 n, .func (Fn.func 69) #[] #[]] w fun e w' =>
      ∃ (k : Nat) (b : Bool), e = .returned (.tuple #[.int .i64 (k : Int), .bool b]) ∧ k ≤ l.length ∧ (∀ j x, l[j]? = some x → j < k → x.stamp < n) ∧ (∀ j x, l[j]? = some x → k ≤ j → n ≤ x.stamp) ∧ (b = true ↔ ∃ x, l[k]? = some x ∧ x.stamp = n) ∧ Ext w w' := by
  obtain ⟨a, cap, rfl, hle, hm, h0, _⟩ := id hv
  unfold maxLen at hm
  have Hr := Lib.hid hr
  clear hr
  go_enter Try.func68, Try.ntmps68
  go_wp2_with fail
  go_loopw [9, 10, 11] (fun iv jv _ wr => ∃ i j : Nat, iv = .int .i64 (i : Int) ∧ jv = .int .i64 (j : Int) ∧ i ≤ j ∧ j ≤ l.length ∧ (∀ k x, l[k]? = some x → k < i → x.stamp < n) ∧ (∀ k x, l[k]? = some x → j ≤ k → n ≤ x.stamp) ∧ Ext w wr) (fun iv jv _ _ => (intOf jv - intOf iv).toNat)
  case atStart => exact ⟨0, l.length, rfl, rfl, by omega, by omega, fun k x _ hk => by omega, fun k x hx hk => by have := (List.getElem?_eq_some_iff.1 hx).1; omega, Ext.refl _⟩
  case round =>
    obtain ⟨i, j, rfl, rfl, hij, hj, hlo, hhi, hx⟩ := hrel
    have Hlo := Lib.hid hlo
    have Hhi := Lib.hid hhi
    clear hlo hhi
    by_cases hlt : i < j
    · have hvr := hv.mono rVer_mono hx
      have hh1 : i ≤ (i + j) / 2 := by omega
      have hh2 : (i + j) / 2 < j := by omega
      generalize hhE : (i + j) / 2 = h at hh1 hh2
      obtain ⟨x, hxk⟩ : ∃ x, l[h]? = some x := ⟨_, List.getElem?_eq_getElem (by omega)⟩
      obtain ⟨g, o, p, t, z, rfl, hat, hok⟩ := hvr.atVer hxk
      obtain ⟨c0, c1, c2, c3, c4, c5, c6, c7⟩ := hat
      have hd : ((i : Int) + (j : Int)) / 2 = (h : Int) := by omega
      have Hxk := Lib.hid hxk
      have Hx := Lib.hid hx
      clear hxk hok hx hhE
      by_cases hc : x.stamp < n
      · have hcn : Hid (cmpZ x.stamp n = -1) := Lib.hid (cmpZ_neg hc)
        have Hlo2 : Hid (∀ k y, l[k]? = some y → k < h + 1 → y.stamp < n) := Lib.hid (fun k y hy hk => by
          by_cases e : k = h
          · rw [e, Hxk.out] at hy; cases hy; exact hc
          · have := Hr.out k h y x hy Hxk.out (by omega); omega)
        clear hc
        go_wp2_with fail
        refine (clo15 x p t z n _).mono ?_
        rintro e w1 ⟨rfl, hx1⟩
        rw [hcn.out]
        go_wp2_with fail
        exact ⟨⟨h + 1, j, by go_num, rfl, by omega, by omega, Hlo2.out, Hhi.out, Hx.out.then hx1⟩, by simp [intOf]; omega⟩
      · have hcn := cmpZ_ge hc
        have Hhi2 : Hid (∀ k y, l[k]? = some y → h ≤ k → n ≤ y.stamp) := Lib.hid (fun k y hy hk => by
          by_cases e : k = h
          · rw [e, Hxk.out] at hy; cases hy; omega
          · have := Hr.out h k x y Hxk.out hy (by omega); omega)
        clear hc
        generalize hcz : cmpZ x.stamp n = cz at hcn
        have Hcz := Lib.hid hcz
        clear hcz
        go_wp2_with fail
        refine (clo15 x p t z n _).mono ?_
        rintro e w1 ⟨rfl, hx1⟩
        rw [Hcz.out]
        go_wp2_with fail
        exact ⟨⟨i, h, rfl, rfl, by omega, by omega, Hlo.out, Hhi2.out, Hx.out.then hx1⟩, by simp [intOf]; omega⟩
    · obtain rfl : i = j := by omega
      by_cases hlt2 : i < l.length
      · have hvr := hv.mono rVer_mono hx
        obtain ⟨x, hxk⟩ : ∃ x, l[i]? = some x := ⟨_, List.getElem?_eq_getElem hlt2⟩
        obtain ⟨g, o, p, t, z, rfl, hat, hok⟩ := hvr.atVer hxk
        obtain ⟨c0, c1, c2, c3, c4, c5, c6, c7⟩ := hat
        have hcz := cmpZ_zero x.stamp n
        generalize hcE : cmpZ x.stamp n = cz at hcz
        have Hcz := Lib.hid hcE
        have Hxk := Lib.hid hxk
        have Hx := Lib.hid hx
        have Hc0 := Lib.hid hcz
        generalize hB : (cz == 0) = B at hcz
        have HB : Hid (decide (x.stamp = n) = B) := Lib.hid (by rw [← hcz])
        clear hxk hok hx hcE hcz Hc0
        go_wp2_with fail
        refine (clo15 x p t z n _).mono ?_
        rintro e w1 ⟨rfl, hx1⟩
        rw [Hcz.out]
        go_wp2_with fail
        go_ret2
        refine ⟨i, B, by first | rfl | (rw [hB]; rfl), hj, Hlo.out, Hhi.out, ?_, Hx.out.then hx1⟩
        rw [← HB.out, decide_eq_true_iff, Hxk.out]
        exact ⟨fun e => ⟨x, rfl, e⟩, fun ⟨y, e1, e2⟩ => by cases e1; exact e2⟩
      · have Hx := Lib.hid hx
        have Hno : Hid (l[i]? = none) := Lib.hid (List.getElem?_eq_none (by omega))
        clear hx
        go_wp2_with fail
        go_ret2
        exact ⟨i, false, rfl, hj, Hlo.out, Hhi.out, by rw [Hno.out]; simp, Hx.out⟩
/-- how many stamps aren't above one -/
def UpTo (l : List Ver) (n : Int) (k : Nat) : Prop := k ≤ l.length ∧ (∀ j x, l[j]? = some x → j < k → x.stamp ≤ n) ∧ (∀ j x, l[j]? = some x → k ≤ j → n < x.stamp)
set_option maxRecDepth 100000 in
set_option maxHeartbeats 1000000 in
theorem upTo_any (v : Value) (l : List Ver) (n : Int) (w : World) (hv : SliceOf rVer w v l) (hl : l.length ≤ 1000) (hr : Rising l) :
    Calls Try.prog 38 #[v, .int .i64 n] w fun e w' => ∃ k : Nat, e = .returned (.int .i64 (k : Int)) ∧ UpTo l n k ∧ Ext w w' := by
  go_enter Try.func38, Try.ntmps38
  go_wp2_with fail
  refine (bsf_any v l n _ hv hl hr).mono ?_
  rintro e w1 ⟨k, b, rfl, hk, hlo, hhi, hb, hx⟩
  cases b with
  | false =>
    have hup : UpTo l n k := ⟨hk, fun j x hx hj => by have := hlo j x hx hj; omega, fun j x hx hj => by
      have h1 := hhi j x hx hj
      by_cases e : j = k
      · subst e
        have h2 : x.stamp ≠ n := fun e => by have := hb.2 ⟨x, hx, e⟩; simp at this
        omega
      · obtain ⟨y, hy⟩ : ∃ y, l[k]? = some y := ⟨_, List.getElem?_eq_getElem (by have := (List.getElem?_eq_some_iff.1 hx).1; omega)⟩
        have h3 := hhi k y hy (Nat.le_refl _)
        have h4 := hr k j y x hy hx (by omega)
        omega⟩
    have Hup := Lib.hid hup
    clear hup hlo hhi hb hr
    go_wp2_with fail
    go_ret
    exact ⟨k, rfl, Hup.out, hx⟩
  | true =>
    obtain ⟨y, hy, hyn⟩ := hb.1 rfl
    have hkl : k < l.length := (List.getElem?_eq_some_iff.1 hy).1
    have hup : UpTo l n (k + 1) := ⟨by omega, fun j x hx hj => by
        by_cases e : j = k
        · rw [e, hy] at hx; cases hx; omega
        · have := hlo j x hx (by omega); omega, fun j x hx hj => by
        have := hr k j y x hy hx (by omega); omega⟩
    have Hup := Lib.hid hup
    clear hup hlo hhi hb hr hy hyn
    go_wp2_with fail
    go_ret
    exact ⟨k + 1, by first | rfl | go_num, Hup.out, hx⟩
set_option maxRecDepth 100000 in
set_option maxHeartbeats 400000 in
theorem latest_any (v : Value) (l : List Ver) (w : World) (hv : SliceOf rVer w v l) (hl : l.length ≤ 1000) (x : Ver) (k : Nat) (hk : l.length = k + 1) (hx : l[k]? = some x) :
    Calls Try.prog 15 #[v] w fun e w' => e = .returned (.int .i64 x.stamp) ∧ w' = w := by
  obtain ⟨a, cap, rfl, hle, hm, h0, _⟩ := id hv
  unfold maxLen at hm
  obtain ⟨g, o, p, t, z, rfl, hat, hok⟩ := hv.atVer hx
  have c0 := hat.c0
  have hnz : ((l.length : Int) == 0) = false := beq_eq_false_iff_ne.2 (by omega)
  have hk1 : (l.length : Int) - 1 = (k : Int) := by omega
  have hkl : k < l.length := by omega
  clear hat hok hk hx
  go_enter Try.func15, Try.ntmps15
  go_wp2
  go_ret
  exact ⟨rfl, rfl⟩
set_option maxRecDepth 100000 in
set_option maxHeartbeats 400000 in
theorem alive_any (x : Ver) (p t z : Value) (n : Int) (w : World) : Calls Try.prog 29 #[verV x p t z, .int .i64 n] w fun e w' => e = .returned (.bool (!x.gone && (decide (x.expire = 0) || decide (n < x.expire)))) ∧ Ext w w' := by
  unfold verV
  have hx0 : Ext w (w.alloc (.cells #[.int .i64 x.stamp, .bool x.gone, .int .i64 x.expire, .int .i64 x.val.kind, .string x.val.text, p, t, z] 32)) := (Ext.refl w).alloc _
  obtain ⟨st, g, ex, v⟩ := x
  simp only at hx0 ⊢
  cases g with
  | true =>
    go_enter Try.func29, Try.ntmps29
    go_wp2
    go_ret
    exact ⟨rfl, hx0⟩
  | false =>
    by_cases he : ex = 0
    · subst he
      go_enter Try.func29, Try.ntmps29
      go_wp2
      go_ret
      exact ⟨rfl, hx0⟩
    · have hne : (ex == 0) = false := beq_eq_false_iff_ne.2 he
      rw [decide_eq_false he]
      clear he
      go_enter Try.func29, Try.ntmps29
      go_wp2
      go_ret
      exact ⟨by first | rfl | simp, hx0⟩
end Go.Proofs.Ythclkljdnmokcaa
