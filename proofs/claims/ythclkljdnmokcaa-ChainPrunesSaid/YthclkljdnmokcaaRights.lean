/-
  Which sets, which sorted sets are right (the reference): walked.
-/
import Derived.Test.YthclkljdnmokcaaLess
import Derived.Test.YthclkljdnmokcaaRely
set_option linter.unusedVariables false
set_option linter.unusedSimpArgs false
namespace Go.Proofs.Ythclkljdnmokcaa
open Go.RowKit Go.Proofs

def okT (l : List ByteArray) (k : Nat) : Bool :=
  match l[k]? with
  | none => true
  | some x => !decide (4096 < x.size) && (match k with | 0 => true | j + 1 => match l[j]? with | some y => lessB y x | none => true)
def rightT (l : List ByteArray) : Bool := allN l.length (okT l) && decide (l.length ≤ 512)
theorem SliceOf.atS {w : World} {a : Option Addr} {n cap : Nat} {l : List ByteArray} (h : SliceOf rStr w (.slice a n cap) l) {k : Nat} {x : ByteArray} (hx : l[k]? = some x) :
    ∃ g o, a = some ⟨g, o, none⟩ ∧ w.cell? ⟨g, o + k, none⟩ = some (.string x) ∧ x.size ≤ maxLen := by
  obtain ⟨g, o, u, rfl, hu, hr⟩ := h.at1 rfl hx
  have h1 := hr.1
  obtain rfl : u = .string x := by simpa using h1
  exact ⟨g, o, rfl, hu, hr.2⟩
set_option maxRecDepth 100000 in
set_option maxHeartbeats 2000000 in
theorem right12_any (v : Value) (l : List ByteArray) (w : World) (hv : SliceOf rStr w v l) :
    Calls Try.prog 41 #[v] w fun e w' => e = .returned (.bool (rightT l)) ∧ ∃ n, w' = w.drewN n := by
  obtain ⟨a, cap, rfl, hle, hm, h0, _⟩ := id hv
  unfold maxLen at hm
  have Hr : Hid (rightT l = (allN l.length (okT l) && decide (l.length ≤ 512))) := Lib.hid rfl
  go_enter Try.func41, Try.ntmps41
  go_wp2_with fail
  go_loopw [3] (fun i wr => ∃ k : Nat, i = .int .i64 (k : Int) ∧ k ≤ l.length ∧ (∀ j, j < k → okT l j = true) ∧ ∃ n, wr = w.drewN n) (fun i _ => l.length - (intOf i).toNat)
  case atStart => exact ⟨0, rfl, by omega, fun j hj => by omega, 0, rfl⟩
  case round =>
    obtain ⟨k, rfl, hk, hall, n, hw⟩ := hrel
    have Hall := Lib.hid hall
    have Hw := Lib.hid hw
    have hvr : SliceOf rStr wr (.slice a l.length cap) l := hw ▸ (hv.mono rStr_mono ((Ext.refl w).drewN n))
    clear hall hw
    by_cases hlt : k < l.length
    · obtain ⟨x, hx⟩ : ∃ x, l[k]? = some x := ⟨_, List.getElem?_eq_getElem hlt⟩
      obtain ⟨g, o, rfl, hu, hs1⟩ := hvr.atS hx
      have Hx := Lib.hid hx
      unfold maxLen at hs1
      clear hx
      by_cases hA : 4096 < x.size
      · have hd : decide ((4096 : Int) < (x.size : Int)) = true := decide_eq_true (by omega)
        have Hf : Hid (rightT l = false) := Lib.hid (by rw [Hr.out, allN_false hlt (by unfold okT; rw [Hx.out]; simp [hA])]; rfl)
        go_wp2_with fail
        go_quiet (fail)
        go_wp2_with fail
        go_ret
        exact ⟨by rw [Hf.out]; rfl, _, by rw [Hw.out, World.drewN_drewN]⟩
      · have hd : decide ((4096 : Int) < (x.size : Int)) = false := decide_eq_false (by omega)
        by_cases hk0 : k = 0
        · have Hok : Hid (okT l k = true) := Lib.hid (by unfold okT; rw [Hx.out, hk0]; simp; omega)
          have Hk0 := Lib.hid hk0
          have hd3 : decide ((0 : Int) < (k : Int)) = false := decide_eq_false (by omega)
          have hd4 : decide (0 < k) = false := decide_eq_false (by omega)
          clear hk0
          go_wp2_with fail
          go_quiet (fail)
          go_wp2_with fail
          exact ⟨⟨k + 1, by go_num, by omega, fun j hj => by (obtain rfl : j = k := by have := Hk0.out; omega); exact Hok.out, _, by rw [Hw.out, World.drewN_drewN]⟩, by simp [intOf]; omega⟩
        · obtain ⟨j, hj⟩ : ∃ j : Nat, (k : Int) - 1 = (j : Int) := ⟨k - 1, by omega⟩
          have hkj := Lib.hid (show k = j + 1 by omega)
          have hjl : j < l.length := by omega
          obtain ⟨y, hy⟩ : ∃ y, l[j]? = some y := ⟨_, List.getElem?_eq_getElem hjl⟩
          obtain ⟨g', o', e', hv1, ht1⟩ := hvr.atS hy
          obtain ⟨rfl, rfl⟩ : g = g' ∧ o = o' := by
            have h := e'
            simp at h
            exact h
          have Hy := Lib.hid hy
          have hkp : 0 < k := by omega
          have hd3 : decide ((0 : Int) < (k : Int)) = true := decide_eq_true (by omega)
          have hs1' : x.size ≤ maxLen := by unfold maxLen; omega
          clear e' hy hk0
          have Hokv : Hid (okT l k = lessB y x) := Lib.hid (by
            have e1 : l[j + 1]? = some x := by rw [← hkj.out]; exact Hx.out
            rw [hkj.out]
            unfold okT
            rw [e1]
            simp only [Hy.out]
            simp [hA])
          cases hlss : lessB y x with
          | true =>
            have Hle := Lib.hid hlss
            have Hok : Hid (okT l k = true) := Lib.hid (by rw [Hokv.out, hlss])
            clear hlss
            go_wp2_with fail
            go_quiet ((go_at_call 71; exact Calls.quiet_of (Hle.out ▸ less_any y x _ ht1 hs1')))
            go_wp2_with fail
            exact ⟨⟨k + 1, by go_num, by omega, fun j hj => by
              by_cases e : j = k
              · rw [e]; exact Hok.out
              · exact Hall.out j (by omega), _, by rw [Hw.out, World.drewN_drewN]⟩, by simp [intOf]; omega⟩
          | false =>
            have Hle := Lib.hid hlss
            have Hf : Hid (rightT l = false) := Lib.hid (by rw [Hr.out, allN_false hlt (by rw [Hokv.out, hlss])]; rfl)
            clear hlss
            go_wp2_with fail
            go_quiet ((go_at_call 71; exact Calls.quiet_of (Hle.out ▸ less_any y x _ ht1 hs1')))
            go_wp2_with fail
            go_ret
            exact ⟨by rw [Hf.out]; rfl, _, by rw [Hw.out, World.drewN_drewN]⟩
    · obtain rfl : k = l.length := by omega
      have Hf : Hid (rightT l = decide (l.length ≤ 512)) := Lib.hid (by rw [Hr.out, allN_true Hall.out, Bool.true_and])
      go_wp2_with fail
      go_ret
      refine ⟨?_, _, Hw.out⟩
      rw [Hf.out]
      show Ending.returned (.bool (decide ((l.length : Int) ≤ 512))) = _
      congr 2
      simp; omega

def beforeB (x y : Int × ByteArray) : Bool := decide (x.1 < y.1) || (decide (x.1 = y.1) && lessB x.2 y.2)
set_option maxRecDepth 100000 in
set_option maxHeartbeats 1000000 in
theorem before_any (x y : Int × ByteArray) (w : World) (hx : x.2.size ≤ maxLen) (hy : y.2.size ≤ maxLen) :
    Calls Try.prog 72 #[.agg #[.int .i64 x.1, .string x.2], .agg #[.int .i64 y.1, .string y.2]] w fun e w' => e = .returned (.bool (beforeB x y)) ∧ Ext w w' := by
  obtain ⟨n, s⟩ := x
  obtain ⟨m, t⟩ := y
  simp only at hx hy
  have hx0 : Ext w ((w.alloc (.cells #[.int .i64 n, .string s] 45)).alloc (.cells #[.int .i64 m, .string t] 45)) := ((Ext.refl w).alloc _).alloc _
  unfold beforeB
  simp only
  by_cases h1 : n < m
  · have hd : decide (n < m) = true := decide_eq_true h1
    rw [hd, Bool.true_or]
    go_enter Try.func72, Try.ntmps72
    go_wp2_with fail
    go_ret
    exact ⟨by first | rfl | simp, hx0⟩
  · have hd : decide (n < m) = false := decide_eq_false h1
    rw [hd, Bool.false_or]
    by_cases h2 : n = m
    · subst h2
      have hdd : (n == n) = true := by simp
      rw [decide_eq_true rfl, Bool.true_and]
      clear hd
      go_enter Try.func72, Try.ntmps72
      go_wp2_with fail
      refine (less_any s t _ hx hy).mono ?_
      rintro e w3 ⟨rfl, m', rfl⟩
      go_wp2
      go_ret
      exact ⟨by first | rfl | simp, hx0.drewN m'⟩
    · have hdd : (n == m) = false := beq_eq_false_iff_ne.2 h2
      rw [decide_eq_false h2, Bool.false_and]
      clear h2
      go_enter Try.func72, Try.ntmps72
      go_wp2_with fail
      go_ret
      exact ⟨by first | rfl | simp, hx0⟩

/-- where a name stands first -/
def atF (z : List (Int × ByteArray)) (s : ByteArray) : Nat := (z.takeWhile fun m => decide (m.2 ≠ s)).length
def atZ (z : List (Int × ByteArray)) (s : ByteArray) : Int := if atF z s < z.length then (atF z s : Int) else -1
theorem tw_len {α : Type} (p : α → Bool) (z : List α) (k : Nat) (hk : k ≤ z.length) (h : ∀ j x, j < k → z[j]? = some x → p x = true) (he : ∀ x, z[k]? = some x → p x = false) : (z.takeWhile p).length = k := by
  induction z generalizing k with
  | nil => simp at hk; simp [hk]
  | cons y z ih =>
    cases k with
    | zero => have := he y rfl; simp [this]
    | succ k =>
      have h1 := h 0 y (by omega) rfl
      rw [List.takeWhile_cons, if_pos h1, List.length_cons, ih k (by simpa using hk) (fun j x hj hx => h (j + 1) x (by omega) (by simpa using hx)) (fun x hx => he x (by simpa using hx))]
set_option maxRecDepth 100000 in
set_option maxHeartbeats 1000000 in
theorem at13_any (v : Value) (l : List (Int × ByteArray)) (s : ByteArray) (w : World) (hv : SliceOf rMb w v l) :
    Calls Try.prog 73 #[v, .string s] w fun e w' => e = .returned (.int .i64 (atZ l s)) ∧ w' = w := by
  obtain ⟨a, cap, rfl, hle, hm, h0, _⟩ := id hv
  unfold maxLen at hm
  go_enter Try.func73, Try.ntmps73
  go_wp2_with fail
  go_loopw [5] (fun i wr => ∃ k : Nat, i = .int .i64 (k : Int) ∧ k ≤ l.length ∧ (∀ j x, j < k → l[j]? = some x → decide (x.2 ≠ s) = true) ∧ wr = w) (fun i _ => l.length - (intOf i).toNat)
  case atStart => exact ⟨0, rfl, by omega, fun j x hj => by omega, rfl⟩
  case round =>
    obtain ⟨k, rfl, hk, hall, rfl⟩ := hrel
    have Hall := Lib.hid hall
    clear hall
    by_cases hlt : k < l.length
    · obtain ⟨x, hx⟩ : ∃ x, l[k]? = some x := ⟨_, List.getElem?_eq_getElem hlt⟩
      obtain ⟨g, o, rfl, hu, hu', hs1, hs2⟩ := hv.atMb hx
      have Hx := Lib.hid hx
      obtain ⟨n, t⟩ := x
      simp only at hu hu'
      have hbq := beq_str t s
      clear hx hs1 hs2
      by_cases hts : t = s
      · have ht : (t.toList == s.toList) = true := by rw [hbq]; exact decide_eq_true hts
        have Hat : Hid (atZ l s = (k : Int)) := Lib.hid (by
          have e1 : atF l s = k := tw_len _ l k (by omega) Hall.out (fun x hx => by rw [Hx.out] at hx; cases hx; simp [hts])
          unfold atZ
          rw [e1, if_pos hlt])
        clear hbq hts
        go_wp2_with fail
        go_ret
        exact ⟨by rw [Hat.out]; rfl, rfl⟩
      · have ht : (t.toList == s.toList) = false := by rw [hbq]; exact decide_eq_false hts
        have Hall2 : Hid (∀ j x, j < k + 1 → l[j]? = some x → decide (x.2 ≠ s) = true) := Lib.hid (fun j x hj hx => by
          by_cases e : j = k
          · rw [e, Hx.out] at hx; cases hx; simpa using hts
          · exact Hall.out j x (by omega) hx)
        clear hbq hts
        go_wp2_with fail
        exact ⟨⟨k + 1, by go_num, by omega, Hall2.out, by first | exact trivial | rfl⟩, by simp [intOf]; omega⟩
    · obtain rfl : k = l.length := by omega
      have Hat : Hid (atZ l s = -1) := Lib.hid (by
        have e1 : atF l s = l.length := tw_len _ l _ (by omega) Hall.out (fun x hx => by simp at hx)
        unfold atZ
        rw [e1, if_neg (by omega)])
      go_wp2_with fail
      go_ret
      exact ⟨by rw [Hat.out]; rfl, rfl⟩
end Go.Proofs.Ythclkljdnmokcaa
