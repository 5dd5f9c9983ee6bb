/-
  chain.Prune, walked.
-/
import Derived.Test.YthclkljdnmokcaaAllOwn
import Derived.Test.YthclkljdnmokcaaChainAll
import Derived.Test.YthclkljdnmokcaaValRight
set_option linter.unusedVariables false
set_option linter.unusedSimpArgs false
namespace Go.Proofs.Ythclkljdnmokcaa
open Go.RowKit Go.Proofs

def aliveB (x : Ver) (n : Int) : Bool := !x.gone && (decide (x.expire = 0) || decide (n < x.expire))
theorem slice_fromR {α : Type} {r : Rep α} {w : World} {a : Option Addr} {N cap : Nat} {l : List α} (h : SliceOf r w (.slice a N cap) l) {m : Nat} (hm : m ≤ l.length) :
    SliceOf r w (.slice (if cap = m then a else a.map (·.add (m * r.size))) (l.length - m) (cap - m)) (l.drop m) := by
  obtain ⟨a', c', e, h1, h2, h0, h4⟩ := h
  injection e with e1 e2 e3
  subst e1; subst e3
  by_cases hl : m = l.length
  · refine ⟨_, _, by rw [List.length_drop], by rw [List.length_drop]; omega, by unfold maxLen at h2 ⊢; omega, fun ha => ?_, fun hne => absurd (by rw [hl]; exact List.drop_length) hne⟩
    by_cases hc : cap = m
    · omega
    · rw [if_neg hc] at ha
      have : a = none := by cases a with | none => rfl | some _ => cases ha
      have := h0 this
      omega
  · have hne : l ≠ [] := by rintro rfl; simp at hm hl; omega
    obtain ⟨g, o, rfl, hg, hc⟩ := h4 hne
    rw [if_neg (by omega), show (some (⟨g, o, none⟩ : Addr)).map (·.add (m * r.size)) = some ⟨g, o + m * r.size, none⟩ by simp [Addr.add_lit]]
    refine ⟨some ⟨g, o + m * r.size, none⟩, cap - m, by rw [List.length_drop], by rw [List.length_drop]; omega, by unfold maxLen at h2 ⊢; omega, (fun h => by cases h), fun _ => ⟨g, o + m * r.size, rfl, hg, fun j x hj => ?_⟩⟩
    rw [List.getElem?_drop] at hj
    obtain ⟨ecs, el, hcs, hre⟩ := hc (m + j) x hj
    refine ⟨ecs, el, fun i hi => ?_, hre⟩
    rw [← hcs i hi]
    congr 2
    show o + m * r.size + j * r.size + i = o + (m + j) * r.size + i
    rw [Nat.add_mul]
    omega
/-- where a pruned chain begins -/
def PruneAt (l : List Ver) (mark clock : Int) (m : Nat) : Prop :=
  ∃ k, UpTo l mark k ∧ ((m = k ∧ ∀ j x, j + 1 = k → l[j]? = some x → aliveB x clock = false) ∨ (m + 1 = k ∧ ∃ x, l[m]? = some x ∧ aliveB x clock = true))
set_option maxRecDepth 100000 in
set_option maxHeartbeats 1000000 in
theorem prune_any (v : Value) (l : List Ver) (mark clock : Int) (w : World) (hv : SliceOf rVer w v l) (hl : l.length ≤ 1000) (hr : Rising l) (hsm : SmallL l) :
    Calls Try.prog 25 #[v, .int .i64 mark, .int .i64 clock] w fun e w' => ∃ m v', e = .returned v' ∧ PruneAt l mark clock m ∧ Own rVerT w.heap.size 32 w' v' (l.drop m) ∧ Ext w w' := by
  obtain ⟨a, cap, rfl, hle, hm⟩ := len_of' hv
  have Hv := Lib.hid hv
  have Hsm := Lib.hid hsm
  go_enter Try.func25, Try.ntmps25
  go_wp2_with fail
  refine (upTo_any _ l mark _ hv hl hr).mono ?_
  rintro e w1 ⟨k, rfl, hup, hx1⟩
  have Hx1 := Lib.hid hx1
  have hkl := hup.1
  have Hup := Lib.hid hup
  clear hup hx1
  by_cases hk0 : k = 0
  · have hd : decide ((0 : Int) < (k : Int)) = false := decide_eq_false (by omega)
    have hd2 : decide (0 < k) = false := decide_eq_false (by omega)
    subst hk0
    have Hp : Hid (PruneAt l mark clock 0) := Lib.hid ⟨0, Hup.out, .inl ⟨rfl, fun j x hj => by omega⟩⟩
    clear hv
    go_wp2_with fail
    refine (all_any _ l _ (Hv.out.mono rVer_mono Hx1.out) hl Hsm.out).mono ?_
    rintro e w9 ⟨v9, rfl, hown, hx9⟩
    go_wp2_with fail
    go_ret
    exact ⟨0, _, rfl, Hp.out, by rw [List.drop_zero]; exact hown.base (by exact Hx1.out.size), Hx1.out.then hx9⟩
  · obtain ⟨j, rfl⟩ : ∃ j, k = j + 1 := ⟨k - 1, by omega⟩
    obtain ⟨x, hx⟩ : ∃ x, l[j]? = some x := ⟨_, List.getElem?_eq_getElem (by omega)⟩
    obtain ⟨g, o, p, t, z, rfl, hat, hok⟩ := (Hv.out.mono rVer_mono Hx1.out).atVer hx
    obtain ⟨pa, pc, rfl, _⟩ := id hok.parts.1
    obtain ⟨ta, tc, rfl, _⟩ := id hok.parts.2.1
    obtain ⟨za, zc, rfl, _⟩ := id hok.parts.2.2
    obtain ⟨c0, c1, c2, c3, c4, c5, c6, c7⟩ := hat
    have Hx := Lib.hid hx
    have hd : decide ((0 : Int) < ((j + 1 : Nat) : Int)) = true := decide_eq_true (by omega)
    have hj1 : ((j + 1 : Nat) : Int) - 1 = (j : Int) := by omega
    clear hx hok hk0
    go_wp2_with fail
    refine (alive_any x _ _ _ clock _).mono ?_
    rintro e w2 ⟨rfl, hx2⟩
    have Hx2 := Lib.hid (Hx1.out.then hx2)
    have hal : (!x.gone && (decide (x.expire = 0) || decide (clock < x.expire))) = aliveB x clock := rfl
    rw [hal]
    clear hal hx2 c0 c1 c2 c3 c4 c5 c6 c7 hd
    cases ha : aliveB x clock with
    | true =>
      have Hp : Hid (PruneAt l mark clock j) := Lib.hid ⟨j + 1, Hup.out, .inr ⟨rfl, x, Hx.out, ha⟩⟩
      clear ha
      have hsl := slice_fromR (Hv.out.mono rVer_mono Hx2.out) (m := j) (by omega)
      have Hsm2 : Hid (SmallL (l.drop (j))) := Lib.hid (fun q x hx => Hsm.out ((j) + q) x (by rw [← List.getElem?_drop]; exact hx))
      have Hdl : Hid ((l.drop (j)).length ≤ 1000) := Lib.hid (by rw [List.length_drop]; omega)
      rw [if_neg (by omega), show rVer.size = 8 from rfl, show (some (⟨g, o, none⟩ : Addr)).map (·.add (j * 8)) = some ⟨g, o + j * 8, none⟩ by simp [Addr.add_lit]] at hsl
      have Hsl := Lib.hid hsl
      clear hsl hv
      go_wp2_with fail
      refine (all_any _ _ _ Hsl.out Hdl.out Hsm2.out).mono ?_
      rintro e w9 ⟨v9, rfl, hown, hx9⟩
      go_wp2_with fail
      go_ret
      exact ⟨j, _, rfl, Hp.out, hown.base (by exact Hx2.out.size), Hx2.out.then hx9⟩
    | false =>
      have Hp : Hid (PruneAt l mark clock (j + 1)) := Lib.hid ⟨j + 1, Hup.out, .inl ⟨rfl, fun q y hq hy => by
        obtain rfl : q = j := by omega
        rw [Hx.out] at hy
        cases hy
        exact ha⟩⟩
      clear ha
      have hsl := slice_fromR (Hv.out.mono rVer_mono Hx2.out) (m := j + 1) (by omega)
      have Hsm2 : Hid (SmallL (l.drop (j + 1))) := Lib.hid (fun q x hx => Hsm.out ((j + 1) + q) x (by rw [← List.getElem?_drop]; exact hx))
      have Hdl : Hid ((l.drop (j + 1)).length ≤ 1000) := Lib.hid (by rw [List.length_drop]; omega)
      by_cases hcap : cap = j + 1
      · rw [if_pos hcap, show cap - (j + 1) = 0 by omega] at hsl
        have Hsl := Lib.hid hsl
        clear hsl hv
        go_wp2_with fail
        refine (all_any _ _ _ Hsl.out Hdl.out Hsm2.out).mono ?_
        rintro e w9 ⟨v9, rfl, hown, hx9⟩
        go_wp2_with fail
        go_ret
        exact ⟨j + 1, _, rfl, Hp.out, hown.base (by exact Hx2.out.size), Hx2.out.then hx9⟩
      · rw [if_neg hcap, show rVer.size = 8 from rfl, show (some (⟨g, o, none⟩ : Addr)).map (·.add ((j + 1) * 8)) = some ⟨g, o + (j + 1) * 8, none⟩ by simp [Addr.add_lit]] at hsl
        have Hsl := Lib.hid hsl
        clear hsl hv
        go_wp2_with fail
        refine (all_any _ _ _ Hsl.out Hdl.out Hsm2.out).mono ?_
        rintro e w9 ⟨v9, rfl, hown, hx9⟩
        go_wp2_with fail
        go_ret
        exact ⟨j + 1, _, rfl, Hp.out, hown.base (by exact Hx2.out.size), Hx2.out.then hx9⟩
end Go.Proofs.Ythclkljdnmokcaa
