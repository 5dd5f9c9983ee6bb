/-
  set.Right, walked.
-/
import Derived.Test.YthclkljdnmokcaaListRight
set_option linter.unusedVariables false
set_option linter.unusedSimpArgs false
namespace Go.Proofs.Ythclkljdnmokcaa
open Go.RowKit Go.Proofs

theorem bytesLess_eq (a b : List UInt8) : Op.bytesLess a b = lessL a b := by
  induction a generalizing b with
  | nil => cases b <;> simp [Op.bytesLess, lessL]
  | cons x a ih =>
    cases b with
    | nil => simp [Op.bytesLess, lessL]
    | cons y b =>
      simp only [Op.bytesLess, lessL, ih]
      by_cases h : x = y
      · subst h; simp
      · rw [if_neg h]
        have h2 : x.toNat ≠ y.toNat := fun e => h (UInt8.toNat_inj.1 e)
        by_cases h3 : x < y
        · have h4 : x.toNat < y.toNat := UInt8.lt_iff_toNat_lt.1 h3
          simp [h3, h4]
        · have h4 : ¬ x.toNat < y.toNat := fun e => h3 (UInt8.lt_iff_toNat_lt.2 e)
          simp [h3, h4, h]
set_option maxRecDepth 100000 in
set_option maxHeartbeats 400000 in
theorem slong_any (s : ByteArray) (w : World) (hs : s.size ≤ maxLen) : Calls Try.prog 81 #[.string s] w fun e w' => e = .returned (.bool (longB s)) ∧ w' = w := by
  unfold maxLen at hs
  unfold longB
  go_enter Try.func81, Try.ntmps81
  go_wp2
  go_ret
  exact ⟨by show Ending.returned (Value.bool _) = _; congr 2; exact decide_eq_decide.2 (by omega), rfl⟩
set_option maxRecDepth 100000 in
set_option maxHeartbeats 2000000 in
theorem setright_any (v : Value) (l : List ByteArray) (w : World) (hv : SliceOf rStr w v l) :
    Calls Try.prog 66 #[v] w fun e w' => e = .returned (.bool (rightT l)) ∧ w' = w := by
  obtain ⟨a, cap, rfl, hle, hm, h0, _⟩ := id hv
  unfold maxLen at hm
  have Hr : Hid (rightT l = (allN l.length (okT l) && decide (l.length ≤ 512))) := Lib.hid rfl
  go_enter Try.func66, Try.ntmps66
  go_wp2_with fail
  go_loopw [3, 4, 7] (fun _ _ i wr => ∃ k : Nat, i = .int .i64 (k : Int) ∧ k ≤ l.length ∧ (∀ j, j < k → okT l j = true) ∧ wr = w) (fun _ _ i _ => l.length - (intOf i).toNat)
  case atStart => exact ⟨0, rfl, by omega, fun j hj => by omega, rfl⟩
  case round =>
    obtain ⟨k, rfl, hk, hall, rfl⟩ := hrel
    have Hall := Lib.hid hall
    clear hall
    by_cases hlt : k < l.length
    · obtain ⟨x, hx⟩ : ∃ x, l[k]? = some x := ⟨_, List.getElem?_eq_getElem hlt⟩
      obtain ⟨g, o, rfl, hu, hs1⟩ := hv.atS hx
      have Hx := Lib.hid hx
      clear hx
      by_cases hA : 4096 < x.size
      · have hlb : longB x = true := decide_eq_true hA
        have Hlb := Lib.hid hlb
        have Hf : Hid (rightT l = false) := Lib.hid (by rw [Hr.out, allN_false hlt (by unfold okT; rw [Hx.out]; simp [hA])]; rfl)
        clear hlb
        go_wp2_with fail
        refine (slong_any x _ hs1).mono ?_
        rintro e w1 ⟨rfl, hw1⟩
        rw [hw1, Hlb.out]
        go_wp2_with fail
        go_ret
        exact ⟨by rw [Hf.out]; rfl, rfl⟩
      · have hlb : longB x = false := decide_eq_false hA
        have Hlb := Lib.hid hlb
        clear hlb
        by_cases hk0 : k = 0
        · have Hok : Hid (okT l k = true) := Lib.hid (by unfold okT; rw [Hx.out, hk0]; simp; omega)
          have Hk0 := Lib.hid hk0
          have hd3 : decide ((0 : Int) < (k : Int)) = false := decide_eq_false (by omega)
          have hd4 : decide (0 < k) = false := decide_eq_false (by omega)
          clear hk0
          go_wp2_with fail
          refine (slong_any x _ hs1).mono ?_
          rintro e w1 ⟨rfl, hw1⟩
          rw [hw1, Hlb.out]
          go_wp2_with fail
          exact ⟨⟨k + 1, by go_num, by omega, fun j hj => by (obtain rfl : j = k := by have := Hk0.out; omega); exact Hok.out, by first | rfl | trivial⟩, by simp [intOf]; omega⟩
        · obtain ⟨j, hj⟩ : ∃ j : Nat, (k : Int) - 1 = (j : Int) := ⟨k - 1, by omega⟩
          have hkj := Lib.hid (show k = j + 1 by omega)
          have hjl : j < l.length := by omega
          obtain ⟨y, hy⟩ : ∃ y, l[j]? = some y := ⟨_, List.getElem?_eq_getElem hjl⟩
          obtain ⟨g', o', e', hv1, ht1⟩ := hv.atS hy
          obtain ⟨rfl, rfl⟩ : g = g' ∧ o = o' := by
            have h := e'
            simp at h
            exact h
          have Hy := Lib.hid hy
          have hkp : 0 < k := by omega
          have hd3 : decide ((0 : Int) < (k : Int)) = true := decide_eq_true (by omega)
          clear e' hy hk0
          have Hokv : Hid (okT l k = Op.bytesLess y.toList x.toList) := Lib.hid (by
            have e1 : l[j + 1]? = some x := by rw [← hkj.out]; exact Hx.out
            rw [hkj.out, bytesLess_eq]
            unfold okT
            rw [e1]
            simp only [Hy.out]
            simp [hA, lessB])
          cases hlss : Op.bytesLess y.toList x.toList with
          | true =>
            have Hok : Hid (okT l k = true) := Lib.hid (by rw [Hokv.out, hlss])
            go_wp2_with fail
            refine (slong_any x _ hs1).mono ?_
            rintro e w1 ⟨rfl, hw1⟩
            rw [hw1, Hlb.out]
            go_wp2_with fail
            exact ⟨⟨k + 1, by go_num, by omega, fun j hj => by
              by_cases e : j = k
              · rw [e]; exact Hok.out
              · exact Hall.out j (by omega), by first | rfl | trivial⟩, by simp [intOf]; omega⟩
          | false =>
            have Hf : Hid (rightT l = false) := Lib.hid (by rw [Hr.out, allN_false hlt (by rw [Hokv.out, hlss])]; rfl)
            go_wp2_with fail
            refine (slong_any x _ hs1).mono ?_
            rintro e w1 ⟨rfl, hw1⟩
            rw [hw1, Hlb.out]
            go_wp2_with fail
            go_ret
            exact ⟨by rw [Hf.out]; rfl, rfl⟩
    · obtain rfl : k = l.length := by omega
      have Hf : Hid (rightT l = decide (l.length ≤ 512)) := Lib.hid (by rw [Hr.out, allN_true Hall.out, Bool.true_and])
      go_wp2_with fail
      go_ret
      refine ⟨?_, rfl⟩
      rw [Hf.out]
      show Ending.returned (.bool (decide ((l.length : Int) ≤ 512))) = _
      congr 2
      simp; omega
end Go.Proofs.Ythclkljdnmokcaa
