/-
  list.Right, walked.
-/
import Derived.Test.YthclkljdnmokcaaRights
set_option linter.unusedVariables false
set_option linter.unusedSimpArgs false
namespace Go.Proofs.Ythclkljdnmokcaa
open Go.RowKit Go.Proofs

def longB (s : ByteArray) : Bool := decide (4096 < s.size)
set_option maxRecDepth 100000 in
set_option maxHeartbeats 400000 in
theorem long_any (s : ByteArray) (w : World) (hs : s.size ≤ maxLen) : Calls Try.prog 80 #[.string s] w fun e w' => e = .returned (.bool (longB s)) ∧ w = w' := by
  unfold maxLen at hs
  unfold longB
  go_enter Try.func80, Try.ntmps80
  go_wp2
  go_ret
  exact ⟨by show Ending.returned (Value.bool _) = _; congr 2; exact decide_eq_decide.2 (by omega), rfl⟩

set_option maxRecDepth 100000 in
set_option maxHeartbeats 400000 in
theorem idx_long (v : Value) (l : List ByteArray) (w : World) (hv : SliceOf rStr w v l) (hl : l.length ≤ 1000000) :
    Calls Try.prog 86 #[v, .func (Fn.func 80) #[] #[]] w fun e w' => ∃ i : Int, e = .returned (.int .i64 i) ∧ -1 ≤ i ∧ i ≤ 1000000 ∧ (l.any longB = decide (0 ≤ i)) ∧ w' = w := by
  obtain ⟨a, cap, rfl, hle, hm, h0, _⟩ := id hv
  unfold maxLen at hm
  go_enter Try.func86, Try.ntmps86
  go_wp2_with fail
  go_loopw [5, 8] (fun i j wr => ∃ k : Nat, k ≤ l.length ∧ j = .int .i64 (k : Int) ∧ (∀ y ∈ l.take k, longB y = false) ∧ wr = w) (fun _ j _ => l.length - (intOf j).toNat)
  case atStart => exact ⟨0, by omega, by go_num, by simp, rfl⟩
  case round =>
    obtain ⟨k, hk, rfl, hno, rfl⟩ := hrel
    have Hno := Lib.hid hno
    clear hno
    by_cases hlt : k < l.length
    · obtain ⟨x, hx⟩ : ∃ x, l[k]? = some x := ⟨_, List.getElem?_eq_getElem hlt⟩
      obtain ⟨g, o, u, rfl, hu, hu'⟩ := hv.at1 rfl hx
      have hu1 := hu'.1
      have HX := Lib.hid hu'.2
      obtain rfl : u = .string x := by simpa using hu1
      clear hu' hu1
      have Hx := Lib.hid hx
      clear hx
      go_wp2_with fail
      refine (long_any x _ HX.out).mono ?_
      rintro e w1 ⟨rfl, rfl⟩
      cases hd : longB x with
      | true =>
        have hany : l.any longB = true := List.any_eq_true.2 ⟨x, List.mem_of_getElem? Hx.out, hd⟩
        have Hany := Lib.hid hany
        clear hd hany
        go_wp2_with fail
        go_ret
        exact ⟨k, rfl, by omega, by omega, by rw [Hany.out]; simp, rfl⟩
      | false =>
        have hno2 : ∀ y ∈ l.take (k + 1), longB y = false := by
          intro y hy
          have h1 := Hx.out
          rw [List.take_add_one, h1] at hy
          rcases List.mem_append.1 hy with hy | hy
          · exact Hno.out y hy
          · obtain rfl : y = x := by simpa using hy
            exact hd
        have Hno2 := Lib.hid hno2
        clear hd hno2
        go_wp2_with fail
        exact ⟨⟨k + 1, by omega, by go_num, Hno2.out, by first | exact trivial | rfl⟩, by simp [intOf]; omega⟩
    · have hall : l.any longB = false := by
        have h1 := Hno.out
        rw [List.take_of_length_le (by omega)] at h1
        rw [List.any_eq_false]
        intro y hy; rw [h1 y hy]; simp
      have Hall := Lib.hid hall
      clear hall
      go_wp2_with fail
      go_ret
      exact ⟨-1, rfl, by omega, by omega, by rw [Hall.out]; rfl, rfl⟩

set_option maxRecDepth 100000 in
set_option maxHeartbeats 400000 in
theorem contains_long (v : Value) (l : List ByteArray) (w : World) (hv : SliceOf rStr w v l) (hl : l.length ≤ 1000000) :
    Calls Try.prog 79 #[v, .func (Fn.func 80) #[] #[]] w fun e w' => e = .returned (.bool (l.any longB)) ∧ w' = w := by
  go_enter Try.func79, Try.ntmps79
  go_wp2_with fail
  refine (idx_long v l _ hv hl).mono ?_
  rintro e w1 ⟨i, rfl, hi1, hi2, hi3, rfl⟩
  have Hi3 := Lib.hid hi3
  clear hi3
  go_wp2
  go_ret
  exact ⟨by rw [Hi3.out]; rfl, rfl⟩
set_option maxRecDepth 100000 in
set_option maxHeartbeats 400000 in
theorem right_any (v : Value) (l : List ByteArray) (w : World) (hv : SliceOf rStr w v l) (hl : l.length ≤ 1000000) : Calls Try.prog 65 #[v] w fun e w' => e = .returned (.bool (decide (l.length ≤ 512) && !l.any longB)) ∧ w' = w := by
  have hv' := hv
  obtain ⟨a, cap, rfl, hle, hm, h0, _⟩ := id hv
  unfold maxLen at hm
  by_cases h5 : l.length ≤ 512
  · have Hd := Lib.hid (decide_eq_true h5)
    go_enter Try.func65, Try.ntmps65
    go_wp2_with fail
    refine (contains_long _ l _ hv' hl).mono ?_
    rintro e w1 ⟨rfl, rfl⟩
    obtain ⟨b, hb⟩ : ∃ b, l.any longB = b := ⟨_, rfl⟩
    have Hb := Lib.hid hb
    rw [hb]
    clear hb
    cases b
    · go_wp2
      go_ret
      exact ⟨by rw [Hd.out, Hb.out]; rfl, rfl⟩
    · go_wp2
      go_ret
      exact ⟨by rw [Hd.out, Hb.out]; rfl, rfl⟩
  · have Hd := Lib.hid (decide_eq_false h5)
    go_enter Try.func65, Try.ntmps65
    go_wp2_with fail
    go_ret
    exact ⟨by first | rfl | (rw [Hd.out]; rfl), rfl⟩
end Go.Proofs.Ythclkljdnmokcaa
