/-
  Which values are right (the reference): walked.
-/
import Derived.Test.YthclkljdnmokcaaRightZ
set_option linter.unusedVariables false
set_option linter.unusedSimpArgs false
namespace Go.Proofs.Ythclkljdnmokcaa
open Go.RowKit Go.Proofs

/-- the ground on which a value isn't right whatever is in it -/
def oddV (x : Val) : Bool :=
  decide (x.kind < 1) || (decide (5 < x.kind) || ((decide (x.kind ≠ 1) && decide (x.text ≠ ByteArray.empty)) || ((decide (x.kind ≠ 2) && decide (0 < x.pairs.length)) || (((decide (x.kind ≠ 3) && decide (x.kind ≠ 4)) && decide (0 < x.texts.length)) || (decide (x.kind ≠ 5) && decide (0 < x.zset.length))))))
def rightV (x : Val) : Bool :=
  if oddV x then false
  else if x.kind = 1 then decide (x.text.size ≤ 4096)
  else if x.kind = 2 then decide (0 < x.pairs.length) && rightP x.pairs
  else if x.kind = 4 then decide (0 < x.texts.length) && rightT x.texts
  else if x.kind = 5 then decide (0 < x.zset.length) && rightZ x.zset
  else allN x.texts.length (fun k => match x.texts[k]? with | some s => !decide (4096 < s.size) | none => true) && (decide (0 < x.texts.length) && decide (x.texts.length ≤ 512))
theorem len_of {α : Type} {r : Rep α} {w : World} {v : Value} {l : List α} (h : SliceOf r w v l) : ∃ a cap, v = .slice a l.length cap ∧ l.length ≤ cap ∧ cap ≤ 9223372036854775807 := by
  obtain ⟨a, cap, rfl, hle, hm, _, _⟩ := h
  unfold maxLen at hm
  exact ⟨a, cap, rfl, hle, by omega⟩
set_option maxRecDepth 100000 in
set_option maxHeartbeats 4000000 in
theorem right14_any (x : Val) (p t z : Value) (w : World) (hx : Parts w p t z x) (hts : x.text.size ≤ maxLen) :
    Calls Try.prog 18 #[.agg #[.int .i64 x.kind, .string x.text, p, t, z]] w fun e w' => e = .returned (.bool (rightV x)) ∧ Ext w w' := by
  obtain ⟨k, s, P, T, Z⟩ := x
  obtain ⟨hp, ht, hz⟩ := hx
  simp only at hp ht hz hts
  have hp0 := hp
  have ht0 := ht
  have hz0 := hz
  obtain ⟨ap, cp, rfl, hp1, hp2⟩ := len_of hp
  obtain ⟨at_, ct, rfl, ht1, ht2⟩ := len_of ht
  obtain ⟨az, cz, rfl, hz1, hz2⟩ := len_of hz
  unfold maxLen at hts
  have Hp := Lib.hid hp0
  have Ht := Lib.hid ht0
  have Hz := Lib.hid hz0
  clear hp ht hz hp0 ht0 hz0
  have hx0 : Ext w (w.alloc (.cells #[.int .i64 k, .string s, .slice ap P.length cp, .slice at_ T.length ct, .slice az Z.length cz] 30)) := (Ext.refl w).alloc _
  have hse : (s.toList == ([] : List UInt8)) = decide (s = ByteArray.empty) := by
    have := beq_str s ByteArray.empty
    simpa using this
  by_cases c1 : k < 1
  · have Hf : Hid (rightV ⟨k, s, P, T, Z⟩ = false) := Lib.hid (if_pos (by unfold oddV; simp only; rw [decide_eq_true c1]; rfl))
    rw [Hf.out]
    clear hse
    go_enter Try.func18, Try.ntmps18
    go_wp2_with fail
    go_ret
    exact ⟨by first | rfl | simp, hx0⟩
  by_cases c2 : 5 < k
  · have Hf : Hid (rightV ⟨k, s, P, T, Z⟩ = false) := Lib.hid (if_pos (by unfold oddV; simp only; rw [decide_eq_true c2]; simp))
    rw [Hf.out]
    clear hse
    go_enter Try.func18, Try.ntmps18
    go_wp2_with fail
    go_ret
    exact ⟨by first | rfl | simp, hx0⟩
  have hk5 : k = 1 ∨ k = 2 ∨ k = 3 ∨ k = 4 ∨ k = 5 := by omega
  clear c1 c2
  rcases hk5 with rfl | rfl | rfl | rfl | rfl
  · by_cases hP : 0 < P.length
    case pos =>
      have Hf : Hid (rightV ⟨1, s, P, T, Z⟩ = false) := Lib.hid (if_pos (by unfold oddV; simp only; simp [hP]))
      rw [Hf.out]
      have hg : decide ((0 : Int) < (P.length : Int)) = true := decide_eq_true (by omega)
      go_enter Try.func18, Try.ntmps18
      go_wp2_with fail
      go_ret
      exact ⟨by first | rfl | simp, hx0⟩
    have hP0 : P.length = 0 := by omega
    have HP0 := Lib.hid hP0
    have gP : decide ((0 : Int) < (P.length : Int)) = false := decide_eq_false (by omega)
    have kP : decide (0 < P.length) = false := decide_eq_false (by omega)
    clear hP0 hP
    by_cases hT : 0 < T.length
    case pos =>
      have Hf : Hid (rightV ⟨1, s, P, T, Z⟩ = false) := Lib.hid (if_pos (by unfold oddV; simp only; simp [hT]))
      rw [Hf.out]
      have hg : decide ((0 : Int) < (T.length : Int)) = true := decide_eq_true (by omega)
      go_enter Try.func18, Try.ntmps18
      go_wp2_with fail
      go_ret
      exact ⟨by first | rfl | simp, hx0⟩
    have hT0 : T.length = 0 := by omega
    have HT0 := Lib.hid hT0
    have gT : decide ((0 : Int) < (T.length : Int)) = false := decide_eq_false (by omega)
    have kT : decide (0 < T.length) = false := decide_eq_false (by omega)
    clear hT0 hT
    by_cases hZ : 0 < Z.length
    case pos =>
      have Hf : Hid (rightV ⟨1, s, P, T, Z⟩ = false) := Lib.hid (if_pos (by unfold oddV; simp only; simp [hZ]))
      rw [Hf.out]
      have hg : decide ((0 : Int) < (Z.length : Int)) = true := decide_eq_true (by omega)
      go_enter Try.func18, Try.ntmps18
      go_wp2_with fail
      go_ret
      exact ⟨by first | rfl | simp, hx0⟩
    have hZ0 : Z.length = 0 := by omega
    have HZ0 := Lib.hid hZ0
    have gZ : decide ((0 : Int) < (Z.length : Int)) = false := decide_eq_false (by omega)
    have kZ : decide (0 < Z.length) = false := decide_eq_false (by omega)
    clear hZ0 hZ
    have Ho : Hid (oddV ⟨1, s, P, T, Z⟩ = false) := Lib.hid (by unfold oddV; simp [HP0.out, HT0.out, HZ0.out])
    have Hr : Hid (rightV ⟨1, s, P, T, Z⟩ = decide (s.size ≤ 4096)) := Lib.hid (by unfold rightV; rw [Ho.out]; simp)
    rw [Hr.out]
    clear hse
    go_enter Try.func18, Try.ntmps18
    go_wp2_with fail
    go_ret
    refine ⟨?_, hx0⟩
    show Ending.returned (.bool (decide ((s.size : Int) ≤ 4096))) = _
    congr 2
    simp; try omega
  · by_cases hs0 : s = ByteArray.empty
    case neg =>
      have Hf : Hid (rightV ⟨2, s, P, T, Z⟩ = false) := Lib.hid (if_pos (by unfold oddV; simp [hs0]))
      rw [Hf.out]
      rw [decide_eq_false hs0] at hse
      have hse2 : s.toList.isEmpty = false := by cases hl : s.toList with | nil => rw [hl] at hse; simp at hse | cons a b => rfl
      clear hs0
      go_enter Try.func18, Try.ntmps18
      go_wp2_with fail
      go_ret
      exact ⟨by first | rfl | simp, hx0⟩
    rw [decide_eq_true hs0] at hse
    have hse2 : s.toList.isEmpty = true := by rw [hs0]; simp
    have Hs0 := Lib.hid hs0
    clear hs0
    by_cases hT : 0 < T.length
    case pos =>
      have Hf : Hid (rightV ⟨2, s, P, T, Z⟩ = false) := Lib.hid (if_pos (by unfold oddV; simp only; simp [hT]))
      rw [Hf.out]
      have hg : decide ((0 : Int) < (T.length : Int)) = true := decide_eq_true (by omega)
      go_enter Try.func18, Try.ntmps18
      go_wp2_with fail
      go_ret
      exact ⟨by first | rfl | simp, hx0⟩
    have hT0 : T.length = 0 := by omega
    have HT0 := Lib.hid hT0
    have gT : decide ((0 : Int) < (T.length : Int)) = false := decide_eq_false (by omega)
    have kT : decide (0 < T.length) = false := decide_eq_false (by omega)
    clear hT0 hT
    by_cases hZ : 0 < Z.length
    case pos =>
      have Hf : Hid (rightV ⟨2, s, P, T, Z⟩ = false) := Lib.hid (if_pos (by unfold oddV; simp only; simp [hZ]))
      rw [Hf.out]
      have hg : decide ((0 : Int) < (Z.length : Int)) = true := decide_eq_true (by omega)
      go_enter Try.func18, Try.ntmps18
      go_wp2_with fail
      go_ret
      exact ⟨by first | rfl | simp, hx0⟩
    have hZ0 : Z.length = 0 := by omega
    have HZ0 := Lib.hid hZ0
    have gZ : decide ((0 : Int) < (Z.length : Int)) = false := decide_eq_false (by omega)
    have kZ : decide (0 < Z.length) = false := decide_eq_false (by omega)
    clear hZ0 hZ
    have Ho : Hid (oddV ⟨2, s, P, T, Z⟩ = false) := Lib.hid (by unfold oddV; simp [Hs0.out, HT0.out, HZ0.out])
    by_cases hP : 0 < P.length
    · have Hr : Hid (rightV ⟨2, s, P, T, Z⟩ = rightP P) := Lib.hid (by unfold rightV; rw [Ho.out]; simp [hP])
      rw [Hr.out]
      have hg : decide ((0 : Int) < (P.length : Int)) = true := decide_eq_true (by omega)
      go_enter Try.func18, Try.ntmps18
      go_wp2_with fail
      refine (right10_any _ P _ (Hp.out.mono rPr_mono hx0)).mono ?_
      rintro e w3 ⟨rfl, n, rfl⟩
      go_wp2
      go_ret
      exact ⟨rfl, hx0.drewN n⟩
    · have hP0 : P.length = 0 := by omega
      have Hr : Hid (rightV ⟨2, s, P, T, Z⟩ = false) := Lib.hid (by unfold rightV; rw [Ho.out]; simp [hP0])
      rw [Hr.out]
      have gP : decide ((0 : Int) < (P.length : Int)) = false := decide_eq_false (by omega)
      clear hP0
      go_enter Try.func18, Try.ntmps18
      go_wp2_with fail
      go_ret
      exact ⟨by first | rfl | simp, hx0⟩
  · by_cases hs0 : s = ByteArray.empty
    case neg =>
      have Hf : Hid (rightV ⟨3, s, P, T, Z⟩ = false) := Lib.hid (if_pos (by unfold oddV; simp [hs0]))
      rw [Hf.out]
      rw [decide_eq_false hs0] at hse
      have hse2 : s.toList.isEmpty = false := by cases hl : s.toList with | nil => rw [hl] at hse; simp at hse | cons a b => rfl
      clear hs0
      go_enter Try.func18, Try.ntmps18
      go_wp2_with fail
      go_ret
      exact ⟨by first | rfl | simp, hx0⟩
    rw [decide_eq_true hs0] at hse
    have hse2 : s.toList.isEmpty = true := by rw [hs0]; simp
    have Hs0 := Lib.hid hs0
    clear hs0
    by_cases hP : 0 < P.length
    case pos =>
      have Hf : Hid (rightV ⟨3, s, P, T, Z⟩ = false) := Lib.hid (if_pos (by unfold oddV; simp only; simp [hP]))
      rw [Hf.out]
      have hg : decide ((0 : Int) < (P.length : Int)) = true := decide_eq_true (by omega)
      go_enter Try.func18, Try.ntmps18
      go_wp2_with fail
      go_ret
      exact ⟨by first | rfl | simp, hx0⟩
    have hP0 : P.length = 0 := by omega
    have HP0 := Lib.hid hP0
    have gP : decide ((0 : Int) < (P.length : Int)) = false := decide_eq_false (by omega)
    have kP : decide (0 < P.length) = false := decide_eq_false (by omega)
    clear hP0 hP
    by_cases hZ : 0 < Z.length
    case pos =>
      have Hf : Hid (rightV ⟨3, s, P, T, Z⟩ = false) := Lib.hid (if_pos (by unfold oddV; simp only; simp [hZ]))
      rw [Hf.out]
      have hg : decide ((0 : Int) < (Z.length : Int)) = true := decide_eq_true (by omega)
      go_enter Try.func18, Try.ntmps18
      go_wp2_with fail
      go_ret
      exact ⟨by first | rfl | simp, hx0⟩
    have hZ0 : Z.length = 0 := by omega
    have HZ0 := Lib.hid hZ0
    have gZ : decide ((0 : Int) < (Z.length : Int)) = false := decide_eq_false (by omega)
    have kZ : decide (0 < Z.length) = false := decide_eq_false (by omega)
    clear hZ0 hZ
    have Ho : Hid (oddV ⟨3, s, P, T, Z⟩ = false) := Lib.hid (by unfold oddV; simp [Hs0.out, HP0.out, HZ0.out])
    have Hr : Hid (rightV ⟨3, s, P, T, Z⟩ = (allN T.length (fun k => match T[k]? with | some s => !decide (4096 < s.size) | none => true) && (decide (0 < T.length) && decide (T.length ≤ 512)))) := Lib.hid (by unfold rightV; rw [Ho.out]; simp)
    have cb := box1 w #[.int .i64 3, .string s, .slice ap P.length cp, .slice at_ T.length ct, .slice az Z.length cz] 30 (i := 3) (g := w.heap.size) rfl rfl
    go_enter Try.func18, Try.ntmps18
    go_wp2_with fail
    go_loopw [3] (fun i wr => ∃ j : Nat, i = .int .i64 (j : Int) ∧ j ≤ T.length ∧ (∀ m, m < j → (match T[m]? with | some s => !decide (4096 < s.size) | none => true) = true) ∧ wr = w.alloc (.cells #[.int .i64 3, .string s, .slice ap P.length cp, .slice at_ T.length ct, .slice az Z.length cz] 30)) (fun i _ => T.length - (intOf i).toNat)
    case atStart => exact ⟨0, rfl, by omega, fun m hm => by omega, rfl⟩
    case round =>
      obtain ⟨j, rfl, hj, hall, hw⟩ := hrel
      have Hall := Lib.hid hall
      have Hw := Lib.hid hw
      have htr := Ht.out.mono rStr_mono hx0
      rw [← hw] at htr cb hx0
      have Hx0 := Lib.hid hx0
      clear hall hw hx0
      by_cases hlt : j < T.length
      · obtain ⟨y, hy⟩ : ∃ y, T[j]? = some y := ⟨_, List.getElem?_eq_getElem hlt⟩
        obtain ⟨g, o, rfl, hu, hs1⟩ := htr.atS hy
        have Hy := Lib.hid hy
        unfold maxLen at hs1
        clear hy
        by_cases hA : 4096 < y.size
        · have hd : decide ((4096 : Int) < (y.size : Int)) = true := decide_eq_true (by omega)
          have Hf : Hid (rightV ⟨3, s, P, T, Z⟩ = false) := Lib.hid (by rw [Hr.out, allN_false hlt (by rw [Hy.out]; simp [hA])]; rfl)
          go_wp2_with fail
          go_ret
          exact ⟨by rw [Hf.out]; rfl, Hx0.out⟩
        · have hd : decide ((4096 : Int) < (y.size : Int)) = false := decide_eq_false (by omega)
          have Hok : Hid ((match T[j]? with | some s => !decide (4096 < s.size) | none => true) = true) := Lib.hid (by rw [Hy.out]; simpa using hA)
          go_wp2_with fail
          exact ⟨⟨j + 1, by go_num, by omega, fun m hm => by
            by_cases e : m = j
            · rw [e]; exact Hok.out
            · exact Hall.out m (by omega), by first | exact Hw.out | rfl | trivial⟩, by simp [intOf]; omega⟩
      · obtain rfl : j = T.length := by omega
        have Hf : Hid (rightV ⟨3, s, P, T, Z⟩ = (decide (0 < T.length) && decide (T.length ≤ 512))) := Lib.hid (by rw [Hr.out, allN_true Hall.out, Bool.true_and])
        by_cases hT0 : 0 < T.length
        · have hg : decide ((0 : Int) < (T.length : Int)) = true := decide_eq_true (by omega)
          have Hf2 : Hid (rightV ⟨3, s, P, T, Z⟩ = decide (T.length ≤ 512)) := Lib.hid (by rw [Hf.out, decide_eq_true hT0, Bool.true_and])
          go_wp2_with fail
          go_ret
          refine ⟨?_, Hx0.out⟩
          rw [Hf2.out]
          show Ending.returned (.bool (decide ((T.length : Int) ≤ 512))) = _
          congr 2
          simp; try omega
        · have hg : decide ((0 : Int) < (T.length : Int)) = false := decide_eq_false (by omega)
          have hg2 : decide (0 < T.length) = false := decide_eq_false (by omega)
          have Hf2 : Hid (rightV ⟨3, s, P, T, Z⟩ = false) := Lib.hid (by rw [Hf.out, hg2, Bool.false_and])
          go_wp2_with fail
          go_ret
          exact ⟨by rw [Hf2.out]; rfl, Hx0.out⟩
  · by_cases hs0 : s = ByteArray.empty
    case neg =>
      have Hf : Hid (rightV ⟨4, s, P, T, Z⟩ = false) := Lib.hid (if_pos (by unfold oddV; simp [hs0]))
      rw [Hf.out]
      rw [decide_eq_false hs0] at hse
      have hse2 : s.toList.isEmpty = false := by cases hl : s.toList with | nil => rw [hl] at hse; simp at hse | cons a b => rfl
      clear hs0
      go_enter Try.func18, Try.ntmps18
      go_wp2_with fail
      go_ret
      exact ⟨by first | rfl | simp, hx0⟩
    rw [decide_eq_true hs0] at hse
    have hse2 : s.toList.isEmpty = true := by rw [hs0]; simp
    have Hs0 := Lib.hid hs0
    clear hs0
    by_cases hP : 0 < P.length
    case pos =>
      have Hf : Hid (rightV ⟨4, s, P, T, Z⟩ = false) := Lib.hid (if_pos (by unfold oddV; simp only; simp [hP]))
      rw [Hf.out]
      have hg : decide ((0 : Int) < (P.length : Int)) = true := decide_eq_true (by omega)
      go_enter Try.func18, Try.ntmps18
      go_wp2_with fail
      go_ret
      exact ⟨by first | rfl | simp, hx0⟩
    have hP0 : P.length = 0 := by omega
    have HP0 := Lib.hid hP0
    have gP : decide ((0 : Int) < (P.length : Int)) = false := decide_eq_false (by omega)
    have kP : decide (0 < P.length) = false := decide_eq_false (by omega)
    clear hP0 hP
    by_cases hZ : 0 < Z.length
    case pos =>
      have Hf : Hid (rightV ⟨4, s, P, T, Z⟩ = false) := Lib.hid (if_pos (by unfold oddV; simp only; simp [hZ]))
      rw [Hf.out]
      have hg : decide ((0 : Int) < (Z.length : Int)) = true := decide_eq_true (by omega)
      go_enter Try.func18, Try.ntmps18
      go_wp2_with fail
      go_ret
      exact ⟨by first | rfl | simp, hx0⟩
    have hZ0 : Z.length = 0 := by omega
    have HZ0 := Lib.hid hZ0
    have gZ : decide ((0 : Int) < (Z.length : Int)) = false := decide_eq_false (by omega)
    have kZ : decide (0 < Z.length) = false := decide_eq_false (by omega)
    clear hZ0 hZ
    have Ho : Hid (oddV ⟨4, s, P, T, Z⟩ = false) := Lib.hid (by unfold oddV; simp [Hs0.out, HP0.out, HZ0.out])
    by_cases hT : 0 < T.length
    · have Hr : Hid (rightV ⟨4, s, P, T, Z⟩ = rightT T) := Lib.hid (by unfold rightV; rw [Ho.out]; simp [hT])
      rw [Hr.out]
      have hg : decide ((0 : Int) < (T.length : Int)) = true := decide_eq_true (by omega)
      go_enter Try.func18, Try.ntmps18
      go_wp2_with fail
      refine (right12_any _ T _ (Ht.out.mono rStr_mono hx0)).mono ?_
      rintro e w3 ⟨rfl, n, rfl⟩
      go_wp2
      go_ret
      exact ⟨rfl, hx0.drewN n⟩
    · have hT0 : T.length = 0 := by omega
      have Hr : Hid (rightV ⟨4, s, P, T, Z⟩ = false) := Lib.hid (by unfold rightV; rw [Ho.out]; simp [hT0])
      rw [Hr.out]
      have gT : decide ((0 : Int) < (T.length : Int)) = false := decide_eq_false (by omega)
      clear hT0
      go_enter Try.func18, Try.ntmps18
      go_wp2_with fail
      go_ret
      exact ⟨by first | rfl | simp, hx0⟩
  · by_cases hs0 : s = ByteArray.empty
    case neg =>
      have Hf : Hid (rightV ⟨5, s, P, T, Z⟩ = false) := Lib.hid (if_pos (by unfold oddV; simp [hs0]))
      rw [Hf.out]
      rw [decide_eq_false hs0] at hse
      have hse2 : s.toList.isEmpty = false := by cases hl : s.toList with | nil => rw [hl] at hse; simp at hse | cons a b => rfl
      clear hs0
      go_enter Try.func18, Try.ntmps18
      go_wp2_with fail
      go_ret
      exact ⟨by first | rfl | simp, hx0⟩
    rw [decide_eq_true hs0] at hse
    have hse2 : s.toList.isEmpty = true := by rw [hs0]; simp
    have Hs0 := Lib.hid hs0
    clear hs0
    by_cases hP : 0 < P.length
    case pos =>
      have Hf : Hid (rightV ⟨5, s, P, T, Z⟩ = false) := Lib.hid (if_pos (by unfold oddV; simp only; simp [hP]))
      rw [Hf.out]
      have hg : decide ((0 : Int) < (P.length : Int)) = true := decide_eq_true (by omega)
      go_enter Try.func18, Try.ntmps18
      go_wp2_with fail
      go_ret
      exact ⟨by first | rfl | simp, hx0⟩
    have hP0 : P.length = 0 := by omega
    have HP0 := Lib.hid hP0
    have gP : decide ((0 : Int) < (P.length : Int)) = false := decide_eq_false (by omega)
    have kP : decide (0 < P.length) = false := decide_eq_false (by omega)
    clear hP0 hP
    by_cases hT : 0 < T.length
    case pos =>
      have Hf : Hid (rightV ⟨5, s, P, T, Z⟩ = false) := Lib.hid (if_pos (by unfold oddV; simp only; simp [hT]))
      rw [Hf.out]
      have hg : decide ((0 : Int) < (T.length : Int)) = true := decide_eq_true (by omega)
      go_enter Try.func18, Try.ntmps18
      go_wp2_with fail
      go_ret
      exact ⟨by first | rfl | simp, hx0⟩
    have hT0 : T.length = 0 := by omega
    have HT0 := Lib.hid hT0
    have gT : decide ((0 : Int) < (T.length : Int)) = false := decide_eq_false (by omega)
    have kT : decide (0 < T.length) = false := decide_eq_false (by omega)
    clear hT0 hT
    have Ho : Hid (oddV ⟨5, s, P, T, Z⟩ = false) := Lib.hid (by unfold oddV; simp [Hs0.out, HP0.out, HT0.out])
    by_cases hZ : 0 < Z.length
    · have Hr : Hid (rightV ⟨5, s, P, T, Z⟩ = rightZ Z) := Lib.hid (by unfold rightV; rw [Ho.out]; simp [hZ])
      rw [Hr.out]
      have hg : decide ((0 : Int) < (Z.length : Int)) = true := decide_eq_true (by omega)
      go_enter Try.func18, Try.ntmps18
      go_wp2_with fail
      refine (right13_any _ Z _ (Hz.out.mono rMb_mono hx0)).mono ?_
      rintro e w3 ⟨rfl, hx3⟩
      go_wp2
      go_ret
      exact ⟨rfl, hx0.then hx3⟩
    · have hZ0 : Z.length = 0 := by omega
      have Hr : Hid (rightV ⟨5, s, P, T, Z⟩ = false) := Lib.hid (by unfold rightV; rw [Ho.out]; simp [hZ0])
      rw [Hr.out]
      have gZ : decide ((0 : Int) < (Z.length : Int)) = false := decide_eq_false (by omega)
      clear hZ0
      go_enter Try.func18, Try.ntmps18
      go_wp2_with fail
      go_ret
      exact ⟨by first | rfl | simp, hx0⟩
end Go.Proofs.Ythclkljdnmokcaa
