/-
  list's functions, walked.
-/
import Derived.Test.YtlobedanjbcfkaaListW
import Derived.Test.YtlobedanjbcfkaaNumA
set_option linter.unusedVariables false
set_option linter.unusedSimpArgs false
namespace Go.Proofs.Ytlobedanjbcfkaa
open Go.RowKit Go.Proofs

def longB (s : ByteArray) : Bool := decide (4096 < s.size)
set_option maxRecDepth 100000 in
set_option maxHeartbeats 400000 in
theorem long_any (s : ByteArray) (w : World) (hs : s.size ≤ maxLen) : Calls Try.prog 43 #[.string s] w fun e w' => e = .returned (.bool (longB s)) ∧ w = w' := by
  unfold maxLen at hs
  unfold longB
  go_enter Try.func43, Try.ntmps43
  go_wp2
  go_ret
  exact ⟨by show Ending.returned (Value.bool _) = _; congr 2; exact decide_eq_decide.2 (by omega), rfl⟩

/-- what Remove's closure answers: c texts are wanted out, n are out -/
def delB (c : Int) (s : ByteArray) (n : Int) (x : ByteArray) : Bool := decide (x = s) && (decide (c = 0) || !(decide (n = c) || decide (n = -c)))
theorem lstr_beq (a b : ByteArray) : (a.toList == b.toList) = decide (a = b) := by
  rw [Bool.eq_iff_iff, beq_iff_eq, decide_eq_true_iff]
  exact ⟨lstr_ext, fun h => by rw [h]⟩
set_option maxRecDepth 100000 in
set_option maxHeartbeats 1000000 in
theorem clo_any (x s : ByteArray) (c n : Int) (g0 g1 gn : Nat) (w : World) (hc : Fits c) (hn : 0 ≤ n ∧ n ≤ 1000000) (h0 : w.cell? ⟨g0, 0, none⟩ = some (.int .i64 c)) (h1 : w.cell? ⟨g1, 0, none⟩ = some (.string s)) (h2 : w.cell? ⟨gn, 0, none⟩ = some (.int .i64 n)) (hf : w.frozen? ⟨gn, 0, none⟩ = false) :
    Calls Try.prog 39 #[.string x, .pointer (some ⟨g1, 0, none⟩), .pointer (some ⟨g0, 0, none⟩), .pointer (some ⟨gn, 0, none⟩)] w fun e w' => e = .returned (.bool (delB c s n x)) ∧ w' = if delB c s n x then w.setCell ⟨gn, 0, none⟩ (.int .i64 (n + 1)) else w := by
  obtain ⟨hc1, hc2⟩ := hc
  obtain ⟨hn1, hn2⟩ := hn
  have hb := lstr_beq x s
  by_cases hx : x = s
  · have ht : (x.toList == s.toList) = true := by rw [hb]; exact decide_eq_true hx
    by_cases h00 : c = 0
    · have Hd : delB c s n x = true := by unfold delB; simp [hx, h00]
      rw [Hd]
      clear Hd
      subst h00
      clear hb hx
      go_enter Try.func39, Try.ntmps39
      go_wp2_with fail
      go_ret
      exact ⟨rfl, by first | rfl | simp⟩
    · have h00' : (c != 0) = true := bne_iff_ne.2 h00
      by_cases hlo : c = -9223372036854775808
      · have Hd : delB c s n x = true := by unfold delB; simp [hx, hlo]; omega
        rw [Hd]
        clear Hd
        subst hlo
        have hw : wrap64 9223372036854775808 = -9223372036854775808 := by unfold wrap64; rfl
        have hq : (n == -9223372036854775808) = false := beq_eq_false_iff_ne.2 (by omega)
        clear hb hx
        go_enter Try.func39, Try.ntmps39
        go_wp2_with fail
        go_ret
        exact ⟨rfl, by first | rfl | simp⟩
      · have hlo2 : -9223372036854775807 ≤ c := by omega
        by_cases hnc : n = c
        · have Hd : delB c s n x = false := by unfold delB; simp [hx, h00, hnc]
          rw [Hd]
          clear Hd
          have hq : (n == c) = true := beq_iff_eq.2 hnc
          clear hb hx hnc hlo h00
          go_enter Try.func39, Try.ntmps39
          go_wp2_with fail
          go_ret
          exact ⟨rfl, by first | rfl | simp⟩
        · have hq : (n == c) = false := beq_eq_false_iff_ne.2 hnc
          by_cases hnc2 : n = -c
          · have Hd : delB c s n x = false := by unfold delB; simp [hx, h00, hnc2]
            rw [Hd]
            clear Hd
            have hq2 : (n == -c) = true := beq_iff_eq.2 hnc2
            clear hb hx hlo hnc2 h00
            go_enter Try.func39, Try.ntmps39
            go_wp2_with fail
            go_ret
            exact ⟨rfl, by first | rfl | simp⟩
          · have Hd : delB c s n x = true := by unfold delB; simp [hx, hnc, hnc2]
            rw [Hd]
            clear Hd
            have hq2 : (n == -c) = false := beq_eq_false_iff_ne.2 hnc2
            clear hb hx hlo hnc2 h00
            go_enter Try.func39, Try.ntmps39
            go_wp2_with fail
            go_ret
            exact ⟨rfl, by first | rfl | simp⟩
  · have ht : (x.toList == s.toList) = false := by rw [hb]; exact decide_eq_false hx
    have Hd : delB c s n x = false := by unfold delB; simp [hx]
    rw [Hd]
    clear Hd
    clear hb hx
    go_enter Try.func39, Try.ntmps39
    go_wp2_with fail
    go_ret
    exact ⟨rfl, by first | rfl | simp⟩
end Go.Proofs.Ytlobedanjbcfkaa
