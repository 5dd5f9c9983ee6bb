/-
  Numbers and their decimal texts, as mathematics.
-/
import Derived.WalkKit
namespace Go.Proofs.Ytlobedanjbcfkaa
open Go.RowKit

def i64lo : Int := -9223372036854775808
def i64hi : Int := 9223372036854775807
def Fits (x : Int) : Prop := -9223372036854775808 ≤ x ∧ x ≤ 9223372036854775807
theorem fits_wf {x : Int} (h : (Lit.int .i64 x).wf = true) : Fits x := by
  simpa [Lit.wf, IntKind.min, IntKind.max, IntKind.signed, IntKind.bits, Fits] using h

/-- the digits of a number, the highest first -/
def dig (m : Nat) : List UInt8 := if h : m < 10 then [UInt8.ofNat (48 + m)] else dig (m / 10) ++ [UInt8.ofNat (48 + m % 10)]
termination_by m
decreasing_by omega
theorem dig_small {m : Nat} (h : m < 10) : dig m = [UInt8.ofNat (48 + m)] := by rw [dig, dif_pos h]
theorem dig_big {m : Nat} (h : ¬ m < 10) : dig m = dig (m / 10) ++ [UInt8.ofNat (48 + m % 10)] := by rw [dig, dif_neg h]

def isDigit (c : UInt8) : Prop := 48 ≤ c.toNat ∧ c.toNat ≤ 57
theorem isDigit_of {m : Nat} (h : m < 10) : isDigit (UInt8.ofNat (48 + m)) := by
  unfold isDigit; rw [UInt8.toNat_ofNat']; omega
theorem dig_digits (m : Nat) : ∀ c ∈ dig m, isDigit c := by
  induction m using Nat.strongRecOn with
  | _ m ih =>
    by_cases h : m < 10
    · rw [dig_small h]
      intro c hc
      obtain rfl : c = UInt8.ofNat (48 + m) := by simpa using hc
      exact isDigit_of h
    · rw [dig_big h]
      intro c hc
      rcases List.mem_append.1 hc with hc | hc
      · exact ih (m / 10) (by omega) c hc
      · obtain rfl : c = UInt8.ofNat (48 + m % 10) := by simpa using hc
        exact isDigit_of (by omega)
theorem dig_ne (m : Nat) : dig m ≠ [] := by
  by_cases h : m < 10
  · rw [dig_small h]; simp
  · rw [dig_big h]; simp
theorem dig_length (m k : Nat) (h : m < 10 ^ k) (hk : 0 < k) : (dig m).length ≤ k := by
  induction k generalizing m with
  | zero => omega
  | succ k ih =>
    by_cases hm : m < 10
    · rw [dig_small hm]; simp
    · rw [dig_big hm]
      have hk' : 0 < k := by
        rcases Nat.eq_zero_or_pos k with h0 | h0
        · subst h0; simp at h; omega
        · exact h0
      have := ih (m / 10) (by rw [Nat.pow_succ] at h; omega) hk'
      simp; omega

/-- what digits mean -/
def valD (l : List UInt8) : Nat := l.foldl (fun n c => 10 * n + (c.toNat - 48)) 0
theorem valD_snoc (l : List UInt8) (c : UInt8) : valD (l ++ [c]) = 10 * valD l + (c.toNat - 48) := by simp [valD]
theorem valD_dig (m : Nat) : valD (dig m) = m := by
  induction m using Nat.strongRecOn with
  | _ m ih =>
    by_cases h : m < 10
    · rw [dig_small h]
      simp only [valD, List.foldl_cons, List.foldl_nil]
      rw [UInt8.toNat_ofNat']; omega
    · rw [dig_big h, valD_snoc, ih (m / 10) (by omega), UInt8.toNat_ofNat']; omega
theorem dig_inj {a b : Nat} (h : dig a = dig b) : a = b := by rw [← valD_dig a, h, valD_dig]
theorem foldl_val (l : List UInt8) (n : Nat) : l.foldl (fun n c => 10 * n + (c.toNat - 48)) n = n * 10 ^ l.length + valD l := by
  induction l generalizing n with
  | nil => simp [valD]
  | cons c l ih =>
    simp only [List.foldl_cons, valD, List.length_cons]
    rw [ih, ih (10 * 0 + _)]
    rw [Nat.pow_succ]
    simp only [Nat.mul_zero, Nat.zero_add, Nat.add_mul, Nat.mul_assoc, Nat.add_assoc]
    congr 1
    rw [Nat.mul_comm 10 (n * 10 ^ l.length), Nat.mul_assoc]
theorem valD_append (a b : List UInt8) : valD (a ++ b) = valD a * 10 ^ b.length + valD b := by
  have := foldl_val b (valD a)
  rw [← this]
  simp [valD]
theorem valD_take_le (l : List UInt8) (k : Nat) : valD (l.take k) ≤ valD l := by
  have h : valD l = valD (l.take k) * 10 ^ (l.drop k).length + valD (l.drop k) := by rw [← valD_append, List.take_append_drop]
  have hp : 0 < 10 ^ (l.drop k).length := Nat.pow_pos (by omega)
  have := Nat.le_mul_of_pos_right (valD (l.take k)) hp
  omega
theorem valD_cons (c : UInt8) (l : List UInt8) : valD (c :: l) = (c.toNat - 48) * 10 ^ l.length + valD l := by
  have := foldl_val l (10 * 0 + (c.toNat - 48))
  simpa [valD] using this
theorem valD_lt (l : List UInt8) (h : ∀ c ∈ l, isDigit c) : valD l < 10 ^ l.length := by
  induction l with
  | nil => simp [valD]
  | cons c l ih =>
    rw [valD_cons, List.length_cons, Nat.pow_succ]
    have h1 := ih (fun c hc => h c (by simp [hc]))
    have h2 := h c (by simp)
    unfold isDigit at h2
    have h3 : (c.toNat - 48) * 10 ^ l.length ≤ 9 * 10 ^ l.length := Nat.mul_le_mul_right _ (by omega)
    omega
theorem less_val (l m : List UInt8) (hl : ∀ c ∈ l, isDigit c) (hm : ∀ c ∈ m, isDigit c) (h : l.length = m.length) : Op.bytesLess l m = decide (valD l < valD m) := by
  induction l generalizing m with
  | nil =>
    have : m = [] := List.eq_nil_of_length_eq_zero (by simpa using h.symm)
    subst this
    simp [Op.bytesLess]
  | cons a l ih =>
    match m, h with
    | b :: m, h =>
      have hlen : l.length = m.length := by simpa using h
      have h1 := ih m (fun c hc => hl c (by simp [hc])) (fun c hc => hm c (by simp [hc])) hlen
      simp only [Op.bytesLess, h1]
      rw [valD_cons, valD_cons, hlen]
      have ha := hl a (by simp)
      have hb := hm b (by simp)
      have la := valD_lt l (fun c hc => hl c (by simp [hc]))
      have lb := valD_lt m (fun c hc => hm c (by simp [hc]))
      rw [hlen] at la
      unfold isDigit at ha hb
      rw [Bool.eq_iff_iff]
      simp only [Bool.or_eq_true, Bool.and_eq_true, decide_eq_true_eq, beq_iff_eq, UInt8.lt_iff_toNat_lt]
      generalize 10 ^ m.length = p at la lb
      rcases Nat.lt_trichotomy a.toNat b.toNat with hc | hc | hc
      · have : (a.toNat - 48 + 1) * p ≤ (b.toNat - 48) * p := Nat.mul_le_mul_right _ (by omega)
        rw [Nat.add_mul] at this
        constructor
        · intro _; omega
        · intro _; exact .inl hc
      · have hab : a = b := UInt8.toNat_inj.1 hc
        subst hab
        constructor
        · rintro (h | ⟨_, h⟩)
          · omega
          · omega
        · intro h; exact .inr ⟨rfl, by omega⟩
      · have : (b.toNat - 48 + 1) * p ≤ (a.toNat - 48) * p := Nat.mul_le_mul_right _ (by omega)
        rw [Nat.add_mul] at this
        constructor
        · rintro (h | ⟨h, _⟩)
          · omega
          · subst h; omega
        · intro h; omega

/-- a number's text -/
def decL (n : Int) : List UInt8 := if n < 0 then 45 :: dig n.natAbs else dig n.natAbs
def decS (n : Int) : ByteArray := ⟨(decL n).toArray⟩
theorem dig_head_ne (m : Nat) (l : List UInt8) : dig m ≠ 45 :: l := fun h => by
  have := dig_digits m 45 (by rw [h]; simp)
  unfold isDigit at this
  simp at this
theorem decL_inj {a b : Int} (h : decL a = decL b) : a = b := by
  unfold decL at h
  by_cases ha : a < 0 <;> by_cases hb : b < 0 <;> simp only [ha, hb, if_true, if_false] at h
  · have := dig_inj (List.cons.inj h).2; omega
  · exact absurd h.symm (dig_head_ne _ _)
  · exact absurd h (dig_head_ne _ _)
  · have := dig_inj h; omega
theorem decS_inj {a b : Int} (h : decS a = decS b) : a = b := by
  unfold decS at h
  injection h with h
  exact decL_inj (by simpa using h)
theorem decS_toList (n : Int) : (decS n).toList = decL n := by unfold decS; simp
theorem decS_size (n : Int) : (decS n).size = (decL n).length := by simp [decS, ByteArray.size]
theorem decL_less {a b : Int} (ha : 0 ≤ a) (hb : 0 ≤ b) (h : (decL a).length = (decL b).length) : Op.bytesLess (decL a) (decL b) = decide (a < b) := by
  unfold decL at h ⊢
  rw [if_neg (by omega), if_neg (by omega)] at h ⊢
  rw [less_val _ _ (dig_digits _) (dig_digits _) h, valD_dig, valD_dig]
  refine decide_eq_decide.2 ?_
  omega
theorem dig_le19 {m : Nat} (h : m ≤ 9223372036854775808) : (dig m).length ≤ 19 := dig_length m 19 (by omega) (by omega)
end Go.Proofs.Ytlobedanjbcfkaa
