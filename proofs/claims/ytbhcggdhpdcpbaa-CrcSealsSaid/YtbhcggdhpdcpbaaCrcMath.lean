/-
  CRC-32 as mathematics: the register, byte by byte, over 32 bits; a burst of four bytes is seen.
-/
import Derived.WalkKit
namespace Go.Proofs.Ytbhcggdhpdcpbaa
open Go.RowKit

/-- one bit's step -/
def crcS (x : BitVec 32) : BitVec 32 := (x >>> 1) ^^^ (if x.getLsbD 0 then 0xEDB88320#32 else 0#32)
def crcN : Nat → BitVec 32 → BitVec 32
  | 0, x => x
  | n + 1, x => crcN n (crcS x)
def crcO (x : BitVec 32) (c : UInt8) : BitVec 32 := crcN 8 (x ^^^ c.toBitVec.setWidth 32)
def crcR (x : BitVec 32) (l : List UInt8) : BitVec 32 := l.foldl crcO x
def crcSum (l : List UInt8) : BitVec 32 := ~~~ (crcR (BitVec.allOnes 32) l)

theorem crcN_add (m n : Nat) (x : BitVec 32) : crcN (m + n) x = crcN n (crcN m x) := by
  induction m generalizing x with
  | zero => simp [crcN]
  | succ m ih => rw [Nat.add_right_comm]; exact ih (crcS x)
theorem crcN_succ (n : Nat) (x : BitVec 32) : crcN (n + 1) x = crcS (crcN n x) := by
  rw [crcN_add n 1 x]; rfl
theorem crcR_append (x : BitVec 32) (l m : List UInt8) : crcR x (l ++ m) = crcR (crcR x l) m := by simp [crcR]
theorem crcR_snoc (x : BitVec 32) (l : List UInt8) (c : UInt8) : crcR x (l ++ [c]) = crcO (crcR x l) c := by simp [crcR]

theorem crcS_xor (x y : BitVec 32) : crcS (x ^^^ y) = crcS x ^^^ crcS y := by
  unfold crcS
  rw [BitVec.ushiftRight_xor_distrib, BitVec.getLsbD_xor]
  cases x.getLsbD 0 <;> cases y.getLsbD 0 <;> simp
  · rw [BitVec.xor_assoc]
  · rw [BitVec.xor_assoc, BitVec.xor_assoc, BitVec.xor_comm (y >>> 1)]
  · rw [BitVec.xor_assoc, BitVec.xor_comm 3988292384#32, BitVec.xor_assoc, BitVec.xor_self, BitVec.xor_zero]
theorem crcN_xor (n : Nat) (x y : BitVec 32) : crcN n (x ^^^ y) = crcN n x ^^^ crcN n y := by
  induction n generalizing x y with
  | zero => rfl
  | succ n ih => simp only [crcN]; rw [crcS_xor, ih]
theorem crcS_zero : crcS 0#32 = 0#32 := by decide
theorem crcS_eq_zero (x : BitVec 32) (h : crcS x = 0#32) : x = 0#32 := by
  have h0 : x.getLsbD 0 = false := by
    cases hb : x.getLsbD 0 with
    | false => rfl
    | true =>
      unfold crcS at h
      rw [hb] at h
      have := congrArg (fun z => z.getLsbD 31) h
      simp at this
  unfold crcS at h
  rw [h0] at h
  simp only [Bool.false_eq_true, if_false, BitVec.xor_zero] at h
  apply BitVec.eq_of_getLsbD_eq
  intro i hi
  cases i with
  | zero => rw [h0]; simp
  | succ i =>
    have := congrArg (fun z => z.getLsbD i) h
    simp only [BitVec.getLsbD_ushiftRight] at this
    rw [Nat.add_comm] at this
    rw [this]; simp
theorem crcN_eq_zero (n : Nat) (x : BitVec 32) (h : crcN n x = 0#32) : x = 0#32 := by
  induction n generalizing x with
  | zero => exact h
  | succ n ih => exact crcS_eq_zero x (ih _ h)
theorem xor_eq_zero' {x y : BitVec 32} (h : x ^^^ y = 0#32) : x = y := by
  have : x ^^^ y ^^^ y = 0#32 ^^^ y := by rw [h]
  rwa [BitVec.xor_assoc, BitVec.xor_self, BitVec.xor_zero, BitVec.zero_xor] at this
theorem crcN_inj (n : Nat) {x y : BitVec 32} (h : crcN n x = crcN n y) : x = y := by
  apply xor_eq_zero'
  apply crcN_eq_zero n
  rw [crcN_xor, h, BitVec.xor_self]
theorem crcR_inj (l : List UInt8) {x y : BitVec 32} (h : crcR x l = crcR y l) : x = y := by
  induction l generalizing x y with
  | nil => exact h
  | cons c l ih =>
    have h1 : crcO x c = crcO y c := ih h
    have h2 := crcN_inj 8 h1
    have : (x ^^^ c.toBitVec.setWidth 32) ^^^ c.toBitVec.setWidth 32 = (y ^^^ c.toBitVec.setWidth 32) ^^^ c.toBitVec.setWidth 32 := by rw [h2]
    simpa [BitVec.xor_assoc] using this

/-- low bits that are 0 are shifted out -/
theorem crcN_low (n : Nat) (x : BitVec 32) (h : ∀ i, i < n → x.getLsbD i = false) : crcN n x = x >>> n := by
  induction n generalizing x with
  | zero => simp [crcN]
  | succ n ih =>
    have h1 : crcS x = x >>> 1 := by
      unfold crcS
      rw [h 0 (by omega)]; simp
    show crcN n (crcS x) = _
    rw [h1, ih]
    · rw [← BitVec.shiftRight_add, Nat.add_comm]
    · intro i hi
      rw [BitVec.getLsbD_ushiftRight, Nat.add_comm]
      exact h _ (by omega)

def byteAt (c : UInt8) (k : Nat) : BitVec 32 := c.toBitVec.setWidth 32 <<< (8 * k)
theorem crcN_byteAt (c : UInt8) (k : Nat) (hk : k < 3) : crcN 8 (byteAt c (k + 1)) = byteAt c k := by
  rw [crcN_low 8]
  · unfold byteAt
    apply BitVec.eq_of_getLsbD_eq
    intro i hi
    simp only [BitVec.getLsbD_ushiftRight, BitVec.getLsbD_shiftLeft, BitVec.getLsbD_setWidth]
    by_cases h1 : i < 8 * k
    · simp [h1, show 8 + i < 8 * (k + 1) by omega]
    · have e : 8 + i - 8 * (k + 1) = i - 8 * k := by omega
      rw [e]
      by_cases h2 : 8 + i < 32
      · simp [h1, h2, hi, show ¬ 8 + i < 8 * (k + 1) by omega]
      · have : c.toBitVec.getLsbD (i - 8 * k) = false := BitVec.getLsbD_of_ge _ _ (by omega)
        simp [h2, this]
  · intro i hi
    unfold byteAt
    simp [show i < 8 * (k + 1) by omega]
def word4 (a b c d : UInt8) : BitVec 32 := byteAt a 0 ^^^ byteAt b 1 ^^^ byteAt c 2 ^^^ byteAt d 3
theorem byteAt_zero (c : UInt8) : byteAt c 0 = c.toBitVec.setWidth 32 := by simp [byteAt]
theorem crcR_four (x : BitVec 32) (a b c d : UInt8) : crcR x [a, b, c, d] = crcN 32 (x ^^^ word4 a b c d) := by
  have hb : byteAt b 0 = crcN 8 (byteAt b 1) := (crcN_byteAt b 0 (by omega)).symm
  have hc : byteAt c 0 = crcN 8 (crcN 8 (byteAt c 2)) := by rw [crcN_byteAt c 1 (by omega), crcN_byteAt c 0 (by omega)]
  have hd : byteAt d 0 = crcN 8 (crcN 8 (crcN 8 (byteAt d 3))) := by rw [crcN_byteAt d 2 (by omega), crcN_byteAt d 1 (by omega), crcN_byteAt d 0 (by omega)]
  show crcN 8 (crcN 8 (crcN 8 (crcN 8 (x ^^^ a.toBitVec.setWidth 32) ^^^ b.toBitVec.setWidth 32) ^^^ c.toBitVec.setWidth 32) ^^^ d.toBitVec.setWidth 32) = _
  rw [← byteAt_zero a, ← byteAt_zero b, ← byteAt_zero c, ← byteAt_zero d]
  rw [hb, hc, hd]
  rw [← crcN_xor, ← crcN_xor, ← crcN_xor, ← crcN_xor, ← crcN_xor, ← crcN_xor]
  have e32 : ∀ z, crcN 32 z = crcN 8 (crcN 8 (crcN 8 (crcN 8 z))) := fun z => by
    rw [← crcN_add 8 8, ← crcN_add 8 (8 + 8), ← crcN_add 8 (8 + (8 + 8))]
  rw [e32]
  unfold word4
  simp only [BitVec.xor_assoc]
theorem byteAt_bit (c : UInt8) (k i : Nat) (hk : k < 4) : (byteAt c k).getLsbD i = (decide (8 * k ≤ i) && decide (i < 8 * k + 8) && c.toBitVec.getLsbD (i - 8 * k)) := by
  unfold byteAt
  simp only [BitVec.getLsbD_shiftLeft, BitVec.getLsbD_setWidth]
  by_cases h1 : i < 8 * k
  · simp [h1, show ¬ 8 * k ≤ i by omega]
  · by_cases h2 : i < 8 * k + 8
    · simp [h1, h2, show 8 * k ≤ i by omega, show i < 32 by omega, show i - 8 * k < 32 by omega]
    · have : c.toBitVec.getLsbD (i - 8 * k) = false := BitVec.getLsbD_of_ge _ _ (by omega)
      simp [this]
theorem word4_bit (a b c d : UInt8) (i : Nat) (hi : i < 8) :
    (word4 a b c d).getLsbD i = a.toBitVec.getLsbD i ∧ (word4 a b c d).getLsbD (8 + i) = b.toBitVec.getLsbD i ∧
    (word4 a b c d).getLsbD (16 + i) = c.toBitVec.getLsbD i ∧ (word4 a b c d).getLsbD (24 + i) = d.toBitVec.getLsbD i := by
  unfold word4
  simp only [BitVec.getLsbD_xor, byteAt_bit _ _ _ (show 0 < 4 by omega), byteAt_bit _ _ _ (show 1 < 4 by omega), byteAt_bit _ _ _ (show 2 < 4 by omega), byteAt_bit _ _ _ (show 3 < 4 by omega)]
  refine ⟨?_, ?_, ?_, ?_⟩
  · simp [hi, show ¬ 8 ≤ i by omega, show ¬ 16 ≤ i by omega, show ¬ 24 ≤ i by omega]
  · simp [show ¬ 8 + i < 8 by omega, show 8 + i < 16 by omega, show ¬ 16 ≤ 8 + i by omega, show ¬ 24 ≤ 8 + i by omega]
  · simp [show ¬ 16 + i < 8 by omega, show ¬ 16 + i < 16 by omega, show 16 + i < 24 by omega, show ¬ 24 ≤ 16 + i by omega]
  · simp [show ¬ 24 + i < 8 by omega, show ¬ 24 + i < 16 by omega, show ¬ 24 + i < 24 by omega, show 24 + i < 32 by omega]
theorem byte_ext {a b : UInt8} (h : ∀ i, i < 8 → a.toBitVec.getLsbD i = b.toBitVec.getLsbD i) : a = b := by
  have : a.toBitVec = b.toBitVec := BitVec.eq_of_getLsbD_eq fun i hi => h i hi
  exact UInt8.toBitVec_inj.1 this
theorem word4_inj {a b c d a' b' c' d' : UInt8} (h : word4 a b c d = word4 a' b' c' d') : a = a' ∧ b = b' ∧ c = c' ∧ d = d' := by
  refine ⟨byte_ext fun i hi => ?_, byte_ext fun i hi => ?_, byte_ext fun i hi => ?_, byte_ext fun i hi => ?_⟩
  · rw [← (word4_bit a b c d i hi).1, h, (word4_bit a' b' c' d' i hi).1]
  · rw [← (word4_bit a b c d i hi).2.1, h, (word4_bit a' b' c' d' i hi).2.1]
  · rw [← (word4_bit a b c d i hi).2.2.1, h, (word4_bit a' b' c' d' i hi).2.2.1]
  · rw [← (word4_bit a b c d i hi).2.2.2, h, (word4_bit a' b' c' d' i hi).2.2.2]
theorem four_of_length {l : List UInt8} (h : l.length = 4) : ∃ a b c d, l = [a, b, c, d] := by
  match l, h with
  | [a, b, c, d], _ => exact ⟨a, b, c, d, rfl⟩
/-- A BURST OF FOUR BYTES IS SEEN. -/
theorem crcR_burst (x : BitVec 32) (p u v s : List UInt8) (hu : u.length = 4) (hv : v.length = 4) : crcR x (p ++ u ++ s) = crcR x (p ++ v ++ s) ↔ u = v := by
  constructor
  · intro h
    rw [crcR_append, crcR_append, crcR_append, crcR_append] at h
    have h1 := crcR_inj s h
    obtain ⟨a, b, c, d, rfl⟩ := four_of_length hu
    obtain ⟨a', b', c', d', rfl⟩ := four_of_length hv
    rw [crcR_four, crcR_four] at h1
    have h2 := crcN_inj 32 h1
    have h3 : crcR x p ^^^ (crcR x p ^^^ word4 a b c d) = crcR x p ^^^ (crcR x p ^^^ word4 a' b' c' d') := by rw [h2]
    rw [← BitVec.xor_assoc, ← BitVec.xor_assoc, BitVec.xor_self, BitVec.zero_xor, BitVec.zero_xor] at h3
    obtain ⟨rfl, rfl, rfl, rfl⟩ := word4_inj h3
    rfl
  · rintro rfl; rfl
/-- a text with its sum behind leaves one residue, and no other does -/
def crcRes : BitVec 32 := crcN 32 (BitVec.allOnes 32)
theorem crc_sealed (l : List UInt8) (a b c d : UInt8) : crcR (BitVec.allOnes 32) (l ++ [a, b, c, d]) = crcRes ↔ word4 a b c d = crcSum l := by
  rw [crcR_append, crcR_four]
  unfold crcRes crcSum
  generalize crcR (BitVec.allOnes 32) l = r
  constructor
  · intro h
    have h1 := crcN_inj 32 h
    have : r ^^^ (r ^^^ word4 a b c d) = r ^^^ BitVec.allOnes 32 := by rw [h1]
    rw [← BitVec.xor_assoc, BitVec.xor_self, BitVec.zero_xor] at this
    rw [this, BitVec.xor_comm, BitVec.allOnes_xor]
  · intro h
    rw [h]
    congr 1
    rw [BitVec.not_def, BitVec.xor_comm (BitVec.allOnes 32) r, ← BitVec.xor_assoc, BitVec.xor_self, BitVec.zero_xor]
    
/-- a word's bytes, the lowest first -/
def le4 (n : BitVec 32) : List UInt8 := [UInt8.ofNat (n.toNat % 256), UInt8.ofNat (n.toNat / 256 % 256), UInt8.ofNat (n.toNat / 65536 % 256), UInt8.ofNat (n.toNat / 16777216 % 256)]
theorem byte_bit (m i : Nat) (hi : i < 8) : (UInt8.ofNat (m % 256)).toBitVec.getLsbD i = m.testBit i := by
  show (BitVec.ofNat 8 (m % 256)).getLsbD i = _
  rw [BitVec.getLsbD_ofNat]
  rw [show (256 : Nat) = 2 ^ 8 from rfl, Nat.testBit_mod_two_pow]
  simp [hi]
theorem word4_le4 (n : BitVec 32) : word4 (UInt8.ofNat (n.toNat % 256)) (UInt8.ofNat (n.toNat / 256 % 256)) (UInt8.ofNat (n.toNat / 65536 % 256)) (UInt8.ofNat (n.toNat / 16777216 % 256)) = n := by
  apply BitVec.eq_of_getLsbD_eq
  intro i hi
  have hd : ∀ k j, (n.toNat / 2 ^ k).testBit j = n.getLsbD (k + j) := fun k j => by
    rw [Nat.testBit_div_two_pow, Nat.add_comm]; rfl
  have h0 := word4_bit (UInt8.ofNat (n.toNat % 256)) (UInt8.ofNat (n.toNat / 256 % 256)) (UInt8.ofNat (n.toNat / 65536 % 256)) (UInt8.ofNat (n.toNat / 16777216 % 256)) (i % 8) (Nat.mod_lt _ (by omega))
  obtain ⟨h1, h2, h3, h4⟩ := h0
  have hm := Nat.mod_lt i (show 0 < 8 by omega)
  rw [byte_bit _ _ hm] at h1 h2 h3 h4
  rw [show (256 : Nat) = 2 ^ 8 from rfl, hd] at h2
  rw [show (65536 : Nat) = 2 ^ 16 from rfl, hd] at h3
  rw [show (16777216 : Nat) = 2 ^ 24 from rfl, hd] at h4
  rcases (show i = i % 8 ∨ i = 8 + i % 8 ∨ i = 16 + i % 8 ∨ i = 24 + i % 8 by omega) with h | h | h | h
  · rw [← h] at h1; exact h1
  · rw [← h] at h2; exact h2
  · rw [← h] at h3; exact h3
  · rw [← h] at h4; exact h4
def crcSeal (l : List UInt8) : List UInt8 := l ++ le4 (crcSum l)
theorem crcSeal_res (l : List UInt8) : crcR (BitVec.allOnes 32) (crcSeal l) = crcRes := (crc_sealed l _ _ _ _).2 (word4_le4 _)
/-- what is sealed, by its residue -/
theorem sealed_iff (l : List UInt8) (h : 4 ≤ l.length) : crcSeal (l.take (l.length - 4)) = l ↔ crcR (BitVec.allOnes 32) l = crcRes := by
  constructor
  · intro e; rw [← e]; exact crcSeal_res _
  · intro e
    obtain ⟨a, b, c, d, hd⟩ := four_of_length (l := l.drop (l.length - 4)) (by simp; omega)
    have hl : l = l.take (l.length - 4) ++ [a, b, c, d] := by rw [← hd, List.take_append_drop]
    rw [hl] at e
    have h1 := (crc_sealed _ _ _ _ _).1 e
    have h2 := word4_le4 (crcSum (l.take (l.length - 4)))
    rw [← h1] at h2
    obtain ⟨e1, e2, e3, e4⟩ := word4_inj h2
    unfold crcSeal le4
    rw [← h1, e1, e2, e3, e4, ← hl]

/-! ### The model's spellings -/
theorem bits_xor32 (a b : Int) : bits .xor .u32 a b = ((BitVec.ofInt 32 a ^^^ BitVec.ofInt 32 b).toNat : Int) := by
  unfold bits
  simp only [IntKind.wrap_u32]
  have := (BitVec.ofInt 32 a ^^^ BitVec.ofInt 32 b).isLt
  show ((BitVec.ofInt 32 a ^^^ BitVec.ofInt 32 b).toNat : Int) % 4294967296 = _
  omega
theorem bits_and32 (a b : Int) : bits .and .u32 a b = ((BitVec.ofInt 32 a &&& BitVec.ofInt 32 b).toNat : Int) := by
  unfold bits
  simp only [IntKind.wrap_u32]
  have := (BitVec.ofInt 32 a &&& BitVec.ofInt 32 b).isLt
  show ((BitVec.ofInt 32 a &&& BitVec.ofInt 32 b).toNat : Int) % 4294967296 = _
  omega
theorem ofInt_toNat32 (x : BitVec 32) : BitVec.ofInt 32 (x.toNat : Int) = x := by simp
theorem ofInt_half32 (x : BitVec 32) : BitVec.ofInt 32 ((x.toNat : Int) / 2) = x >>> 1 := by
  apply BitVec.eq_of_toNat_eq
  have e : ((x.toNat : Int) / 2) = ((x.toNat / 2 : Nat) : Int) := by omega
  rw [e, BitVec.ofInt_natCast]
  have := x.isLt
  simp [Nat.shiftRight_eq_div_pow]
  omega
theorem ofInt_neg32 (x : BitVec 32) : BitVec.ofInt 32 (-(x.toNat : Int) % 4294967296) = -x := by
  apply BitVec.eq_of_toInt_eq
  rw [BitVec.toInt_ofInt]
  have h1 : (-x) = BitVec.ofInt 32 (-(x.toNat : Int)) := by
    rw [BitVec.ofInt_neg]; simp
  rw [h1, BitVec.toInt_ofInt]
  simp only [Int.bmod]
  omega
theorem impl_step (x : BitVec 32) : bits .xor .u32 ((x.toNat : Int) / 2) (bits .and .u32 3988292384 (-bits .and .u32 (x.toNat : Int) 1 % 4294967296)) = ((crcS x).toNat : Int) := by
  rw [bits_xor32, bits_and32 3988292384, bits_and32 (x.toNat : Int) 1, ofInt_neg32, ofInt_toNat32, ofInt_toNat32, ofInt_half32]
  congr 2
  unfold crcS
  congr 1
  rw [show BitVec.ofInt 32 1 = 1#32 from rfl, show BitVec.ofInt 32 3988292384 = 0xEDB88320#32 from rfl]
  have e1 : x &&& 1#32 = if x.getLsbD 0 then 1#32 else 0#32 := by
    apply BitVec.eq_of_getLsbD_eq
    intro i hi
    cases hb : x.getLsbD 0 <;> cases i with
    | zero => first | (rw [BitVec.getLsbD_and, hb]; simp; done) | (simp [hb]; done) | (simp; simpa using hb)
    | succ i => simp [BitVec.getLsbD_one]
  rw [e1]
  cases x.getLsbD 0 <;> decide
theorem impl_half (x : BitVec 32) (h : (x.toNat : Int) % 2 = 0) : ((x.toNat : Int) / 2) = ((crcS x).toNat : Int) := by
  have h0 : x.getLsbD 0 = false := by
    have : x.toNat % 2 = 0 := by omega
    rw [BitVec.getLsbD, Nat.testBit_zero]; simp [this]
  unfold crcS
  rw [h0]
  simp [Nat.shiftRight_eq_div_pow]
theorem impl_odd (x : BitVec 32) (h : (x.toNat : Int) % 2 = 1) : bits .xor .u32 ((x.toNat : Int) / 2) 3988292384 = ((crcS x).toNat : Int) := by
  have h0 : x.getLsbD 0 = true := by
    have : x.toNat % 2 = 1 := by omega
    rw [BitVec.getLsbD, Nat.testBit_zero]; simp [this]
  rw [bits_xor32, ofInt_half32]
  unfold crcS
  rw [h0]
  rfl
theorem impl_in (x : BitVec 32) (c : UInt8) : bits .xor .u32 (x.toNat : Int) (c.toNat : Int) = ((x ^^^ c.toBitVec.setWidth 32).toNat : Int) := by
  rw [bits_xor32, ofInt_toNat32]
  congr 2
  rw [BitVec.ofInt_natCast]
  apply BitVec.eq_of_toNat_eq
  simp
theorem impl_not (x : BitVec 32) : bits .xor .u32 4294967295 (x.toNat : Int) = ((~~~ x).toNat : Int) := by
  rw [bits_xor32, ofInt_toNat32]
  congr 2
theorem impl_not' (x : BitVec 32) : bits .xor .u32 (x.toNat : Int) 4294967295 = ((~~~ x).toNat : Int) := by
  rw [bits_xor32, ofInt_toNat32]
  congr 2
  rw [BitVec.xor_comm]
  rfl
theorem ofNat_toNat8 (m : Nat) (h : m < 256) : (UInt8.ofNat m).toNat = m := by rw [UInt8.toNat_ofNat']; omega
theorem le4_cells (x : BitVec 32) : ((le4 x).map fun (b : UInt8) => Value.int .u8 (b.toNat : Int)).toArray =
    #[Value.int .u8 ((x.toNat : Int) % 256), Value.int .u8 ((x.toNat : Int) / 256 % 256), Value.int .u8 ((x.toNat : Int) / 65536 % 256), Value.int .u8 ((x.toNat : Int) / 16777216)] := by
  have hx := x.isLt
  simp only [le4, List.map_cons, List.map_nil]
  rw [ofNat_toNat8 _ (by omega), ofNat_toNat8 _ (by omega), ofNat_toNat8 _ (by omega), ofNat_toNat8 _ (by omega)]
  have e1 : ((x.toNat % 256 : Nat) : Int) = (x.toNat : Int) % 256 := by omega
  have e2 : ((x.toNat / 256 % 256 : Nat) : Int) = (x.toNat : Int) / 256 % 256 := by omega
  have e3 : ((x.toNat / 65536 % 256 : Nat) : Int) = (x.toNat : Int) / 65536 % 256 := by omega
  have e4 : ((x.toNat / 16777216 % 256 : Nat) : Int) = (x.toNat : Int) / 16777216 := by omega
  rw [e1, e2, e3, e4]
end Go.Proofs.Ytbhcggdhpdcpbaa
