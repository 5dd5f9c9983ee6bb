/-
  Plain: octets are read back (no program in sight).
-/
import Derived.Test.YthclkljdnmokcaaPackAll
import Derived.Test.YthclkljdnmokcaaRight14
set_option linter.unusedVariables false
set_option linter.unusedSimpArgs false
namespace Go.Proofs.Ythclkljdnmokcaa
open Go.RowKit Go.Proofs

/-- the number that octets are, the highest first -/
def bNum : List UInt8 → Nat
  | [] => 0
  | c :: l => c.toNat * 256 ^ l.length + bNum l
theorem bNum_lt (l : List UInt8) : bNum l < 256 ^ l.length := by
  induction l with
  | nil => simp [bNum]
  | cons c l ih =>
    have hc := c.toNat_lt
    have : c.toNat * 256 ^ l.length ≤ 255 * 256 ^ l.length := Nat.mul_le_mul_right _ (by omega)
    simp only [bNum, List.length_cons, Nat.pow_succ]
    omega
theorem bNum_snoc (l : List UInt8) (c : UInt8) : bNum (l ++ [c]) = bNum l * 256 + c.toNat := by
  induction l with
  | nil => simp [bNum]
  | cons d l ih =>
    simp only [List.cons_append, bNum, List.length_append, List.length_cons, List.length_nil, ih, Nat.pow_succ, Nat.add_mul, Nat.mul_assoc, Nat.pow_zero, Nat.one_mul, Nat.zero_add, Nat.add_assoc]
theorem octet_toNat (n : Int) (k : Nat) : (octet n k).toNat = (n / 256 ^ k % 256).toNat := by
  unfold octet
  rw [show (2 : Int) ^ (8 * k) = 256 ^ k by rw [Int.pow_mul]; rfl, UInt8.toNat_ofNat']
  omega
theorem bNum_octets (n : Int) (k : Nat) : (bNum (octets n k) : Int) = n % 256 ^ k := by
  induction k with
  | zero => simp [octets, bNum, Int.emod_one]
  | succ k ih =>
    rw [octets_step]
    simp only [bNum]
    rw [octets_length, octet_toNat, Int.natCast_add, Int.natCast_mul, ih, Int.toNat_of_nonneg (Int.emod_nonneg _ (by decide))]
    rw [show ((256 ^ k : Nat) : Int) = 256 ^ k by simp, Int.pow_succ]
    have hM : (0 : Int) < 256 ^ k := Int.pow_pos (by decide)
    generalize (256 : Int) ^ k = M at hM ⊢
    have e1 := Int.mul_ediv_add_emod n M
    have e2 := Int.mul_ediv_add_emod (n / M) 256
    have b1 := Int.emod_nonneg n (Int.ne_of_gt hM)
    have b2 := Int.emod_lt_of_pos n hM
    have b3 := Int.emod_nonneg (n / M) (show (256 : Int) ≠ 0 by decide)
    have b4 := Int.emod_lt_of_pos (n / M) (show (0 : Int) < 256 by decide)
    generalize n % M = r at *
    generalize n / M % 256 = d at *
    generalize n / M / 256 = q at *
    generalize n / M = t at *
    subst e2
    subst e1
    have h1 : M * (256 * q + d) + r = (d * M + r) + (M * 256) * q := by
      rw [Int.mul_add, ← Int.mul_assoc, Int.mul_comm M d]; omega
    rw [h1, Int.add_mul_emod_self_left, Int.emod_eq_of_lt]
    · have : 0 ≤ d * M := Int.mul_nonneg b3 (Int.le_of_lt hM)
      omega
    · have : d * M ≤ 255 * M := Int.mul_le_mul_of_nonneg_right (by omega) (Int.le_of_lt hM)
      omega
def i64Of (m : Nat) : Int := IntKind.i64.wrap (m : Int)
theorem i64Of_octets {n : Int} (h1 : -9223372036854775808 ≤ n) (h2 : n ≤ 9223372036854775807) : i64Of (bNum (octets n 8)) = n := by
  unfold i64Of
  rw [bNum_octets]
  rw [show (256 : Int) ^ 8 = 18446744073709551616 by decide]
  simp only [IntKind.wrap, IntKind.signed, IntKind.bits]
  simp
  omega
/-- the text from a place on, and where it ends -/
def wordAt (l : List UInt8) (i : Nat) : Option (ByteArray × Nat) :=
  if i + 2 ≤ l.length then
    if i + 2 + bNum ((l.drop i).take 2) ≤ l.length then
      some (⟨((l.drop (i + 2)).take (bNum ((l.drop i).take 2))).toArray⟩, i + 2 + bNum ((l.drop i).take 2))
    else none
  else none
theorem wordAt_laid (pre post : List UInt8) (s : ByteArray) (hs : s.size < 65536) : wordAt (pre ++ (octets (s.size : Int) 2 ++ s.toList) ++ post) pre.length = some (s, pre.length + 2 + s.size) := by
  have hb : s.toList.length = s.size := bsize s
  have hn : bNum (octets (s.size : Int) 2) = s.size := by
    have h := bNum_octets (s.size : Int) 2
    rw [show (256 : Int) ^ 2 = 65536 by decide, Int.emod_eq_of_lt (by omega) (by omega)] at h
    omega
  have hd : (pre ++ (octets (s.size : Int) 2 ++ s.toList) ++ post).drop pre.length = octets (s.size : Int) 2 ++ (s.toList ++ post) := by simp
  have ht : ((pre ++ (octets (s.size : Int) 2 ++ s.toList) ++ post).drop pre.length).take 2 = octets (s.size : Int) 2 := by
    rw [hd, List.take_append_of_le_length (by rw [octets_length]; exact Nat.le_refl _), List.take_of_length_le (by rw [octets_length]; exact Nat.le_refl _)]
  have hd2 : (pre ++ (octets (s.size : Int) 2 ++ s.toList) ++ post).drop (pre.length + 2) = s.toList ++ post := by
    rw [← List.drop_drop, hd, List.drop_append_of_le_length (by rw [octets_length]; exact Nat.le_refl _), List.drop_of_length_le (by rw [octets_length]; exact Nat.le_refl _)]; rfl
  have hL : (pre ++ (octets (s.size : Int) 2 ++ s.toList) ++ post).length = pre.length + 2 + s.size + post.length := by
    simp only [List.length_append, octets_length, hb]; omega
  unfold wordAt
  rw [ht, hn, hd2, hL, if_pos (by omega), if_pos (by omega)]
  congr 2
  rw [List.take_append_of_le_length (by omega), List.take_of_length_le (by omega)]
  rw [ByteArray.toList_eq]
/-- so many things, one behind the other -/
def many {α : Type} (f : Nat → Option (α × Nat)) : Nat → Nat → Option (List α × Nat)
  | 0, i => some ([], i)
  | k + 1, i => (many f k i).bind fun r => (f r.2).map fun y => (r.1 ++ [y.1], y.2)
def pairAt (l : List UInt8) (i : Nat) : Option ((ByteArray × ByteArray) × Nat) := (wordAt l i).bind fun s => (wordAt l s.2).map fun t => ((s.1, t.1), t.2)
def membAt (l : List UInt8) (i : Nat) : Option ((Int × ByteArray) × Nat) :=
  if i + 8 ≤ l.length then (wordAt l (i + 8)).map fun s => ((i64Of (bNum ((l.drop i).take 8)), s.1), s.2) else none
theorem many_laid {α : Type} (f : List UInt8 → Nat → Option (α × Nat)) (enc : α → List UInt8) (ok : α → Prop) (hf : ∀ pre x post, ok x → f (pre ++ enc x ++ post) pre.length = some (x, pre.length + (enc x).length)) (pre : List UInt8) :
    ∀ (n : Nat) (xs : List α), xs.length = n → (∀ x ∈ xs, ok x) → ∀ post, many (f (pre ++ (xs.map enc).flatten ++ post)) n pre.length = some (xs, pre.length + ((xs.map enc).flatten).length) := by
  intro n
  induction n with
  | zero =>
    intro xs hn _ post
    obtain rfl : xs = [] := List.length_eq_zero_iff.1 hn
    simp [many]
  | succ n ih =>
    intro xs hn hok post
    obtain ⟨ys, y, rfl⟩ : ∃ ys y, xs = ys ++ [y] := ⟨xs.dropLast, xs.getLast (by intro h; simp [h] at hn), (List.dropLast_concat_getLast _).symm⟩
    have hyn : ys.length = n := by simpa using hn
    have e : pre ++ ((ys ++ [y]).map enc).flatten ++ post = pre ++ (ys.map enc).flatten ++ (enc y ++ post) := by simp
    have e2 : pre ++ ((ys ++ [y]).map enc).flatten ++ post = (pre ++ (ys.map enc).flatten) ++ enc y ++ post := by simp
    have h1 := ih ys hyn (fun x hx => hok x (by simp [hx])) (enc y ++ post)
    rw [← e] at h1
    have h2 := hf (pre ++ (ys.map enc).flatten) y post (hok y (by simp))
    rw [← e2] at h2
    simp only [many, h1, Option.bind_some]
    rw [List.length_append] at h2
    rw [h2]
    simp [Nat.add_assoc]
theorem textB_one (s : ByteArray) : textsB [s] = octets (s.size : Int) 2 ++ s.toList := by simp [textsB]
theorem textB_two (s t : ByteArray) : textsB [s, t] = (octets (s.size : Int) 2 ++ s.toList) ++ (octets (t.size : Int) 2 ++ t.toList) := by simp [textsB]
theorem encT_length (s : ByteArray) : (octets (s.size : Int) 2 ++ s.toList).length = 2 + s.size := by rw [List.length_append, octets_length, bsize]
theorem pairAt_laid (pre : List UInt8) (x : ByteArray × ByteArray) (post : List UInt8) (h : x.1.size < 65536 ∧ x.2.size < 65536) : pairAt (pre ++ textsB [x.1, x.2] ++ post) pre.length = some (x, pre.length + (textsB [x.1, x.2]).length) := by
  have h1 := wordAt_laid pre ((octets (x.2.size : Int) 2 ++ x.2.toList) ++ post) x.1 h.1
  have h2 := wordAt_laid (pre ++ (octets (x.1.size : Int) 2 ++ x.1.toList)) post x.2 h.2
  have e : pre ++ textsB [x.1, x.2] ++ post = pre ++ (octets (x.1.size : Int) 2 ++ x.1.toList) ++ ((octets (x.2.size : Int) 2 ++ x.2.toList) ++ post) := by rw [textB_two]; simp only [List.append_assoc]
  have e2 : pre ++ textsB [x.1, x.2] ++ post = (pre ++ (octets (x.1.size : Int) 2 ++ x.1.toList)) ++ (octets (x.2.size : Int) 2 ++ x.2.toList) ++ post := by rw [textB_two]; simp only [List.append_assoc]
  rw [← e] at h1
  rw [← e2, List.length_append, encT_length] at h2
  unfold pairAt
  rw [h1]
  simp only [Option.bind_some]
  rw [show pre.length + 2 + x.1.size = pre.length + (2 + x.1.size) by omega, h2]
  simp only [Option.map_some]
  rw [textB_two, List.length_append, encT_length, encT_length]
  congr 2
  omega
theorem membAt_laid (pre : List UInt8) (x : Int × ByteArray) (post : List UInt8) (h : (Lit.int .i64 x.1).wf = true ∧ x.2.size < 65536) : membAt (pre ++ (octets x.1 8 ++ textsB [x.2]) ++ post) pre.length = some (x, pre.length + (octets x.1 8 ++ textsB [x.2]).length) := by
  have h2 := wordAt_laid (pre ++ octets x.1 8) post x.2 h.2
  have e2 : pre ++ (octets x.1 8 ++ textsB [x.2]) ++ post = (pre ++ octets x.1 8) ++ (octets (x.2.size : Int) 2 ++ x.2.toList) ++ post := by rw [textB_one]; simp only [List.append_assoc]
  rw [← e2, List.length_append, octets_length] at h2
  have hd : (pre ++ (octets x.1 8 ++ textsB [x.2]) ++ post).drop pre.length = octets x.1 8 ++ (textsB [x.2] ++ post) := by simp
  unfold membAt
  rw [h2, if_pos (by simp [octets_length]), hd, List.take_append_of_le_length (by rw [octets_length]; exact Nat.le_refl _), List.take_of_length_le (by rw [octets_length]; exact Nat.le_refl _)]
  have hb := wf_bounds h.1
  rw [i64Of_octets hb.1 hb.2]
  simp only [Option.map_some]
  rw [textB_one, List.length_append, encT_length, octets_length]
  congr 2
  omega
end Go.Proofs.Ythclkljdnmokcaa
