/-
  Where a text lies in a list: the mathematics of Find.
-/
import Derived.Test.YtlobedanjbcfkaaListW
set_option linter.unusedVariables false
set_option linter.unusedSimpArgs false
namespace Go.Proofs.Ytlobedanjbcfkaa
open Go.RowKit Go.Proofs

/-- the places below k -/
def occK (s : ByteArray) (l : List ByteArray) (k : Nat) : List Int := ((List.range k).filter fun i => decide (l[i]? = some s)).map fun (i : Nat) => (i : Int)
/-- the places from k on, the last first -/
def occR (s : ByteArray) (l : List ByteArray) (k : Nat) : List Int := ((((List.range l.length).drop k).filter fun i => decide (l[i]? = some s)).map fun (i : Nat) => (i : Int)).reverse
theorem occK_succ (s : ByteArray) (l : List ByteArray) (k : Nat) : occK s l (k + 1) = occK s l k ++ if l[k]? = some s then [(k : Int)] else [] := by
  unfold occK
  rw [List.range_succ, List.filter_append, List.map_append]
  congr 1
  by_cases h : l[k]? = some s <;> simp [h]
theorem occR_succ (s : ByteArray) (l : List ByteArray) (k : Nat) (hk : k < l.length) : occR s l k = occR s l (k + 1) ++ if l[k]? = some s then [(k : Int)] else [] := by
  unfold occR
  have h1 : (List.range l.length).drop k = k :: (List.range l.length).drop (k + 1) := by
    rw [List.drop_eq_getElem_cons (by simpa using hk)]
    simp
  rw [h1]
  by_cases h : l[k]? = some s <;> simp [h]
theorem occR_zero (s : ByteArray) (l : List ByteArray) : occR s l 0 = (occK s l l.length).reverse := by simp [occR, occK]
theorem occR_end (s : ByteArray) (l : List ByteArray) : occR s l l.length = [] := by
  unfold occR
  rw [List.drop_of_length_le (by simp)]
  rfl
theorem occK_length (s : ByteArray) (l : List ByteArray) (k : Nat) : (occK s l k).length ≤ k := by
  unfold occK
  rw [List.length_map]
  have := List.length_filter_le (fun i => decide (l[i]? = some s)) (List.range k)
  simpa using this
theorem occR_length (s : ByteArray) (l : List ByteArray) (k : Nat) : (occR s l k).length ≤ l.length := by
  unfold occR
  rw [List.length_reverse, List.length_map]
  have := List.length_filter_le (fun i => decide (l[i]? = some s)) ((List.range l.length).drop k)
  simp at this
  omega
theorem occK_range (s : ByteArray) (l : List ByteArray) (k : Nat) : ∀ x ∈ occK s l k, 0 ≤ x ∧ x < k := by
  intro x hx
  unfold occK at hx
  simp only [List.mem_map, List.mem_filter, List.mem_range] at hx
  obtain ⟨i, ⟨h1, _⟩, rfl⟩ := hx
  omega
/-- no more than most, where most is some -/
def mostOf (most : Int) (x : List Int) : List Int := if most < 1 then x else x.take most.toNat
theorem mostOf_nil (most : Int) : mostOf most [] = [] := by unfold mostOf; split <;> simp
theorem mostOf_snoc (most : Int) (x : List Int) (i : Int) : mostOf most (x ++ [i]) = if most < 1 ∨ ((mostOf most x).length : Int) < most then mostOf most x ++ [i] else mostOf most x := by
  unfold mostOf
  by_cases h : most < 1
  · simp [h]
  · simp only [h, if_false, false_or]
    rw [List.length_take]
    by_cases h2 : x.length < most.toNat
    · rw [if_pos (by omega), List.take_of_length_le (by simp; omega), List.take_of_length_le (by omega)]
    · rw [if_neg (by omega), List.take_append_of_le_length (by omega)]
theorem mostOf_length (most : Int) (x : List Int) : (mostOf most x).length ≤ x.length := by
  unfold mostOf; split <;> simp; omega
theorem drop_snoc {α : Type} (x : List α) (a : α) (d : Nat) : (x ++ [a]).drop d = if d ≤ x.length then x.drop d ++ [a] else [] := by
  by_cases h : d ≤ x.length
  · rw [if_pos h, List.drop_append_of_le_length h]
  · rw [if_neg h, List.drop_of_length_le (by simp; omega)]
/-- what Find answers -/
def skipOf (rank : Int) : Nat := if rank < 0 then (-(rank + 1)).toNat else (rank - 1).toNat
def findOut (l : List ByteArray) (s : ByteArray) (rank most : Int) : List Int :=
  if rank = 0 then [] else mostOf most ((if rank < 0 then occR s l 0 else occK s l l.length).drop (skipOf rank))
end Go.Proofs.Ytlobedanjbcfkaa
