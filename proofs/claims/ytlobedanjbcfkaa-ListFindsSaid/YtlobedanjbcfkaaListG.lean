/-
  The reference's Remove: texts taken out one by one.
-/
import Derived.Test.YtlobedanjbcfkaaListM
set_option linter.unusedVariables false
set_option linter.unusedSimpArgs false
namespace Go.Proofs.Ytlobedanjbcfkaa
open Go.RowKit Go.Proofs

/-- what is left, when n have gone -/
def remG (c : Int) (s : ByteArray) (n : Int) (l : List ByteArray) : List ByteArray × Int :=
  if c < 0 then ((remF c s n l.reverse).1.reverse, (remF c s n l.reverse).2) else remF c s n l
theorem remG_zero (c : Int) (s : ByteArray) (l : List ByteArray) : remG c s 0 l = remOut c s l := rfl
theorem delB_other {c n : Int} {s x : ByteArray} (h : x ≠ s) : delB c s n x = false := by unfold delB; simp [h]
theorem remG_stop (c : Int) (s : ByteArray) (n : Int) (l : List ByteArray) (h : ∀ y ∈ l, delB c s n y = false) : remG c s n l = (l, n) := by
  unfold remG
  split
  · rw [remF_none _ _ _ _ (fun y hy => h y (List.mem_reverse.1 hy))]; simp
  · exact remF_none _ _ _ _ h
theorem remF_one (c : Int) (s : ByteArray) (n : Int) (p q : List ByteArray) (hp : ∀ y ∈ p, y ≠ s) (hd : delB c s n s = true) : remF c s n (p ++ s :: q) = remF c s (n + 1) (p ++ q) := by
  rw [remF_append _ _ _ _ _ (fun y hy => delB_other (hp y hy)), remF, if_pos hd, remF_append _ _ _ _ _ (fun y hy => delB_other (hp y hy))]
theorem remG_front (c : Int) (s : ByteArray) (n : Int) (p q : List ByteArray) (hc : ¬ c < 0) (hp : ∀ y ∈ p, y ≠ s) (hd : delB c s n s = true) : remG c s n (p ++ s :: q) = remG c s (n + 1) (p ++ q) := by
  unfold remG
  rw [if_neg hc, if_neg hc, remF_one _ _ _ _ _ hp hd]
theorem remG_back (c : Int) (s : ByteArray) (n : Int) (p q : List ByteArray) (hc : c < 0) (hq : ∀ y ∈ q, y ≠ s) (hd : delB c s n s = true) : remG c s n (p ++ s :: q) = remG c s (n + 1) (p ++ q) := by
  unfold remG
  rw [if_pos hc, if_pos hc]
  have e1 : (p ++ s :: q).reverse = q.reverse ++ s :: p.reverse := by simp
  have e2 : (p ++ q).reverse = q.reverse ++ p.reverse := by simp
  rw [e1, e2, remF_one _ _ _ _ _ (fun y hy => hq y (List.mem_reverse.1 hy)) hd]
theorem delB_same (c n : Int) (s : ByteArray) : delB c s n s = (decide (c = 0) || !(decide (n = c) || decide (n = -c))) := by unfold delB; simp
theorem SliceOf.drop {α : Type} {r : Rep α} (hs : r.size = 1) {w : World} {g o n cap : Nat} {l : List α} (h : SliceOf r w (.slice (some ⟨g, o, none⟩) n cap) l) (k : Nat) (hk : k ≤ n) (o' : Nat) (ho : o' = if cap = k then o else o + k) : SliceOf r w (.slice (some ⟨g, o', none⟩) (n - k) (cap - k)) (l.drop k) := by
  have hn := h.len
  obtain ⟨a', cap', e, h1, h2, h0, h3⟩ := h
  injection e with e1 e2 e3
  subst e1; subst e3
  refine ⟨_, _, by rw [List.length_drop, ← hn.1], by rw [List.length_drop]; omega, by omega, by simp, fun hne => ?_⟩
  have hlen : k < l.length := by
    rcases Nat.lt_or_ge k l.length with h | h
    · exact h
    · exact absurd (List.drop_of_length_le h) hne
  obtain ⟨g2, o2, ea, hg, hc⟩ := h3 (by rintro rfl; simp at hlen)
  simp only [Option.some.injEq, Addr.mk.injEq, and_true] at ea
  obtain ⟨rfl, rfl⟩ := ea
  rw [if_neg (by omega)] at ho
  subst ho
  refine ⟨g, o + k, rfl, hg, fun j x hj => ?_⟩
  rw [List.getElem?_drop] at hj
  have := hc (k + j) x hj
  rw [hs] at this ⊢
  simpa [Nat.mul_one, Nat.add_assoc] using this
/-- the place that one round finds -/
def FoundAt (c : Int) (s : ByteArray) (L : List ByteArray) (i : Nat) (a : Int) : Prop :=
  (a = -1 ∧ ∀ y ∈ L.take i, y ≠ s) ∨ (∃ k : Nat, a = (k : Int) ∧ k < i ∧ L[k]? = some s ∧ (c < 0 → ∀ j, k < j → j < i → L[j]? ≠ some s) ∧ (¬ c < 0 → ∀ j, j < k → L[j]? ≠ some s))
theorem found_split {c : Int} {s : ByteArray} {L : List ByteArray} {k : Nat} (hk : L[k]? = some s) : L = L.take k ++ s :: L.drop (k + 1) := by
  have hlt := (List.getElem?_eq_some_iff.1 hk)
  obtain ⟨h1, h2⟩ := hlt
  have := List.drop_eq_getElem_cons h1
  rw [h2] at this
  rw [← this, List.take_append_drop]
theorem not_in_take {s : ByteArray} {L : List ByteArray} {k : Nat} (h : ∀ j, j < k → L[j]? ≠ some s) : ∀ y ∈ L.take k, y ≠ s := by
  intro y hy e
  subst e
  obtain ⟨j, hj, e⟩ := List.getElem_of_mem hy
  have hjk : j < k := by rw [List.length_take] at hj; omega
  refine h j hjk ?_
  have := List.getElem?_eq_getElem hj
  rw [List.getElem?_take_of_lt hjk, e] at this
  exact this
theorem not_in_drop {s : ByteArray} {L : List ByteArray} {k : Nat} (h : ∀ j, k < j → j < L.length → L[j]? ≠ some s) : ∀ y ∈ L.drop (k + 1), y ≠ s := by
  intro y hy e
  subst e
  obtain ⟨j, hj, e⟩ := List.getElem_of_mem hy
  rw [List.length_drop] at hj
  refine h (k + 1 + j) (by omega) (by omega) ?_
  have := List.getElem?_eq_getElem (l := L.drop (k + 1)) (i := j) (by rw [List.length_drop]; omega)
  rw [List.getElem?_drop, e] at this
  exact this
theorem remG_round {c n : Int} {s : ByteArray} {L : List ByteArray} {k : Nat} (hk : L[k]? = some s) (hneg : c < 0 → ∀ j, k < j → j < L.length → L[j]? ≠ some s) (hpos : ¬ c < 0 → ∀ j, j < k → L[j]? ≠ some s) (hd : delB c s n s = true) :
    remG c s n L = remG c s (n + 1) (L.take k ++ L.drop (k + 1)) := by
  conv => lhs; rw [found_split (c := c) hk]
  by_cases hc : c < 0
  · exact remG_back c s n _ _ hc (not_in_drop (hneg hc)) hd
  · exact remG_front c s n _ _ hc (not_in_take (hpos hc)) hd
theorem FoundAt.start (c : Int) (s : ByteArray) (L : List ByteArray) : FoundAt c s L 0 (-1) := .inl ⟨rfl, by simp⟩
theorem mem_take_succ {L : List ByteArray} {i : Nat} {x y : ByteArray} (hx : L[i]? = some x) (hy : y ∈ L.take (i + 1)) : y ∈ L.take i ∨ y = x := by
  rw [List.take_add_one, hx] at hy
  rcases List.mem_append.1 hy with h | h
  · exact .inl h
  · exact .inr (by simpa using h)
theorem FoundAt.skip {c : Int} {s : ByteArray} {L : List ByteArray} {i : Nat} {a : Int} (h : FoundAt c s L i a) {x : ByteArray} (hx : L[i]? = some x) (hne : x ≠ s) : FoundAt c s L (i + 1) a := by
  rcases h with ⟨h1, h2⟩ | ⟨k, h1, h2, h3, h4, h5⟩
  · refine .inl ⟨h1, fun y hy => ?_⟩
    rcases mem_take_succ hx hy with h | h
    · exact h2 y h
    · rw [h]; exact hne
  · refine .inr ⟨k, h1, by omega, h3, fun hc j hj1 hj2 => ?_, h5⟩
    by_cases e : j = i
    · subst e; rw [hx]; intro e; exact hne (Option.some.inj e)
    · exact h4 hc j hj1 (by omega)
theorem FoundAt.neg {c : Int} {s : ByteArray} {L : List ByteArray} {i : Nat} (hx : L[i]? = some s) (hc : c < 0) : FoundAt c s L (i + 1) (i : Int) :=
  .inr ⟨i, rfl, by omega, hx, fun _ j h1 h2 => by omega, fun h => absurd hc h⟩
theorem FoundAt.pos {c : Int} {s : ByteArray} {L : List ByteArray} {i : Nat} {a : Int} (h : FoundAt c s L i a) (hx : L[i]? = some s) (hc : ¬ c < 0) (ha : a < 0) : FoundAt c s L (i + 1) (i : Int) := by
  rcases h with ⟨h1, h2⟩ | ⟨k, h1, _⟩
  · refine .inr ⟨i, rfl, by omega, hx, fun h => absurd h hc, fun _ j hj e => ?_⟩
    refine h2 s ?_ rfl
    have : (L.take i)[j]? = some s := by rw [List.getElem?_take_of_lt hj, e]
    exact List.mem_of_getElem? this
  · omega
theorem FoundAt.keep {c : Int} {s : ByteArray} {L : List ByteArray} {i : Nat} {a : Int} (h : FoundAt c s L i a) (hc : ¬ c < 0) (ha : ¬ a < 0) : FoundAt c s L (i + 1) a := by
  rcases h with ⟨h1, _⟩ | ⟨k, h1, h2, h3, h4, h5⟩
  · omega
  · exact .inr ⟨k, h1, by omega, h3, fun h => absurd h hc, h5⟩
theorem FoundAt.none {c : Int} {s : ByteArray} {L : List ByteArray} {a : Int} (h : FoundAt c s L L.length a) (ha : a < 0) : ∀ y ∈ L, y ≠ s := by
  rcases h with ⟨_, h2⟩ | ⟨k, h1, _⟩
  · rwa [List.take_length] at h2
  · omega
theorem FoundAt.some {c : Int} {s : ByteArray} {L : List ByteArray} {a : Int} (h : FoundAt c s L L.length a) (ha : ¬ a < 0) : ∃ k : Nat, a = (k : Int) ∧ k < L.length ∧ ∀ n, delB c s n s = true → remG c s n L = remG c s (n + 1) (L.take k ++ L.drop (k + 1)) := by
  rcases h with ⟨h1, _⟩ | ⟨k, h1, h2, h3, h4, h5⟩
  · omega
  · exact ⟨k, h1, h2, fun n hd => remG_round h3 h4 h5 hd⟩
theorem FoundAt.range {c : Int} {s : ByteArray} {L : List ByteArray} {i : Nat} {a : Int} (h : FoundAt c s L i a) : -1 ≤ a ∧ a < i := by
  rcases h with ⟨h1, _⟩ | ⟨k, h1, h2, _⟩ <;> omega
end Go.Proofs.Ytlobedanjbcfkaa
