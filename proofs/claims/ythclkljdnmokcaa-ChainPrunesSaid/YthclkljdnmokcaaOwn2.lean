/-
  More on slices of the call's own: a front part; stores behind it, and elsewhere.
-/
import Derived.Test.YthclkljdnmokcaaLib
namespace Go.Proofs.Ythclkljdnmokcaa
open Go.RowKit Go.Proofs

theorem Own.len' {α : Type} {r : Rep α} {base : Nat} {e : TypeId} {w : World} {a : Option Addr} {n cap : Nat} {l : List α} (h : Own r base e w (.slice a n cap) l) : n = l.length := by
  obtain ⟨cells, ho, _⟩ := h
  rcases ho.2 with ⟨h1, h2⟩ | ⟨g, cap', cur, h1, _⟩
  · injection h1 with _ h3 _; omega
  · injection h1
theorem Own.take {α : Type} {r : Rep α} {base : Nat} {e : TypeId} {w : World} {g n cap : Nat} {l : List α} (h : Own r base e w (.slice (some ⟨g, 0, none⟩) n cap) l) (k : Nat) (hk : k ≤ l.length) : Own r base e w (.slice (some ⟨g, 0, none⟩) k cap) (l.take k) := by
  obtain ⟨cells, ho, hr⟩ := h
  rcases ho.2 with ⟨h1, _⟩ | ⟨g', cap', cur, h1, hb, hg, hn, hm, hs, ht⟩
  · simp at h1
  · simp only [Value.slice.injEq, Option.some.injEq, Addr.mk.injEq, and_true] at h1
    obtain ⟨rfl, rfl, rfl⟩ := h1
    have hlt : (l.take k).length = k := by rw [List.length_take]; omega
    have hmul : k * r.size ≤ l.length * r.size := Nat.mul_le_mul_right _ hk
    refine ⟨cells.take (k * r.size), ⟨by rw [List.length_take, ho.1, hlt]; omega, .inr ⟨g, cap, cur, by rw [hlt], hb, hg, by rw [hlt]; omega, hm, hs, ?_⟩⟩, by rw [List.length_take, ho.1, hlt]; omega, fun j x hx => ?_⟩
    · rw [hlt, ← ht, List.take_take, Nat.min_eq_left hmul]
    · have hj : j < k := by
        have := (List.getElem?_eq_some_iff.1 hx).1
        omega
      rw [List.getElem?_take_of_lt hj] at hx
      have := hr.2 j x hx
      have e1 : ((cells.take (k * r.size)).drop (j * r.size)).take r.size = (cells.drop (j * r.size)).take r.size := by
        rw [List.drop_take, List.take_take]
        congr 1
        have : j * r.size + r.size ≤ k * r.size := by rw [← Nat.succ_mul]; exact Nat.mul_le_mul_right _ hj
        omega
      rw [e1]
      exact this
theorem Own.lt2 {α : Type} {r : Rep α} {base : Nat} {e : TypeId} {w : World} {v : Value} {l : List α} (h : Own r base e w v l) (k : Nat) (hk : v.ownBlock = some k) : k < w.heap.size := by
  obtain ⟨cells, ho, _⟩ := h
  exact (World.ownsRow.lt ho k hk).2
/-- a store behind it -/
theorem Own.above {α : Type} {r : Rep α} (hs1 : r.size = 1) (hf : r.Flat) {base : Nat} {e : TypeId} {w : World} {g n cap : Nat} {l : List α} (h : Own r base e w (.slice (some ⟨g, 0, none⟩) n cap) l) {j : Nat} (hj : l.length ≤ j) (u : Value) :
    Own r base e (w.setCell ⟨g, j, none⟩ u) (.slice (some ⟨g, 0, none⟩) n cap) l := by
  have hn := h.len'
  subst hn
  obtain ⟨cells, ho, hr⟩ := h
  have h1 := (World.ownsRow.stored ho j u).1
  have hcl : cells.length ≤ j := by rw [hr.1, hs1]; omega
  rw [List.set_eq_of_length_le hcl] at h1
  exact ⟨cells, h1, hr.1, fun j x hx => hf _ _ _ _ (hr.2 j x hx)⟩
theorem Own.aboves {α : Type} {r : Rep α} (hs1 : r.size = 1) (hf : r.Flat) {base : Nat} {e : TypeId} {g n cap : Nat} {l : List α} (us : List Value) : ∀ {w : World} {j : Nat}, Own r base e w (.slice (some ⟨g, 0, none⟩) n cap) l → l.length ≤ j → Own r base e (w.setCells g j us) (.slice (some ⟨g, 0, none⟩) n cap) l := by
  induction us with
  | nil => intro w j h _; exact h
  | cons u us ih => intro w j h hj; exact ih (h.above hs1 hf hj u) (by omega)
/-- a store elsewhere -/
theorem Own.far {α : Type} {r : Rep α} (hf : r.Flat) {base : Nat} {e : TypeId} {w : World} {v : Value} {l : List α} (h : Own r base e w v l) {p : Addr} (hp : v.ownBlock ≠ some p.block) (u : Value) : Own r base e (w.setCell p u) v l := by
  obtain ⟨cells, ho, hr⟩ := h
  refine ⟨cells, ho.kept (row := some p.block) ⟨rfl, rfl, rfl, by simp [World.setCell], fun k _ hk => Below.heap_setCell _ _ _ _ (fun e => hk (by simp [e]))⟩ (.inr hp), hr.1, fun j x hx => hf _ _ _ _ (hr.2 j x hx)⟩
theorem Ext.setCells {w0 : World} {g : Nat} (hg : w0.heap.size ≤ g) (us : List Value) : ∀ {w : World} {j : Nat}, Ext w0 w → Ext w0 (w.setCells g j us) := by
  induction us with
  | nil => intro w j h; exact h
  | cons u us ih => intro w j h; exact ih (Below.setCell h hg u)
theorem size_setCells (g : Nat) (us : List Value) : ∀ (w : World) (j : Nat), (w.setCells g j us).heap.size = w.heap.size := by
  induction us with
  | nil => intro w j; rfl
  | cons u us ih => intro w j; show ((w.setCell _ _).setCells g (j + 1) us).heap.size = _; rw [ih]; simp
theorem cell_far {w : World} {a p : Addr} {v : Value} (h : w.cell? a = some v) (hp : a.block ≠ p.block) (u : Value) : (w.setCell p u).cell? a = some v := by
  rw [← h]
  unfold World.cell?
  rw [Below.heap_setCell _ _ _ _ hp]
theorem cells_far {g : Nat} (us : List Value) : ∀ {w : World} {j : Nat} {a : Addr} {v : Value}, w.cell? a = some v → a.block ≠ g → (w.setCells g j us).cell? a = some v := by
  induction us with
  | nil => intro w j a v h _; exact h
  | cons u us ih => intro w j a v h hg; exact ih (cell_far h hg u) hg
theorem frozen_far {w : World} {a p : Addr} (h : w.frozen? a = false) (hp : a.block ≠ p.block) (u : Value) : (w.setCell p u).frozen? a = false := by
  rw [← h]
  unfold World.frozen?
  rw [Below.heap_setCell _ _ _ _ hp]
end Go.Proofs.Ythclkljdnmokcaa
