/-
  A library of my own, with no program in it: what a value reads as ('Rep'), how arguments are opened, and how a law's contract becomes its row's.
-/
import Derived.WalkKit
import Derived.ProofKit
import Derived.OpenShut
import Derived.Carry
import Derived.Deep.Slices
import Derived.SizedLaws
import Derived.Deep.Draws
import Derived.Laws.AppendOwnNone
import Derived.OwnWalk
set_option linter.unusedVariables false
set_option linter.unusedSimpArgs false
namespace Go.Proofs.Ythclkljdnmokcaa
open Go.RowKit Go.ChangeShapes Go.WideShapes Go.ChangeAt Go.Deep

/-! ### Representations: what cells mean -/
/-- how values of a Lean type lie in cells -/
structure Rep (α : Type) where
  size : Nat
  rel : World → List Value → α → Prop

/-- the world has grown: what was there is as it was -/
abbrev Ext (w w' : World) : Prop := Below w.heap.size w w'
theorem Ext.refl (w : World) : Ext w w := Below.refl _ _
theorem Ext.then {w1 w2 w3 : World} (h : Ext w1 w2) (k : Ext w2 w3) : Ext w1 w3 := h.trans (k.mono h.size)
theorem Ext.drew {w w' : World} (h : Ext w w') : Ext w w'.drew := Below.drew h
theorem Ext.drewN {w w' : World} (h : Ext w w') (n : Nat) : Ext w (w'.drewN n) := ⟨h.os, h.tape, h.output, h.size, h.block⟩
theorem Ext.cell {w w' : World} (h : Ext w w') {a : Addr} {v : Value} (hc : w.cell? a = some v) : w'.cell? a = some v :=
  (Below.cell h (World.block_lt_of_cell? w a hc)).trans hc

/-- what is told stays so when the world grows -/
def Rep.Mono {α : Type} (r : Rep α) : Prop := ∀ w w' cs x, Ext w w' → r.rel w cs x → r.rel w' cs x

def rInt (k : IntKind) : Rep Int := ⟨1, fun _ cs x => cs = [.int k x] ∧ (Lit.int k x).wf = true⟩
def rBool : Rep Bool := ⟨1, fun _ cs x => cs = [.bool x]⟩
def rStr : Rep ByteArray := ⟨1, fun _ cs x => cs = [.string x] ∧ x.size ≤ maxLen⟩
def rByte : Rep UInt8 := ⟨1, fun _ cs x => cs = [.int .u8 x.toNat]⟩
/-- a slice's value, and its elements -/
def SliceOf {α : Type} (r : Rep α) (w : World) (v : Value) (l : List α) : Prop :=
  ∃ a cap, v = .slice a l.length cap ∧ l.length ≤ cap ∧ cap ≤ maxLen ∧ (a = none → cap = 0) ∧
    (l ≠ [] → ∃ g o, a = some ⟨g, o, none⟩ ∧ g < w.heap.size ∧
      ∀ j x, l[j]? = some x → ∃ ecs, ecs.length = r.size ∧ (∀ i, i < r.size → w.cell? ⟨g, o + j * r.size + i, none⟩ = ecs[i]?) ∧ r.rel w ecs x)
def rSlice {α : Type} (r : Rep α) : Rep (List α) := ⟨1, fun w cs l => ∃ v, cs = [v] ∧ SliceOf r w v l⟩
/-- an array's cells -/
def rArr {α : Type} (n : Nat) (r : Rep α) : Rep (List α) :=
  ⟨n * r.size, fun w cs l => l.length = n ∧ cs.length = n * r.size ∧ ∀ j (h : j < l.length), r.rel w ((cs.drop (j * r.size)).take r.size) l[j]⟩
def rPair {α β : Type} (r : Rep α) (s : Rep β) : Rep (α × β) :=
  ⟨r.size + s.size, fun w cs x => ∃ c d, cs = c ++ d ∧ c.length = r.size ∧ d.length = s.size ∧ r.rel w c x.1 ∧ s.rel w d x.2⟩

theorem rInt_mono (k : IntKind) : (rInt k).Mono := fun _ _ _ _ _ h => h
theorem rBool_mono : rBool.Mono := fun _ _ _ _ _ h => h
theorem rStr_mono : rStr.Mono := fun _ _ _ _ _ h => h
theorem rByte_mono : rByte.Mono := fun _ _ _ _ _ h => h
theorem SliceOf.mono {α : Type} {r : Rep α} (hr : r.Mono) {w w' : World} (h : Ext w w') {v : Value} {l : List α} (hv : SliceOf r w v l) : SliceOf r w' v l := by
  obtain ⟨a, cap, e, h1, h2, h0, h3⟩ := hv
  refine ⟨a, cap, e, h1, h2, h0, fun hl => ?_⟩
  obtain ⟨g, o, ea, hg, hc⟩ := h3 hl
  refine ⟨g, o, ea, Nat.lt_of_lt_of_le hg h.size, fun j x hj => ?_⟩
  obtain ⟨ecs, el, hcs, hre⟩ := hc j x hj
  refine ⟨ecs, el, fun i hi => ?_, hr _ _ _ _ h hre⟩
  rw [← hcs i hi]
  exact Below.cell h hg
theorem rSlice_mono {α : Type} {r : Rep α} (hr : r.Mono) : (rSlice r).Mono := fun _ _ _ _ h ⟨v, e, hv⟩ => ⟨v, e, hv.mono hr h⟩
theorem rArr_mono {α : Type} (n : Nat) {r : Rep α} (hr : r.Mono) : (rArr n r).Mono := fun _ _ _ _ h ⟨h1, h2, h3⟩ => ⟨h1, h2, fun j hj => hr _ _ _ _ h (h3 j hj)⟩
theorem rPair_mono {α β : Type} {r : Rep α} {s : Rep β} (hr : r.Mono) (hs : s.Mono) : (rPair r s).Mono :=
  fun _ _ _ _ h ⟨c, d, e, h1, h2, h3, h4⟩ => ⟨c, d, e, h1, h2, hr _ _ _ _ h h3, hs _ _ _ _ h h4⟩

/-- a slice's elements of one cell: where it isn't empty, its address and its cells -/
theorem SliceOf.cells1 {α : Type} {r : Rep α} (hr : r.size = 1) {w : World} {v : Value} {l : List α} (h : SliceOf r w v l) :
    (l = [] ∧ ∃ a cap, v = .slice a 0 cap ∧ cap ≤ maxLen ∧ (a = none → cap = 0)) ∨
    (l ≠ [] ∧ ∃ g o cap, v = .slice (some ⟨g, o, none⟩) l.length cap ∧ l.length ≤ cap ∧ cap ≤ maxLen ∧ g < w.heap.size ∧
      ∀ j x, l[j]? = some x → ∃ u, w.cell? ⟨g, o + j, none⟩ = some u ∧ r.rel w [u] x) := by
  obtain ⟨a, cap, e, h1, h2, h0, h3⟩ := h
  by_cases hl : l = []
  · subst hl; exact .inl ⟨rfl, a, cap, e, h2, h0⟩
  · refine .inr ⟨hl, ?_⟩
    obtain ⟨g, o, rfl, hg, hc⟩ := h3 hl
    refine ⟨g, o, cap, e, h1, h2, hg, fun j x hj => ?_⟩
    obtain ⟨ecs, el, hcs, hre⟩ := hc j x hj
    rw [hr] at el hcs
    match ecs, el with
    | [u], _ => exact ⟨u, by have := hcs 0 (by omega); simpa using this, hre⟩

theorem sliceOf_nil {α : Type} (r : Rep α) (w : World) : SliceOf r w (.slice none 0 0) [] := ⟨none, 0, rfl, by simp, by simp [maxLen], fun _ => rfl, fun h => absurd rfl h⟩
/-- a slice over a block of cells -/
theorem sliceOf_heap {α : Type} {r : Rep α} {w : World} {g o n cap : Nat} {cs : Array Value} {t : TypeId} {fr : Nat × Nat} (hg : w.heap[g]? = some (.cells cs t fr)) (l : List α) (hn : l.length = n) (hc : n ≤ cap) (hm : cap ≤ maxLen)
    (h : ∀ (j : Nat) (x : α), l[j]? = some x → ∃ ecs : List Value, ecs.length = r.size ∧ (∀ i, i < r.size → cs[o + j * r.size + i]? = ecs[i]?) ∧ r.rel w ecs x) :
    SliceOf r w (.slice (some ⟨g, o, none⟩) n cap) l := by
  subst hn
  refine ⟨_, _, rfl, hc, hm, (by simp), fun _ => ⟨_, _, rfl, (Array.getElem?_eq_some_iff.1 hg).1, fun j x hx => ?_⟩⟩
  obtain ⟨ecs, h1, h2, h3⟩ := h j x hx
  refine ⟨ecs, h1, fun i hi => ?_, h3⟩
  rw [← h2 i hi]
  simp [World.cell?, hg]
theorem heap_alloc_new (w : World) (o : Obj) : (w.alloc o).heap[w.heap.size]? = some o := by show (w.heap.push o)[w.heap.size]? = _; simp
/-- a slice that was just laid, of elements of one cell each -/
theorem sliceOf_alloc {α : Type} {r : Rep α} (hr : r.size = 1) {g : Nat} (w : World) (hg : g = w.heap.size) (cs : Array Value) (t : TypeId) (fr : Nat × Nat) (l : List α) (n : Nat) (hn : l.length = n) (hm : n ≤ maxLen) (h : ∀ (j : Nat) (x : α), l[j]? = some x → ∃ u, cs[j]? = some u ∧ r.rel (w.alloc (.cells cs t fr)) [u] x) :
    SliceOf r (w.alloc (.cells cs t fr)) (.slice (some ⟨g, 0, none⟩) n n) l := by
  subst hg
  refine sliceOf_heap (heap_alloc_new w _) l hn (Nat.le_refl _) hm fun j x hx => ?_
  obtain ⟨u, hu, hr'⟩ := h j x hx
  refine ⟨[u], by rw [hr]; rfl, fun i hi => ?_, hr'⟩
  rw [hr] at hi ⊢
  obtain rfl : i = 0 := by omega
  simpa using hu
/-- .. of one element -/
theorem sliceOf_one {α : Type} {r : Rep α} (hr : r.size = 1) {g : Nat} (w : World) (hg : g = w.heap.size) (u : Value) (t : TypeId) (x : α) (h : r.rel (w.alloc (.cells #[u] t)) [u] x) :
    SliceOf r (w.alloc (.cells #[u] t)) (.slice (some ⟨g, 0, none⟩) 1 1) [x] := by
  refine sliceOf_alloc hr w hg _ t (0, 0) [x] 1 rfl (by decide) fun j y hy => ?_
  obtain ⟨rfl, rfl⟩ : j = 0 ∧ x = y := by cases j <;> simp_all
  exact ⟨u, rfl, h⟩
/-- .. of bytes -/
theorem sliceOf_bytes {g : Nat} (w : World) (hg : g = w.heap.size) (l : List UInt8) (t : TypeId) (fr : Nat × Nat) (n : Nat) (hn : l.length = n) (hm : n ≤ maxLen) :
    SliceOf rByte (w.alloc (.cells (l.map fun (b : UInt8) => Value.int .u8 (b.toNat : Int)).toArray t fr)) (.slice (some ⟨g, 0, none⟩) n n) l :=
  sliceOf_alloc rfl w hg _ t fr l n hn hm fun j x hx => ⟨_, by simp [hx], rfl⟩

theorem Ext.alloc {w w' : World} (h : Ext w w') (o : Obj) : Ext w (w'.alloc o) := Below.alloc h h.size o

/-- lists of what is told at each index -/
theorem list_of_each {α : Type} {n : Nat} {p : Nat → α → Prop} (h : ∀ i, i < n → ∃ a, p i a) : ∃ l : List α, l.length = n ∧ ∀ i (hi : i < l.length), p i l[i] := by
  induction n with
  | zero => exact ⟨[], rfl, fun i hi => absurd hi (Nat.not_lt_zero _)⟩
  | succ n ih =>
    obtain ⟨l, hl, hp⟩ := ih (fun i hi => h i (by omega))
    obtain ⟨a, ha⟩ := h n (by omega)
    refine ⟨l ++ [a], by simp [hl], fun i hi => ?_⟩
    by_cases hin : i < l.length
    · rw [List.getElem_append_left hin]; exact hp i hin
    · have : i = l.length := by simp at hi; omega
      subst this
      simpa [hl] using ha

/-- one element of one cell -/
theorem SliceOf.at1 {α : Type} {r : Rep α} (hr : r.size = 1) {w : World} {a : Option Addr} {n cap : Nat} {l : List α} (h : SliceOf r w (.slice a n cap) l) {k : Nat} {x : α} (hx : l[k]? = some x) :
    ∃ g o u, a = some ⟨g, o, none⟩ ∧ w.cell? ⟨g, o + k, none⟩ = some u ∧ r.rel w [u] x := by
  obtain ⟨a', cap', e, h1, h2, h0, h3⟩ := h
  injection e with e1 e2 e3
  subst e1
  obtain ⟨g, o, ea, hg, hc⟩ := h3 (by rintro rfl; simp at hx)
  obtain ⟨ecs, el, hcs, hre⟩ := hc k x hx
  rw [hr] at el hcs
  match ecs, el with
  | [u], _ => exact ⟨g, o, u, ea, by have := hcs 0 (by omega); simpa using this, hre⟩
theorem SliceOf.len {α : Type} {r : Rep α} {w : World} {a : Option Addr} {n cap : Nat} {l : List α} (h : SliceOf r w (.slice a n cap) l) : n = l.length ∧ n ≤ cap ∧ cap ≤ 9223372036854775807 := by
  obtain ⟨a', cap', e, h1, h2, h0, h3⟩ := h
  injection e with e1 e2 e3
  unfold maxLen at h2
  omega

theorem SliceOf.take {α : Type} {r : Rep α} {w : World} {a : Option Addr} {n cap : Nat} {l : List α} (h : SliceOf r w (.slice a n cap) l) (k : Nat) (hk : k ≤ n) : SliceOf r w (.slice a k cap) (l.take k) := by
  have hn := h.len
  obtain ⟨a', cap', e, h1, h2, h0, h3⟩ := h
  injection e with e1 e2 e3
  subst e1; subst e3
  have hl : (l.take k).length = k := by simp; omega
  refine ⟨a, cap, by rw [hl], by omega, h2, h0, fun hne => ?_⟩
  obtain ⟨g, o, ea, hg, hc⟩ := h3 (by rintro rfl; simp at hne)
  exact ⟨g, o, ea, hg, fun j x hj => hc j x (by
    have : j < k := by have := (List.getElem?_eq_some_iff.1 hj).1; omega
    rwa [List.getElem?_take_of_lt this] at hj)⟩

/-! ### Rows of the call's own -/
/-- cells, a row of what r tells -/
def RowsOf {α : Type} (r : Rep α) (w : World) (cells : List Value) (l : List α) : Prop :=
  cells.length = l.length * r.size ∧ ∀ (j : Nat) (x : α), l[j]? = some x → r.rel w ((cells.drop (j * r.size)).take r.size) x
/-- a slice of the call's own -/
def Own {α : Type} (r : Rep α) (base : Nat) (e : TypeId) (w : World) (v : Value) (l : List α) : Prop :=
  ∃ cells, w.ownsRow base e r.size v l.length cells ∧ RowsOf r w cells l
/-- no memory is told of -/
def Rep.Flat {α : Type} (r : Rep α) : Prop := ∀ w w' cs x, r.rel w cs x → r.rel w' cs x
theorem Rep.Flat.mono {α : Type} {r : Rep α} (h : r.Flat) : r.Mono := fun w w' cs x _ hx => h w w' cs x hx
theorem rInt_flat (k : IntKind) : (rInt k).Flat := fun _ _ _ _ h => h
theorem rBool_flat : rBool.Flat := fun _ _ _ _ h => h
theorem rStr_flat : rStr.Flat := fun _ _ _ _ h => h
theorem rByte_flat : rByte.Flat := fun _ _ _ _ h => h
theorem rPair_flat {α β : Type} {r : Rep α} {s : Rep β} (hr : r.Flat) (hs : s.Flat) : (rPair r s).Flat :=
  fun _ _ _ _ ⟨c, d, e, h1, h2, h3, h4⟩ => ⟨c, d, e, h1, h2, hr _ _ _ _ h3, hs _ _ _ _ h4⟩
/-- each cell is of one value -/
def Rep.One {α : Type} (r : Rep α) : Prop := ∀ w cs x, r.rel w cs x → cs.length = r.size ∧ ∀ u ∈ cs, u.oneCell' = true
theorem rInt_one (k : IntKind) : (rInt k).One := fun _ _ _ h => by obtain ⟨rfl, _⟩ := h; exact ⟨rfl, by simp [Value.oneCell']⟩
theorem rBool_one : rBool.One := fun _ _ _ h => by cases h; exact ⟨rfl, by simp [Value.oneCell']⟩
theorem rStr_one : rStr.One := fun _ _ _ h => by obtain ⟨rfl, _⟩ := h; exact ⟨rfl, by simp [Value.oneCell']⟩
theorem rByte_one : rByte.One := fun _ _ _ h => by cases h; exact ⟨rfl, by simp [Value.oneCell']⟩
theorem rSlice_one {α : Type} (r : Rep α) : (rSlice r).One := fun _ _ _ h => by obtain ⟨v, rfl, a, c, rfl, _⟩ := h; exact ⟨rfl, by simp [Value.oneCell']⟩
theorem rPair_one {α β : Type} {r : Rep α} {s : Rep β} (hr : r.One) (hs : s.One) : (rPair r s).One := fun _ _ _ h => by
  obtain ⟨c, d, rfl, h1, h2, h3, h4⟩ := h
  refine ⟨by rw [List.length_append, h1, h2]; rfl, fun u hu => ?_⟩
  rcases List.mem_append.1 hu with hu | hu
  · exact (hr _ _ _ h3).2 u hu
  · exact (hs _ _ _ h4).2 u hu

theorem take_set_one {m : Nat} {u : Value} {j : Nat} {cells : List Value} (hcl : cells.length = m) (hj : j < m) : ((cells.set j u).drop j).take 1 = [u] := by
  apply List.ext_getElem?
  intro k
  cases k with
  | zero => simp [List.getElem?_take, List.getElem?_drop, List.getElem?_set, hcl, hj]
  | succ k => simp [List.getElem?_take]
theorem RowsOf.append {α : Type} {r : Rep α} {w : World} {c d : List Value} {l m : List α} (h : RowsOf r w c l) (k : RowsOf r w d m) : RowsOf r w (c ++ d) (l ++ m) := by
  refine ⟨by rw [List.length_append, List.length_append, h.1, k.1, Nat.add_mul], fun j x hx => ?_⟩
  by_cases hj : j < l.length
  · rw [List.getElem?_append_left hj] at hx
    have hle : j * r.size + r.size ≤ c.length := by rw [h.1, ← Nat.succ_mul]; exact Nat.mul_le_mul_right _ hj
    have := h.2 j x hx
    rwa [List.drop_append_of_le_length (by omega), List.take_append_of_le_length (by simp; omega)]
  · rw [List.getElem?_append_right (by omega)] at hx
    have := k.2 _ x hx
    have e : j * r.size = c.length + (j - l.length) * r.size := by rw [h.1, ← Nat.add_mul]; congr 1; omega
    rwa [e, ← List.drop_drop, List.drop_left]
theorem RowsOf.keep {α : Type} {r : Rep α} {w w' : World} {c : List Value} {l : List α} (h : RowsOf r w c l) (hk : ∀ cs x, x ∈ l → r.rel w cs x → r.rel w' cs x) : RowsOf r w' c l :=
  ⟨h.1, fun j x hx => hk _ _ (List.mem_of_getElem? hx) (h.2 j x hx)⟩
/-- all cells of a slice, one behind the other -/
theorem SliceOf.rows {α : Type} {r : Rep α} (hpos : 0 < r.size) {w : World} {v : Value} {l : List α} (h : SliceOf r w v l) :
    (v = .slice none 0 0 ∧ l = []) ∨ ∃ ad cap news, v = .slice (some ad) l.length cap ∧ l.length ≤ cap ∧ cap ≤ maxLen ∧ RowsOf r w news l ∧ ∀ (j : Nat) (u : Value), news[j]? = some u → w.cell? (ad.add j) = some u := by
  obtain ⟨a, cap, rfl, h1, h2, h0, h3⟩ := h
  cases a with
  | none =>
    have := h0 rfl
    subst this
    have : l = [] := List.eq_nil_of_length_eq_zero (by omega)
    subst this
    exact .inl ⟨rfl, rfl⟩
  | some ad =>
    right
    by_cases hl : l = []
    · subst hl
      exact ⟨ad, cap, [], rfl, h1, h2, ⟨by simp, by simp⟩, by simp⟩
    · obtain ⟨g, o, ea, hg, hc⟩ := h3 hl
      obtain rfl : ad = ⟨g, o, none⟩ := by simpa using ea
      have key : ∃ news : List Value, news.length = l.length * r.size ∧ ∀ (i : Nat) (hi : i < news.length), w.cell? ⟨g, o + i, none⟩ = some news[i] := by
        refine list_of_each (n := l.length * r.size) (p := fun i u => w.cell? ⟨g, o + i, none⟩ = some u) fun i hi => ?_
        have hq : i / r.size < l.length := Nat.div_lt_of_lt_mul (by rw [Nat.mul_comm]; exact hi)
        obtain ⟨ecs, el, hcs, _⟩ := hc (i / r.size) _ (List.getElem?_eq_getElem hq)
        have hm := hcs (i % r.size) (Nat.mod_lt _ hpos)
        rw [List.getElem?_eq_getElem (by rw [el]; exact Nat.mod_lt _ hpos)] at hm
        refine ⟨_, (congrArg w.cell? ?_).trans hm⟩
        have := Nat.div_add_mod i r.size
        rw [Nat.mul_comm] at this
        congr 1
        omega
      obtain ⟨news, hn, hu⟩ := key
      refine ⟨_, cap, news, rfl, h1, h2, ⟨hn, fun j x hx => ?_⟩, fun j u hj => ?_⟩
      · obtain ⟨ecs, el, hcs, hre⟩ := hc j x hx
        have hjl : j < l.length := (List.getElem?_eq_some_iff.1 hx).1
        have hle : j * r.size + r.size ≤ news.length := by rw [hn, ← Nat.succ_mul]; exact Nat.mul_le_mul_right _ hjl
        have : (news.drop (j * r.size)).take r.size = ecs := by
          apply List.ext_getElem?
          intro i
          by_cases hi : i < r.size
          · rw [List.getElem?_take_of_lt hi, List.getElem?_drop, ← hcs i hi, List.getElem?_eq_getElem (by omega), ← hu _ (by omega), Nat.add_assoc]
          · rw [List.getElem?_eq_none (by simp; omega), List.getElem?_eq_none (by omega)]
        rw [this]; exact hre
      · obtain ⟨hjl, rfl⟩ := List.getElem?_eq_some_iff.1 hj
        rw [← hu j hjl]
        unfold Addr.add; split <;> simp_all
theorem Own.slice {α : Type} {r : Rep α} {base : Nat} {e : TypeId} {w : World} {v : Value} {l : List α} (h : Own r base e w v l) : SliceOf r w v l := by
  obtain ⟨cells, ho, hr⟩ := h
  rcases ho.2 with ⟨rfl, hn⟩ | ⟨g, cap, cur, rfl, hb, hg, hn, hm, hs, ht⟩
  · have : l = [] := List.eq_nil_of_length_eq_zero hn
    subst this
    exact sliceOf_nil r w
  · refine sliceOf_heap hg l rfl hn hm fun j x hx => ?_
    have hjl : j < l.length := (List.getElem?_eq_some_iff.1 hx).1
    have hle : j * r.size + r.size ≤ cells.length := by rw [hr.1, ← Nat.succ_mul]; exact Nat.mul_le_mul_right _ hjl
    refine ⟨_, ?_, fun i hi => ?_, hr.2 j x hx⟩
    · simp; omega
    · rw [List.getElem?_take_of_lt hi, List.getElem?_drop, ← ht]
      have hlen : cells.length = l.length * r.size := hr.1
      rw [List.getElem?_take_of_lt (by rw [← ht] at hle; simp at hle; omega)]
      simp
theorem Own.nil {α : Type} (r : Rep α) (base : Nat) (e : TypeId) (w : World) : Own r base e w (.slice none 0 0) [] := ⟨[], World.ownsRow_nil w base e r.size, by simp [RowsOf]⟩

theorem Own.lt {α : Type} {r : Rep α} {base : Nat} {e : TypeId} {w : World} {v : Value} {l : List α} (h : Own r base e w v l) (k : Nat) (hk : v.ownBlock = some k) : base ≤ k := by
  obtain ⟨cells, ho, _⟩ := h
  exact (World.ownsRow.lt ho k hk).1
theorem Own.base {α : Type} {r : Rep α} {base base' : Nat} {e : TypeId} {w : World} {v : Value} {l : List α} (h : Own r base e w v l) (hb : base' ≤ base) : Own r base' e w v l := by
  obtain ⟨cells, ho, hr⟩ := h
  refine ⟨cells, ⟨ho.1, ?_⟩, hr⟩
  rcases ho.2 with h | ⟨g, cap, cur, h1, h2, h3⟩
  · exact .inl h
  · exact .inr ⟨g, cap, cur, h1, Nat.le_trans hb h2, h3⟩
/-- it stays so when the world grows -/
theorem Own.mono {α : Type} {r : Rep α} (hr : r.Mono) {base : Nat} {e : TypeId} {w w' : World} {v : Value} {l : List α} (h : Own r base e w v l) (hx : Ext w w') : Own r base e w' v l := by
  obtain ⟨cells, ho, hrow⟩ := h
  exact ⟨cells, ho.kept (row := none) ⟨hx.os, hx.tape, hx.output, hx.size, fun i hi _ => hx.block i hi⟩ (by cases v.ownBlock <;> simp), hrow.keep fun cs x _ h => hr _ _ _ _ hx h⟩
theorem RetOwn.intro {α : Type} {r : Rep α} {e : TypeId} {w w' : World} {l : List α} {en : Ending} {v : Value} {base : Nat} (h1 : en = .returned v) (h2 : Own r base e w' v l) (hb : w.heap.size ≤ base) (h3 : Ext w w') : ∃ v, en = .returned v ∧ Own r w.heap.size e w' v l ∧ Ext w w' :=
  ⟨v, h1, h2.base hb, h3⟩
/-- what is owned and isn't empty: where it lies -/
theorem Own.form {α : Type} {r : Rep α} {base : Nat} {e : TypeId} {w : World} {v : Value} {l : List α} (h : Own r base e w v l) (hl : l ≠ []) :
    ∃ g cap, v = .slice (some ⟨g, 0, none⟩) l.length cap ∧ base ≤ g ∧ g < w.heap.size ∧ l.length ≤ cap ∧ cap ≤ 9223372036854775807 ∧ (∀ j, j < l.length * r.size → ∃ u, w.cell? ⟨g, j, none⟩ = some u) ∧ ∀ j, w.frozen? ⟨g, j, none⟩ = false := by
  obtain ⟨cells, ho, hr⟩ := h
  have ho' := ho
  rcases ho.2 with ⟨_, hn⟩ | ⟨g, cap, cur, rfl, hb, hg, hn, hm, hs, ht⟩
  · exact absurd (List.eq_nil_of_length_eq_zero hn) hl
  · refine ⟨g, cap, rfl, hb, (Array.getElem?_eq_some_iff.1 hg).1, hn, by unfold maxLen at hm; omega, fun j hj => ?_, fun j => World.ownsRow.frozenAt ho' j⟩
    rw [World.ownsRow.cellAt ho' j hj, List.getElem?_eq_getElem (by rw [ho.1]; exact hj)]
    exact ⟨_, rfl⟩
theorem Own.formAt {α : Type} {r : Rep α} (hs : r.size = 1) {base : Nat} {e : TypeId} {w : World} {g n cap : Nat} {l : List α} (h : Own r base e w (.slice (some ⟨g, 0, none⟩) n cap) l) {j : Nat} (hj : j < l.length) : (∃ u, w.cell? ⟨g, j, none⟩ = some u) ∧ w.frozen? ⟨g, j, none⟩ = false ∧ base ≤ g := by
  obtain ⟨g', cap', e1, hb, _, _, _, hc, hf⟩ := h.form (by rintro rfl; simp at hj)
  injection e1 with e2 e3 e4
  injection e2 with e2
  injection e2 with e2
  subst e2
  exact ⟨hc j (by rw [hs, Nat.mul_one]; exact hj), hf j, hb⟩
/-- one element of one cell is stored -/
theorem Own.set1 {α : Type} {r : Rep α} (hs : r.size = 1) (hf : r.Flat) {base : Nat} {e : TypeId} {w : World} {g n cap : Nat} {l : List α} (h : Own r base e w (.slice (some ⟨g, 0, none⟩) n cap) l) {j : Nat} (hj : j < l.length) {u : Value} {x : α} (hu : ∀ w, r.rel w [u] x) :
    Own r base e (w.setCell ⟨g, j, none⟩ u) (.slice (some ⟨g, 0, none⟩) n cap) (l.set j x) := by
  obtain ⟨cells, ho, hr⟩ := h
  have hn : n = l.length := by
    rcases ho.2 with ⟨h1, _⟩ | ⟨g', cap', cur, h1, _⟩
    · cases h1
    · injection h1
  subst hn
  refine ⟨cells.set j u, ?_, by simp [hr.1, hs], fun i y hy => ?_⟩
  · rw [List.length_set]
    exact (World.ownsRow.stored ho j u).1
  · rw [hs, Nat.mul_one]
    rw [List.getElem?_set] at hy
    have hcl : cells.length = l.length := by rw [hr.1, hs, Nat.mul_one]
    by_cases hij : j = i
    · subst hij
      simp only [hj, if_true, Option.some.injEq] at hy
      subst hy
      have : ((cells.set j u).drop j).take 1 = [u] := by
        exact take_set_one hcl hj
      rw [this]; exact hu _
    · simp only [hij, if_false] at hy
      have h2 := hr.2 i y hy
      rw [hs, Nat.mul_one] at h2
      have : ((cells.set j u).drop i).take 1 = (cells.drop i).take 1 := by
        apply List.ext_getElem?
        intro k
        cases k with
        | zero => simp [List.getElem?_take, List.getElem?_drop, List.getElem?_set, hij]
        | succ k => simp [List.getElem?_take]
      rw [this]
      exact hf _ _ _ _ h2
/-- a literal of no elements -/
theorem Own.lit0 {α : Type} (r : Rep α) {base g : Nat} (e : TypeId) (w : World) (hg : g = w.heap.size) (hb : base ≤ g) : Own r base e (w.alloc (.cells #[] e)) (.slice (some ⟨g, 0, none⟩) 0 0) [] := by
  subst hg
  exact ⟨[], ⟨by simp, .inr ⟨_, 0, #[], rfl, hb, heap_alloc_new w _, Nat.le_refl _, by simp [maxLen], by simp, by simp⟩⟩, by simp [RowsOf]⟩
/-- a result: a slice of the call's own -/
def RetOwn {α : Type} (r : Rep α) (e : TypeId) (w : World) (l : List α) (en : Ending) (w' : World) : Prop := ∃ v, en = .returned v ∧ Own r w.heap.size e w' v l ∧ Ext w w'
/-- what the table says of an element's type -/
structure El (P : Program) (t e : TypeId) (size bytes : Nat) : Prop where
  und : P.underlying t = some (.slice e)
  info : ∃ i z, P.info? e = some i ∧ i.zero = some z ∧ i.size = size ∧ i.bytes = bytes ∧ z.cells.size = size
  pos : 0 < size
theorem El.mk' {P : Program} {t e : TypeId} {z : Value} {size bytes : Nat} (ht : P.underlying t = some (.slice e)) (h : (P.info? e).map (fun i => (i.zero, i.size, i.bytes)) = some (some z, size, bytes)) (hz : z.cells.size = size) (hp : 0 < size) : El P t e size bytes := by
  obtain ⟨i, h1, h2, h3, h4⟩ := info_parts h
  exact ⟨ht, ⟨i, z, h1, h2, h3, h4, hz⟩, hp⟩

/-- append of a slice to a slice of the call's own -/
theorem append_law {P : Program} {w : World} {ops : Array Oper} {rest : List Oper} {o : Oper} {a : Act} {Q : Exit → Act → World → Prop} {α : Type} {r : Rep α} {t e : TypeId} {bytes base : Nat} (hgd : o.guard = none) (s x : Operand)
    (ho : o.op = .call { callee := .builtin .append, args := #[s, x], argTypes := #[t, t] }) (E : El P t e r.size bytes) (h1 : r.One)
    (v : Value) (l : List α) (hs : a.eval s = v) (hown : Own r base e w v l) (u : Value) (m : List α) (hx : a.eval x = u) (hsrc : SliceOf r w u m)
    (hkeep : ∀ w', w.grownBy w' v.ownBlock → ∀ cs y, y ∈ l ∨ y ∈ m → r.rel w cs y → r.rel w' cs y)
    (h63 : l.length + m.length ≤ maxLen) (hbytes : (l.length + m.length) * bytes ≤ 140737488355328) (hbase : base ≤ w.heap.size)
    (h : ∀ v' w', Own r base e w' v' (l ++ m) → w.grownBy w' v.ownBlock → wpList P ops Q rest (a.put o.dst v') w') : wpList P ops Q (o :: rest) a w := by
  obtain ⟨i, z, hi, hz, hsize, hby, hzs⟩ := E.info
  obtain ⟨cells, howns, hrows⟩ := hown
  rcases hsrc.rows E.pos with ⟨rfl, rfl⟩ | ⟨ad, cap, news, rfl, hle, hm, hnr, hcell⟩
  · refine wpList_append_own_none hgd s x t ho base e i r.size E.und hi v _ cells hs howns hx ?_
    exact h v w (by rw [List.append_nil]; exact ⟨cells, howns, hrows⟩) ⟨rfl, rfl, rfl, Nat.le_refl _, fun _ _ _ => rfl⟩
  · have hone : ∀ u ∈ news, u.oneCell' = true := fun u hu => by
      obtain ⟨j, hj, rfl⟩ := List.getElem_of_mem hu
      have hq : j / r.size < m.length := Nat.div_lt_of_lt_mul (by rw [Nat.mul_comm, ← hnr.1]; exact hj)
      have h2 := hnr.2 (j / r.size) _ (List.getElem?_eq_getElem hq)
      refine (h1 _ _ _ h2).2 _ ?_
      have hmod := Nat.mod_lt j E.pos
      have hdm := Nat.div_add_mod j r.size
      rw [Nat.mul_comm] at hdm
      refine List.mem_of_getElem? (i := j % r.size) ?_
      rw [List.getElem?_take_of_lt hmod, List.getElem?_drop, hdm, List.getElem?_eq_getElem hj]
    refine wpList_append_own _ hgd s x t ho base e i z r.size bytes E.und hi hz hsize hby hzs E.pos v _ cells hs howns ad _ cap news hx hnr.1 hcell hone h63 hbytes hbase fun v' w' ho' hg' _ => ?_
    refine h v' w' ⟨cells ++ news, ?_, ?_⟩ hg'
    · rw [List.length_append]; exact ho'
    · exact RowsOf.append (hrows.keep fun cs y hy hr => hkeep w' hg' cs y (.inl hy) hr) (hnr.keep fun cs y hy hr => hkeep w' hg' cs y (.inr hy) hr)

/-- .. and what it does to a world that the call began in -/
theorem append_ext {P : Program} {w0 w : World} {ops : Array Oper} {rest : List Oper} {o : Oper} {a : Act} {Q : Exit → Act → World → Prop} {α : Type} {r : Rep α} {t e : TypeId} {bytes base : Nat} (hgd : o.guard = none) (s x : Operand)
    (ho : o.op = .call { callee := .builtin .append, args := #[s, x], argTypes := #[t, t] }) (E : El P t e r.size bytes) (h1 : r.One) (hflat : r.Flat)
    (v : Value) (l : List α) (hs : a.eval s = v) (hown : Own r base e w v l) (u : Value) (m : List α) (hx : a.eval x = u) (hsrc : SliceOf r w u m)
    (h63 : l.length + m.length ≤ maxLen) (hbytes : (l.length + m.length) * bytes ≤ 140737488355328) (hbase : base ≤ w.heap.size) (hext : Ext w0 w) (hb0 : w0.heap.size ≤ base)
    (h : ∀ v' w', Own r base e w' v' (l ++ m) → Ext w0 w' → base ≤ w'.heap.size → w.grownBy w' v.ownBlock → wpList P ops Q rest (a.put o.dst v') w') : wpList P ops Q (o :: rest) a w :=
  append_law hgd s x ho E h1 v l hs hown u m hx hsrc (fun _ _ _ _ _ h => hflat _ _ _ _ h) h63 hbytes hbase fun v' w' ho' hg' =>
    h v' w' ho' (hext.grown hg' hext.size fun k hk => Nat.le_trans hb0 (hown.lt k hk)) (Nat.le_trans hbase hg'.size) hg'

/-! ### A block of bytes -/
def Blk (w : World) (g : Nat) (l : List UInt8) (t : TypeId) : Prop := w.heap[g]? = some (.cells (l.map fun (b : UInt8) => Value.int .u8 (b.toNat : Int)).toArray t (0, 0))
theorem Blk.cell {w : World} {g : Nat} {l : List UInt8} {t : TypeId} (h : Blk w g l t) {i : Nat} {x : UInt8} (hi : l[i]? = some x) : w.cell? ⟨g, i, none⟩ = some (.int .u8 (x.toNat : Int)) := by
  unfold Blk at h
  simp [World.cell?, h, hi]
theorem Blk.frozen {w : World} {g : Nat} {l : List UInt8} {t : TypeId} (h : Blk w g l t) (i : Nat) : w.frozen? ⟨g, i, none⟩ = false := by
  unfold Blk at h
  simp [World.frozen?, h]
theorem Blk.set {w : World} {g : Nat} {l : List UInt8} {t : TypeId} (h : Blk w g l t) (i : Nat) (x : UInt8) : Blk (w.setCell ⟨g, i, none⟩ (.int .u8 (x.toNat : Int))) g (l.set i x) t := by
  unfold Blk at h ⊢
  rw [heap_setCell_same w g i _ t _ h]
  congr 2
  simp [List.map_set]
theorem Blk.slice {w : World} {g : Nat} {l : List UInt8} {t : TypeId} (h : Blk w g l t) (o n cap : Nat) (m : List UInt8) (hm : m.length = n) (hc : n ≤ cap) (hcap : cap ≤ maxLen) (hl : ∀ j x, m[j]? = some x → l[o + j]? = some x) : SliceOf rByte w (.slice (some ⟨g, o, none⟩) n cap) m := by
  refine sliceOf_heap h m hm hc hcap fun j x hx => ⟨[.int .u8 (x.toNat : Int)], rfl, fun i hi => ?_, rfl⟩
  obtain rfl : i = 0 := by have : i < 1 := hi; omega
  simp [rByte, hl j x hx]
theorem Blk.mono {w w' : World} {g : Nat} {l : List UInt8} {t : TypeId} (h : Blk w g l t) (hx : Ext w w') : Blk w' g l t := by
  unfold Blk at h ⊢
  rw [hx.block g (Array.getElem?_eq_some_iff.1 h).1, h]

/-! ### Arguments, opened -/
section
variable {P : Program}
/-- whatever reads as data of this type is told by r -/
def Opens {α : Type} (P : Program) (t : TypeId) (r : Rep α) : Prop :=
  P.cellsOf t = r.size ∧ ∀ (H : Type) (enc : TypeId × Value → H) (w : World) (base : Nat) (sp : Nat → Bool) (held : Bool) (fuel : Nat) (cs : List Value) (x : DataW H × List MemPlace),
    DataW.trod enc P w base sp held fuel t cs = some x → ∃ y, r.rel w cs y ∧ cs.length = r.size
theorem opens_int {t : TypeId} {k : IntKind} (ht : P.underlying t = some (.int k)) (hc : P.cellsOf t = 1) : Opens P t (rInt k) := by
  refine ⟨hc, fun H enc w base sp held fuel cs x h => ?_⟩
  cases fuel with
  | zero => simp [DataW.trod] at h
  | succ n =>
    match cs, h with
    | [.int k' m], h =>
      simp only [DataW.trod, ht] at h
      split at h
      · rename_i hh; obtain ⟨rfl, hw⟩ := hh; exact ⟨m, ⟨rfl, hw⟩, rfl⟩
      · cases h
    | [], h => simp [DataW.trod, ht] at h
    | [.bool _], h | [.float _ _], h | [.complex _ _ _], h | [.string _], h | [.pointer _], h | [.slice _ _ _], h | [.map _], h | [.chan _], h | [.func _ _ _], h | [.nilFunc], h | [.iface _ _], h | [.nilIface], h | [.agg _], h | [.tuple _], h => simp [DataW.trod, ht] at h
    | _ :: _ :: _, h => simp [DataW.trod, ht] at h
theorem opens_bool {t : TypeId} (ht : P.underlying t = some .bool) (hc : P.cellsOf t = 1) : Opens P t rBool := by
  refine ⟨hc, fun H enc w base sp held fuel cs x h => ?_⟩
  cases fuel with
  | zero => simp [DataW.trod] at h
  | succ n =>
    match cs, h with
    | [.bool m], h => exact ⟨m, rfl, rfl⟩
    | [], h => simp [DataW.trod, ht] at h
    | [.int _ _], h | [.float _ _], h | [.complex _ _ _], h | [.string _], h | [.pointer _], h | [.slice _ _ _], h | [.map _], h | [.chan _], h | [.func _ _ _], h | [.nilFunc], h | [.iface _ _], h | [.nilIface], h | [.agg _], h | [.tuple _], h => simp [DataW.trod, ht] at h
    | _ :: _ :: _, h => simp [DataW.trod, ht] at h
theorem opens_str {t : TypeId} (ht : P.underlying t = some .string) (hc : P.cellsOf t = 1) : Opens P t rStr := by
  refine ⟨hc, fun H enc w base sp held fuel cs x h => ?_⟩
  cases fuel with
  | zero => simp [DataW.trod] at h
  | succ n =>
    match cs, h with
    | [.string m], h =>
      simp only [DataW.trod, ht] at h
      split at h
      · rename_i hh; exact ⟨m, ⟨rfl, hh⟩, rfl⟩
      · cases h
    | [], h => simp [DataW.trod, ht] at h
    | [.int _ _], h | [.float _ _], h | [.complex _ _ _], h | [.bool _], h | [.pointer _], h | [.slice _ _ _], h | [.map _], h | [.chan _], h | [.func _ _ _], h | [.nilFunc], h | [.iface _ _], h | [.nilIface], h | [.agg _], h | [.tuple _], h => simp [DataW.trod, ht] at h
    | _ :: _ :: _, h => simp [DataW.trod, ht] at h
theorem opens_byte {t : TypeId} (ht : P.underlying t = some (.int .u8)) (hc : P.cellsOf t = 1) : Opens P t rByte := by
  refine ⟨hc, fun H enc w base sp held fuel cs x h => ?_⟩
  obtain ⟨y, ⟨rfl, hy⟩, hl⟩ := (opens_int ht hc).2 H enc w base sp held fuel cs x h
  have hy' : 0 ≤ y ∧ y ≤ 255 := by simpa [Lit.wf, IntKind.min, IntKind.max, IntKind.signed, IntKind.bits] using hy
  refine ⟨UInt8.ofNat y.toNat, ?_, rfl⟩
  show [Value.int .u8 y] = [Value.int .u8 ((UInt8.ofNat y.toNat).toNat : Int)]
  have : ((UInt8.ofNat y.toNat).toNat : Int) = y := by
    rw [UInt8.toNat_ofNat']; omega
  rw [this]

theorem mapM_some_each {α β : Type} {f : α → Option β} {l : List α} {r : List β} (h : l.mapM f = some r) : ∀ a ∈ l, ∃ b, f a = some b := by
  induction l generalizing r with
  | nil => intro a ha; cases ha
  | cons x l ih =>
    simp only [List.mapM_cons, bind, Option.bind_eq_some_iff] at h
    obtain ⟨b, hb, bs, hbs, _⟩ := h
    intro a ha
    rcases List.mem_cons.1 ha with rfl | ha
    · exact ⟨b, hb⟩
    · exact ih hbs a ha
theorem mapM_some_tail {α β : Type} {f : α → Option β} {x : α} {l : List α} {r : List β} (h : (x :: l).mapM f = some r) : ∃ bs, l.mapM f = some bs := by
  simp only [List.mapM_cons, bind, Option.bind_eq_some_iff] at h
  obtain ⟨b, hb, bs, hbs, _⟩ := h
  exact ⟨bs, hbs⟩
theorem opens_slice {α : Type} {t e : TypeId} {r : Rep α} (ht : P.underlying t = some (.slice e)) (hc : P.cellsOf t = 1) (hpos : 0 < r.size) (he : Opens P e r) : Opens P t (rSlice r) := by
  refine ⟨hc, fun H enc w base sp held fuel cs x h => ?_⟩
  rcases open_slice ht h with ⟨rfl, _⟩ | ⟨a, len, cap, m, n, D, Pl, rfl, hb, hl, hm, hmm, _, hx⟩
  · exact ⟨[], ⟨_, rfl, sliceOf_nil r w⟩, rfl⟩
  · have hlm : len ≤ m := by rw [hmm]; split <;> omega
    rw [he.1] at hx
    obtain ⟨l, hll, hl2⟩ := list_of_each (n := len) (p := fun i y => ∃ ecs, w.cells? base (a.add (i * r.size)) r.size = some ecs ∧ r.rel w ecs y ∧ ecs.length = r.size) (fun i hi => by
      obtain ⟨cs', h1, h2⟩ := hx i (by omega)
      obtain ⟨y, hy, hcl⟩ := he.2 _ _ _ _ _ _ _ _ _ h2
      exact ⟨y, cs', h1, hy, hcl⟩)
    refine ⟨l, ⟨_, rfl, some a, cap, by rw [hll], by omega, hm, by simp, fun hne => ?_⟩, rfl⟩
    have hpl : 0 < l.length := by cases l with | nil => exact absurd rfl hne | cons => simp
    -- the first element's first cell tells that the address is plain
    have hplain : ∃ g o, a = ⟨g, o, none⟩ ∧ g < w.heap.size := by
      obtain ⟨ecs, h1, _, h3⟩ := hl2 0 hpl
      obtain ⟨_, hlen, hcell⟩ := World.cells?_some h1
      have h0 := hcell 0 (by omega)
      have e0 : (a.add (0 * r.size)).add 0 = a := by simp [Addr.add]
      rw [e0] at h0
      have hs : ecs[0]? = some (ecs[0]'(by omega)) := List.getElem?_eq_getElem (by omega)
      rw [hs] at h0
      have hlt := World.block_lt_of_cell? w a h0
      obtain ⟨g, o, sp⟩ := a
      cases sp with
      | none => exact ⟨g, o, rfl, hlt⟩
      | some s =>
        simp only [World.cell?] at h0
        split at h0
        · simp at h0
        · cases h0
    obtain ⟨g, o, rfl, hg⟩ := hplain
    refine ⟨g, o, rfl, hg, fun j x hjx => ?_⟩
    obtain ⟨hj, rfl⟩ := List.getElem?_eq_some_iff.1 hjx
    obtain ⟨ecs, h1, h2, h3⟩ := hl2 j hj
    obtain ⟨_, hlen, hcell⟩ := World.cells?_some h1
    refine ⟨ecs, h3, fun i hi => ?_, h2⟩
    rw [← hcell i (by omega)]
    congr 1
    rw [Go.Deep.add_add]
    unfold Addr.add
    split
    · rename_i e0; first | (simp; done) | (simp; omega)
    · first | (simp; done) | (simp; omega)

theorem opens_arr {α : Type} {t e : TypeId} {n : Nat} {r : Rep α} (ht : P.underlying t = some (.array n e)) (hc : P.cellsOf t = n * r.size) (he : Opens P e r) : Opens P t (rArr n r) := by
  refine ⟨hc, fun H enc w base sp held fuel cs x h => ?_⟩
  cases fuel with
  | zero => simp [DataW.trod] at h
  | succ m =>
    have key : ∃ xs, cs.length = P.cellsOf t ∧ ((List.range n).mapM fun i => DataW.trod enc P w base sp held m e ((cs.drop (i * P.cellsOf e)).take (P.cellsOf e))) = some xs := by
      unfold DataW.trod at h
      rw [ht] at h
      simp only at h
      split at h
      · rename_i hlen
        obtain ⟨xs, h1, _⟩ := Option.map_eq_some_iff.1 h
        exact ⟨xs, hlen, h1⟩
      · cases h
    obtain ⟨xs, hlen, hm⟩ := key
    have hall : ∀ i, i < n → ∃ y, r.rel w ((cs.drop (i * r.size)).take r.size) y := fun i hi => by
      have : ∃ z, DataW.trod enc P w base sp held m e ((cs.drop (i * P.cellsOf e)).take (P.cellsOf e)) = some z := by
        have hi' : i ∈ List.range n := List.mem_range.2 hi
        exact mapM_some_each hm i hi'
      obtain ⟨z, hz⟩ := this
      obtain ⟨y, hy, _⟩ := he.2 _ _ _ _ _ _ _ _ _ hz
      rw [he.1] at hy
      exact ⟨y, hy⟩
    obtain ⟨l, hl, hp⟩ := list_of_each hall
    exact ⟨l, ⟨hl, by rw [hlen, hc], hp⟩, by rw [hlen, hc]; rfl⟩

/-- a struct's fields from a place on -/
def OpensF {α : Type} (P : Program) (fs : List Field) (off : Nat) (r : Rep α) : Prop :=
  ∀ (H : Type) (enc : TypeId × Value → H) (w : World) (base : Nat) (sp : Nat → Bool) (held : Bool) (fuel : Nat) (cs : List Value) (xs : List (DataW H × List MemPlace)), cs.length = off + r.size →
    (fs.mapM fun f => DataW.trod enc P w base sp held fuel f.type ((cs.drop f.offset).take (P.cellsOf f.type))) = some xs → ∃ y, r.rel w (cs.drop off) y
theorem opensF_one {α : Type} {f : Field} {off : Nat} {r : Rep α} (ho : f.offset = off) (h : Opens P f.type r) : OpensF P [f] off r := by
  intro H enc w base sp held fuel cs xs hlen hm
  obtain ⟨z, hz⟩ := mapM_some_each hm f (by simp)
  obtain ⟨y, hy, _⟩ := h.2 _ _ _ _ _ _ _ _ _ hz
  rw [h.1, ho, List.take_of_length_le (by simp; omega)] at hy
  exact ⟨y, hy⟩
theorem opensF_cons {α β : Type} {f : Field} {fs : List Field} {off : Nat} {r : Rep α} {s : Rep β} (ho : f.offset = off) (h : Opens P f.type r) (hs : OpensF P fs (off + r.size) s) : OpensF P (f :: fs) off (rPair r s) := by
  intro H enc w base sp held fuel cs xs hlen hm
  have hlen' : cs.length = off + (r.size + s.size) := hlen
  obtain ⟨z, hz⟩ := mapM_some_each hm f (by simp)
  obtain ⟨y, hy, hyl⟩ := h.2 _ _ _ _ _ _ _ _ _ hz
  rw [h.1, ho] at hy hyl
  obtain ⟨zs, hzs⟩ := mapM_some_tail hm
  obtain ⟨y2, hy2⟩ := hs _ _ _ _ _ _ _ cs zs (by omega) hzs
  refine ⟨(y, y2), (cs.drop off).take r.size, cs.drop (off + r.size), ?_, hyl, by simp; omega, hy, hy2⟩
  rw [← List.drop_drop, List.take_append_drop]
theorem opens_struct {α : Type} {t : TypeId} {fs : Array Field} {r : Rep α} (ht : P.underlying t = some (.struct fs)) (hc : P.cellsOf t = r.size) (hf : OpensF P fs.toList 0 r) : Opens P t r := by
  refine ⟨hc, fun H enc w base sp held fuel cs x h => ?_⟩
  cases fuel with
  | zero => simp [DataW.trod] at h
  | succ m =>
    unfold DataW.trod at h
    rw [ht] at h
    simp only at h
    split at h
    · rename_i hlen
      obtain ⟨xs, h1, _⟩ := Option.map_eq_some_iff.1 h
      obtain ⟨y, hy⟩ := hf _ _ _ _ _ _ _ cs xs (by omega) h1
      exact ⟨y, by simpa using hy, by rw [hlen, hc]⟩
    · cases h

/-- an array of four bytes -/
theorem arr4 {w : World} {cs : Array Value} {y : List UInt8} (hs : cs.size = 4) (h : (rArr 4 rByte).rel w cs.toList y) : ∃ a b c d : UInt8, cs = #[.int .u8 (a.toNat : Int), .int .u8 (b.toNat : Int), .int .u8 (c.toNat : Int), .int .u8 (d.toNat : Int)] ∧ y = [a, b, c, d] := by
  obtain ⟨h1, _, h3⟩ := h
  match y, h1 with
  | [a, b, c, d], _ =>
    refine ⟨a, b, c, d, ?_, rfl⟩
    have e0 := h3 0 (by simp)
    have e1 := h3 1 (by simp)
    have e2 := h3 2 (by simp)
    have e3 := h3 3 (by simp)
    simp only [rByte, Nat.mul_one] at e0 e1 e2 e3
    obtain ⟨l⟩ := cs
    match l, hs with
    | [p, q, r, s], _ =>
      simp at e0 e1 e2 e3
      simp [e0, e1, e2, e3]

/-! ### An argument -/
section
variable {H : Type} {enc : TypeId × Value → H} {w : World} {base b0 : Nat} {spare : Nat → Bool} {held : Bool} {rch : Reach}
theorem arg_slice {α : Type} {t e : TypeId} {r : Rep α} {v : Value} {d : DataW H} {ps : List MemPlace} (ht : P.underlying t = some (.slice e)) (h : Opens P t (rSlice r)) (hval : Value.okWide P w rch b0 t v) (hd : DataW.Trod enc P w base spare held t v d ps) : ∃ l, SliceOf r w v l := by
  obtain ⟨fuel, hf⟩ := hd
  obtain ⟨l, ⟨v', e1, hl⟩, _⟩ := h.2 _ _ _ _ _ _ _ _ _ hf
  have hv : ∃ a n c, v = .slice a n c := by
    simp only [Value.okWide, ht, Cell.okWide, Cell.ok] at hval
    split at hval <;> simp_all
  obtain ⟨a, n, c, rfl⟩ := hv
  simp only [Value.cells, List.cons.injEq, and_true] at e1
  exact ⟨l, e1 ▸ hl⟩
theorem arg_int {t : TypeId} {k : IntKind} {v : Value} {d : DataW H} {ps : List MemPlace} (ht : P.underlying t = some (.int k)) (hval : Value.okWide P w rch b0 t v) (hd : DataW.Trod enc P w base spare held t v d ps) : ∃ n, v = .int k n ∧ (Lit.int k n).wf = true := by
  obtain ⟨n, h1, _, _, h2⟩ := open_int ht hval hd
  exact ⟨n, h1, h2⟩
theorem arg_bool {t : TypeId} {v : Value} (ht : P.underlying t = some .bool) (hval : Value.okWide P w rch b0 t v) : ∃ b, v = .bool b := by
  simp only [Value.okWide, ht, Cell.okWide, Cell.ok] at hval
  split at hval <;> simp_all
theorem arg_str {t : TypeId} {v : Value} {d : DataW H} {ps : List MemPlace} (ht : P.underlying t = some .string) (h : Opens P t rStr) (hval : Value.okWide P w rch b0 t v) (hd : DataW.Trod enc P w base spare held t v d ps) : ∃ s, v = .string s ∧ s.size ≤ maxLen := by
  obtain ⟨fuel, hf⟩ := hd
  obtain ⟨s, ⟨e1, hs⟩, _⟩ := h.2 _ _ _ _ _ _ _ _ _ hf
  have hv : ∃ s', v = .string s' := by
    simp only [Value.okWide, ht, Cell.okWide, Cell.ok] at hval
    split at hval <;> simp_all
  obtain ⟨s', rfl⟩ := hv
  have : s' = s := by simpa [Value.cells] using e1
  exact ⟨s, by rw [this], hs⟩
theorem arg_agg {α : Type} {t : TypeId} {r : Rep α} {v : Value} {d : DataW H} {ps : List MemPlace} (ht : (∃ fs, P.underlying t = some (.struct fs)) ∨ ∃ n e, P.underlying t = some (.array n e)) (h : Opens P t r) (hval : Value.okWide P w rch b0 t v) (hd : DataW.Trod enc P w base spare held t v d ps) :
    ∃ cs y, v = .agg cs ∧ cs.size = r.size ∧ r.rel w cs.toList y := by
  obtain ⟨fuel, hf⟩ := hd
  obtain ⟨y, hy, hl⟩ := h.2 _ _ _ _ _ _ _ _ _ hf
  have hv : ∃ cs, v = .agg cs ∧ cs.size = P.cellsOf t := by
    rcases ht with ⟨fs, ht⟩ | ⟨n, e, ht⟩ <;> · simp only [Value.okWide, ht] at hval; obtain ⟨cs, e1, e2, _⟩ := hval; exact ⟨cs, e1, e2⟩
  obtain ⟨cs, rfl, hcs⟩ := hv
  exact ⟨cs, y, rfl, by rw [hcs, h.1], hy⟩
end

/-! ### A law's contract becomes its row's -/
theorem trodAll_ext {H : Type} {enc : TypeId × Value → H} (hl : laidOutB P = true) {W W' : World} (hb : Ext W W') :
    ∀ (ts : List TypeId) (vs : List Value) (ds : List (DataW H)) (ps : List MemPlace), (∀ t ∈ ts, P.readableRec t = true ∧ t < P.types.size) → (∀ x ∈ ps, x.block < W.heap.size) →
      DataW.TrodAll enc P W 0 (fun _ => true) true ts vs ds ps → DataW.TrodAll enc P W' 0 (fun b => decide (b < W.heap.size)) true ts vs ds ps
  | [], [], [], ps, _, _, h => h
  | t :: ts, v :: vs, d :: ds, ps, hr, hp, ⟨p, q, h1, h2, e⟩ => by
    subst e
    refine ⟨p, q, Below.trod hl (hr t (by simp)).1 (hr t (by simp)).2 h1 hb (fun x hx => hp x (by simp [hx])), ?_, rfl⟩
    exact trodAll_ext hl hb ts vs ds q (fun t' ht' => hr t' (by simp [ht'])) (fun x hx => hp x (by simp [hx])) h2
  | [], _ :: _, _, _, _, _, h => by simp [DataW.TrodAll] at h
  | [], [], _ :: _, _, _, _, h => by simp [DataW.TrodAll] at h
  | _ :: _, [], _, _, _, _, h => by simp [DataW.TrodAll] at h
  | _ :: _, _ :: _, [], _, _, _, h => by simp [DataW.TrodAll] at h

/-- WHAT A LAW OWES: it returned true, and the world has only grown. -/
theorem law_post {H : Type} {enc : TypeId × Value → H} {f : Func} {s : ChangeSpec} {tb : TypeId} (hl : laidOutB P = true) (hpar : ∀ t ∈ f.params.toList, P.readableRec t = true ∧ t < P.types.size)
    (hres : f.resultTypes = #[tb]) (htb : P.underlying tb = some .bool) (hvars : s.vars = []) {W W' : World} {args : Array Value} {ds gs : List (DataW H)} {before : List MemPlace}
    (hW : DataW.Whole enc P f.params.toList s.vars false W args.toList ds gs before)
    (hfn : (s.fn H (ds ++ gs)).results = [.lit (.bool true)] ∧ (s.fn H (ds ++ gs)).args = ds ∧ (s.fn H (ds ++ gs)).vars = []) (hb : Ext W W') : s.post enc P f false true false false W args (.bool true) W' := by
  have hlt := hW.lt
  have hW' := hW
  obtain ⟨p, q, hA, hV, rfl, hfz, hnd⟩ := hW'
  rw [hvars] at hV
  obtain ⟨rfl, rfl⟩ := trodVars_none hV
  refine ⟨ds, [], p ++ [], [], p, [], hW, ?_, ?_, ?_, ?_, by simp⟩
  · rw [hfn.1, hres]
    exact ⟨[], [], ⟨1, by simp [DataW.trod, Value.cells, htb]⟩, rfl, rfl⟩
  · rw [hfn.2.1]
    exact trodAll_ext hl hb _ _ _ _ hpar (fun x hx => hlt x (by simp [hx])) hA
  · rw [hvars, hfn.2.2]
    rfl
  · exact Below.frame hb _
end
end Go.Proofs.Ythclkljdnmokcaa
