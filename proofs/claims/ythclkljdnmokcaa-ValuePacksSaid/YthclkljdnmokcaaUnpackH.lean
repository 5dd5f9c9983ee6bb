/-
  value.Unpack, walked.
-/
import Derived.Test.YthclkljdnmokcaaThing5
set_option linter.unusedVariables false
set_option linter.unusedSimpArgs false
namespace Go.Proofs.Ythclkljdnmokcaa
open Go.RowKit Go.Proofs
attribute [local go_sem ↓] Go.wp_at_zero Go.wp_at_succ

def zeroV : Val := ⟨0, ByteArray.empty, [], [], []⟩
/-- what Unpack answers -/
def resU (l : List UInt8) : Val × Nat × Bool := match unpackB l with | some r => (r.1, r.2, true) | none => (zeroV, 0, false)
def UPost (l : List UInt8) (w : World) (e : Ending) (w' : World) : Prop :=
  ∃ p t z, e = .returned (.tuple #[.agg #[.int .i64 (resU l).1.kind, .string (resU l).1.text, p, t, z], .int .i64 ((resU l).2.1 : Int), .bool (resU l).2.2]) ∧ Parts w' p t z (resU l).1 ∧ (Lit.int .i64 (resU l).1.kind).wf = true ∧ (resU l).1.text.size ≤ maxLen ∧ Ext w w'
theorem resU_none {l : List UInt8} (h : unpackB l = none) : resU l = (zeroV, 0, false) := by unfold resU; rw [h]
theorem resU_some {l : List UInt8} {x : Val} {n : Nat} (h : unpackB l = some (x, n)) : resU l = (x, n, true) := by unfold resU; rw [h]
/-- five stores into a box -/
abbrev set5 (w : World) (r : Nat) (v0 v1 v2 v3 v4 : Value) : World := ((((w.setCell ⟨r, 0, none⟩ v0).setCell ⟨r, 1, none⟩ v1).setCell ⟨r, 2, none⟩ v2).setCell ⟨r, 3, none⟩ v3).setCell ⟨r, 4, none⟩ v4
theorem cell_same {w : World} {a : Addr} {u v : Value} (h : w.cell? a = some u) : (w.setCell a v).cell? a = some v := World.cell?_setCell_same' _ _ _ (by rw [h]; rfl)
theorem set5_cells {w : World} {r : Nat} {u0 u1 u2 u3 u4 : Value} (h0 : w.cell? ⟨r, 0, none⟩ = some u0) (h1 : w.cell? ⟨r, 1, none⟩ = some u1) (h2 : w.cell? ⟨r, 2, none⟩ = some u2) (h3 : w.cell? ⟨r, 3, none⟩ = some u3) (h4 : w.cell? ⟨r, 4, none⟩ = some u4) (v0 v1 v2 v3 v4 : Value) :
    (set5 w r v0 v1 v2 v3 v4).cell? ⟨r, 0, none⟩ = some v0 ∧ (set5 w r v0 v1 v2 v3 v4).cell? ⟨r, 1, none⟩ = some v1 ∧ (set5 w r v0 v1 v2 v3 v4).cell? ⟨r, 2, none⟩ = some v2 ∧ (set5 w r v0 v1 v2 v3 v4).cell? ⟨r, 3, none⟩ = some v3 ∧ (set5 w r v0 v1 v2 v3 v4).cell? ⟨r, 4, none⟩ = some v4 :=
  ⟨cell_set_other (cell_set_other (cell_set_other (cell_set_other (cell_same h0) (by decide)) (by decide)) (by decide)) (by decide),
   cell_set_other (cell_set_other (cell_set_other (cell_same (cell_set_other h1 (by decide))) (by decide)) (by decide)) (by decide),
   cell_set_other (cell_set_other (cell_same (cell_set_other (cell_set_other h2 (by decide)) (by decide))) (by decide)) (by decide),
   cell_set_other (cell_same (cell_set_other (cell_set_other (cell_set_other h3 (by decide)) (by decide)) (by decide))) (by decide),
   cell_same (cell_set_other (cell_set_other (cell_set_other (cell_set_other h4 (by decide)) (by decide)) (by decide)) (by decide))⟩
theorem set5_ext {w0 w : World} {r : Nat} (h : Ext w0 w) (hr : w0.heap.size ≤ r) (v0 v1 v2 v3 v4 : Value) : Ext w0 (set5 w r v0 v1 v2 v3 v4) :=
  Below.setCell (Below.setCell (Below.setCell (Below.setCell (Below.setCell h (p := ⟨r, 0, none⟩) hr _) (p := ⟨r, 1, none⟩) hr _) (p := ⟨r, 2, none⟩) hr _) (p := ⟨r, 3, none⟩) hr _) (p := ⟨r, 4, none⟩) hr _
theorem grown_trans {g : Option Nat} {w w2 w3 : World} (h : w.grownBy w2 g) (k : w2.grownBy w3 g) : w.grownBy w3 g :=
  ⟨k.os.trans h.os, k.tape.trans h.tape, k.output.trans h.output, Nat.le_trans h.size k.size, fun b hb hg => (k.block b (Nat.lt_of_lt_of_le hb h.size) hg).trans (h.block b hb hg)⟩
theorem set5_grown (w : World) (r : Nat) (v0 v1 v2 v3 v4 : Value) : w.grownBy (set5 w r v0 v1 v2 v3 v4) (some r) :=
  grown_trans (grown_trans (grown_trans (grown_trans (grown_set r 0 v0 w) (grown_set r 1 v1 _)) (grown_set r 2 v2 _)) (grown_set r 3 v3 _)) (grown_set r 4 v4 _)
set_option maxRecDepth 100000 in
set_option maxHeartbeats 1000000 in
theorem unpack_fin {l : List UInt8} {w wf : World} {r : Nat} {x : Val} {n : Nat} {b : Bool} {p t z : Value} {t0 t1 t5 t6 t7 t8 t9 t10 t11 t12 t13 t14 t15 t16 t17 t18 t19 t20 t21 t22 t23 t24 t25 t26 t27 t28 t29 t30 t31 t32 t33 t34 t35 t36 t37 t38 t39 t40 t41 t42 t43 t44 t45 t46 t47 t48 t49 t50 t51 : Value} (h0 : wf.cell? ⟨r, 0, none⟩ = some (.int .i64 x.kind)) (h1 : wf.cell? ⟨r, 1, none⟩ = some (.string x.text)) (h2 : wf.cell? ⟨r, 2, none⟩ = some p) (h3 : wf.cell? ⟨r, 3, none⟩ = some t) (h4 : wf.cell? ⟨r, 4, none⟩ = some z)
    (hp : Parts wf p t z x) (hk : (Lit.int .i64 x.kind).wf = true) (hs : x.text.size ≤ maxLen) (hres : resU l = (x, n, b)) (hx : Ext w wf) :
    bodyPost Try.prog Try.f23 (UPost l w) Exit.ret { tmps := #[t0, t1, .pointer (some ⟨r, 0, none⟩), .int .i64 (n : Int), .bool b, t5, t6, t7, t8, t9, t10, t11, t12, t13, t14, t15, t16, t17, t18, t19, t20, t21, t22, t23, t24, t25, t26, t27, t28, t29, t30, t31, t32, t33, t34, t35, t36, t37, t38, t39, t40, t41, t42, t43, t44, t45, t46, t47, t48, t49, t50, t51], defers := [] } wf := by
  obtain ⟨pa, pc, rfl, _⟩ := id hp.1
  obtain ⟨ta, tc, rfl, _⟩ := id hp.2.1
  obtain ⟨za, zc, rfl, _⟩ := id hp.2.2
  refine bodyPost_ret (v := .tuple #[.agg #[.int .i64 x.kind, .string x.text, .slice pa x.pairs.length pc, .slice ta x.texts.length tc, .slice za x.zset.length zc], .int .i64 (n : Int), .bool b]) (by simp [results, Try.results23, go_sem, h0, h1, h2, h3, h4]) rfl ?_
  refine ⟨.slice pa x.pairs.length pc, .slice ta x.texts.length tc, .slice za x.zset.length zc, ?_, ?_, ?_, ?_, hx⟩
  · rw [hres]
  · rw [hres]; exact hp
  · rw [hres]; exact hk
  · rw [hres]; exact hs
/-- the last loop rounds: none stays none -/
theorem many_none {α : Type} (f : Nat → Option (α × Nat)) {i n : Nat} (q : Nat) (h : many f i q = none) (hin : i ≤ n) : many f n q = none := by
  induction n with
  | zero => obtain rfl : i = 0 := by omega
            exact h
  | succ n ih =>
    by_cases e : i = n + 1
    · rw [← e]; exact h
    · simp only [many, ih (by omega), Option.bind_none]
theorem frozen_new (w : World) (cs : Array Value) (ty : TypeId) (i : Nat) : (w.alloc (.cells cs ty)).frozen? ⟨w.heap.size, i, none⟩ = false := by
  have e := heap_alloc_new w (.cells cs ty)
  simp only [World.frozen?, e]
  simp
/-- the cells of the result's box -/
def ZBox (w : World) (r : Nat) : Prop := (w.cell? ⟨r, 0, none⟩ = some (.int .i64 0) ∧ w.cell? ⟨r, 1, none⟩ = some (.string ⟨#[]⟩) ∧ w.cell? ⟨r, 2, none⟩ = some (.slice none 0 0) ∧ w.cell? ⟨r, 3, none⟩ = some (.slice none 0 0) ∧ w.cell? ⟨r, 4, none⟩ = some (.slice none 0 0)) ∧ r < w.heap.size ∧ ∀ i, w.frozen? ⟨r, i, none⟩ = false
theorem ZBox.mono {w w' : World} {r : Nat} (h : ZBox w r) (hx : Ext w w') : ZBox w' r := by
  obtain ⟨⟨h0, h1, h2, h3, h4⟩, lt, f⟩ := h
  exact ⟨⟨hx.cell h0, hx.cell h1, hx.cell h2, hx.cell h3, hx.cell h4⟩, Nat.lt_of_lt_of_le lt hx.size, fun i => by rw [← f i]; exact World.frozen?_of_block (hx.block r lt)⟩
theorem zbox_new (w : World) {ty : TypeId} : ZBox (w.alloc (.cells #[.int .i64 0, .string ⟨#[]⟩, .slice none 0 0, .slice none 0 0, .slice none 0 0] ty)) w.heap.size :=
  ⟨⟨box1 _ _ _ rfl rfl, box1 _ _ _ rfl rfl, box1 _ _ _ rfl rfl, box1 _ _ _ rfl rfl, box1 _ _ _ rfl rfl⟩, by simp, fun i => frozen_new _ _ _ _⟩
theorem rd_new (w : World) {g : Nat} (hg : g = w.heap.size) (bv : Value) (l : List UInt8) (hb : SliceOf rByte w bv l) {ty : TypeId} : RdO g w (w.alloc (.cells #[bv, .int .i64 0, .bool false] ty)) bv l (some 0) := by
  subst hg
  exact ⟨box1 _ _ _ rfl rfl, box1 _ _ _ rfl rfl, box1 _ _ _ rfl rfl, frozen_new _ _ _ _, frozen_new _ _ _ _, frozen_new _ _ _ _, hb, by omega, Nat.le_refl _, by simp, (Ext.refl w).alloc _⟩
theorem unv_new (w : World) {h : Nat} (hh : h = w.heap.size) (k : Int) {ty : TypeId} : UnV h (w.alloc (.cells #[.int .i64 k, .string ⟨#[]⟩, .slice none 0 0, .slice none 0 0, .slice none 0 0] ty)) ⟨k, ByteArray.empty, [], [], []⟩ (.slice none 0 0) (.slice none 0 0) (.slice none 0 0) := by
  subst hh
  exact ⟨⟨box1 _ _ _ rfl rfl, box1 _ _ _ rfl rfl, box1 _ _ _ rfl rfl, box1 _ _ _ rfl rfl, box1 _ _ _ rfl rfl⟩, fun i => frozen_new _ _ _ _, by simp⟩
theorem num_one (l : List UInt8) (h : 1 ≤ l.length) : numB l (some 0) 1 = ((bNum (l.take 1) : Int), some 1) := by
  have e : takeB l (some 0) 1 = (l.take 1, some 1) := by unfold takeB; simp only [Nat.zero_add, if_pos h, List.drop_zero]
  unfold numB
  rw [e]
  have h1 := bNum_lt (l.take 1)
  have h2 : 256 ^ (l.take 1).length ≤ 256 ^ 1 := Nat.pow_le_pow_right (by decide) (by simp; omega)
  simp only
  rw [i64Of_small (by omega)]
theorem num_two (l : List UInt8) : (numB l (some 1) 2 = ((bNum ((l.drop 1).take 2) : Int), some 3) ∧ 3 ≤ l.length ∧ bNum ((l.drop 1).take 2) < 65536) ∨ (numB l (some 1) 2 = ((0 : Int), none) ∧ unpackB l = none) := by
  by_cases h : 1 + 2 ≤ l.length
  · have e : takeB l (some 1) 2 = ((l.drop 1).take 2, some 3) := if_pos h
    left
    have h1 := two_lt l 1
    refine ⟨?_, h, h1⟩
    unfold numB
    rw [e]
    simp only
    rw [i64Of_small (by omega)]
  · have e : takeB l (some 1) 2 = ([], none) := if_neg h
    right
    refine ⟨?_, by unfold unpackB; rw [if_neg (by omega)]⟩
    unfold numB
    rw [e]
    rfl
def rightOr (r : Option (Val × Nat)) : Option (Val × Nat) := r.bind fun r => if rightV r.1 = true then some r else none
theorem unpack2 {l : List UInt8} (h3 : 3 ≤ l.length) (hk : bNum (l.take 1) = 2) : unpackB l = rightOr ((many (pairAt l) (bNum ((l.drop 1).take 2)) 3).map fun r => (⟨2, ByteArray.empty, r.1, [], []⟩, r.2)) := by
  unfold unpackB readB rightOr
  rw [if_pos h3, if_neg (by omega), if_pos hk]
theorem unpack5 {l : List UInt8} (h3 : 3 ≤ l.length) (hk : bNum (l.take 1) = 5) : unpackB l = rightOr ((many (membAt l) (bNum ((l.drop 1).take 2)) 3).map fun r => (⟨5, ByteArray.empty, [], [], r.1⟩, r.2)) := by
  unfold unpackB readB rightOr
  rw [if_pos h3, if_neg (by omega), if_neg (by omega), if_pos hk]
theorem unpackT {l : List UInt8} {k : Nat} (h3 : 3 ≤ l.length) (hk : bNum (l.take 1) = k) (h1 : k ≠ 1) (h2 : k ≠ 2) (h5 : k ≠ 5) : unpackB l = rightOr ((many (wordAt l) (bNum ((l.drop 1).take 2)) 3).map fun r => (⟨k, ByteArray.empty, [], r.1, []⟩, r.2)) := by
  unfold unpackB readB rightOr
  rw [if_pos h3, hk, if_neg h1, if_neg h2, if_neg h5]
theorem many_snd {α : Type} (f : Nat → Option (α × Nat)) {k q : Nat} {P : List α} {p : Nat} (h : many f k q = some (P, p)) : many f (k + 1) q = (f p).map fun y => (P ++ [y.1], y.2) := by
  simp only [many, h, Option.bind_some]
end Go.Proofs.Ythclkljdnmokcaa
