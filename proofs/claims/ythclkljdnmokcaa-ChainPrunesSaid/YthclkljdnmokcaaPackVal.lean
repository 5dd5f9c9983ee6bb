/-
  value.packed: a value laid; walked.
-/
import Derived.Test.YthclkljdnmokcaaPackText
import Derived.Test.YthclkljdnmokcaaVClone
set_option linter.unusedVariables false
set_option linter.unusedSimpArgs false
namespace Go.Proofs.Ythclkljdnmokcaa
open Go.RowKit Go.Proofs

def sizeV (x : Val) : Int := if x.kind = 1 then (x.text.size : Int) else (x.pairs.length : Int) + x.texts.length + x.zset.length
def pairsB (l : List (ByteArray × ByteArray)) : List UInt8 := (l.map fun p => textsB [p.1, p.2]).flatten
def zsetB (l : List (Int × ByteArray)) : List UInt8 := (l.map fun m => octets m.1 8 ++ textsB [m.2]).flatten
/-- a value's octets -/
def packV (x : Val) : List UInt8 :=
  if x.kind = 1 then octets 1 1 ++ textsB [x.text]
  else octets x.kind 1 ++ (octets (sizeV x) 2 ++ (pairsB x.pairs ++ (textsB x.texts ++ zsetB x.zset)))
theorem FrT.block {g : Nat} {w w' : World} (h : FrT g w w') {b : Nat} {cs : Array Value} {ty : TypeId} {fr : Nat × Nat} (hb : w.heap[b]? = some (.cells cs ty fr)) (hg : b ≠ g) (ht : ty ≠ 5) : w'.heap[b]? = some (.cells cs ty fr) := by
  rw [h.2 b (Array.getElem?_eq_some_iff.1 hb).1 hg (fun cs' fr' e => by rw [hb] at e; injection e with e; injection e with e1 e2 e3; exact ht e2), hb]
/-- texts just laid stay -/
theorem laid_S {g G : Nat} {w : World} (ss : List ByteArray) (cs : Array Value) (hG : G = w.heap.size) (hg : g < w.heap.size) (n : Nat) (hn : ss.length = n) (hm : n ≤ maxLen) (hcs : cs = (ss.map Value.string).toArray) (hs : ∀ x ∈ ss, x.size ≤ maxLen) :
    ∀ w', FrT g (w.alloc (.cells cs 9)) w' → SliceOf rStr w' (.slice (some ⟨G, 0, none⟩) n n) ss := by
  intro w' hf
  subst hG
  have hb := hf.block (heap_alloc_new w (.cells cs 9)) (by omega) (by decide)
  subst hcs
  refine sliceOf_heap hb ss hn (Nat.le_refl _) hm fun j x hx => ⟨[.string x], rfl, fun i hi => ?_, rfl, hs x (List.mem_of_getElem? hx)⟩
  have hi' : i < 1 := hi
  obtain rfl : i = 0 := by omega
  simp [rStr, hx]
theorem PackSt.later {g : Nat} {w0 w w' : World} {l : List UInt8} {v : Value} (h : PackSt g w0 w l v) (hx : Ext w w') : PackSt g w0 w' l v := by
  obtain ⟨q1, q2, q3⟩ := (show SatS g v w from ⟨h.cell, h.fz, h.lt⟩).ext hx
  exact ⟨q1, q2, h.own.mono rByte_mono hx, h.low, q3, h.ext.then hx⟩
theorem PackSt.alloc {g : Nat} {w0 w : World} {l : List UInt8} {v : Value} (h : PackSt g w0 w l v) (o : Obj) : PackSt g w0 (w.alloc o) l v := by
  obtain ⟨q1, q2, q3⟩ := (show SatS g v w from ⟨h.cell, h.fz, h.lt⟩).ext ((Ext.refl w).alloc o)
  exact ⟨q1, q2, h.own.mono rByte_mono ((Ext.refl w).alloc o), h.low, q3, h.ext.alloc o⟩
set_option maxRecDepth 100000 in
set_option maxHeartbeats 2000000 in
theorem value_str (g : Nat) (l : List UInt8) (v : Value) (s : ByteArray) (p t z : Value) (w0 w : World) (hst : PackSt g w0 w l v) (hs : s.size ≤ 10000) (hl : l.length ≤ 90000000) :
    Calls Try.prog 43 #[.pointer (some ⟨g, 0, none⟩), .agg #[.int .i64 1, .string s, p, t, z]] w fun e w' => (∃ u, e = .returned u) ∧ ∃ v', PackSt g w0 w' (l ++ (octets 1 1 ++ textsB [s])) v' ∧ FrT g w w' := by
  have hgl := hst.lt
  have hst0 : PackSt g w0 (w.alloc (.cells #[.int .i64 1, .string s, p, t, z] 30)) l v := hst.alloc _
  have Hst0 := Lib.hid hst0
  have hnew := Lib.hid (heap_alloc_new w (.cells #[.int .i64 1, .string s, p, t, z] 30))
  clear hst hst0
  have HL : Hid (l.length ≤ 100000000) := Lib.hid (by omega)
  have HS : Hid ((l ++ octets 1 1).length + (textsB [s]).length ≤ 100000000) := Lib.hid (by simp [textsB, octets_length, bsz]; omega)
  have HM : Hid (∀ x ∈ [s], x.size ≤ maxLen) := Lib.hid (fun x hx => by (obtain rfl : x = s := by simpa using hx); unfold maxLen; omega)
  clear hl
  go_enter Try.func43, Try.ntmps43
  go_wp2_with fail
  refine (number_any g l v 1 1 w0 _ Hst0.out ⟨by omega, by omega⟩ (by omega) HL.out).mono ?_
  rintro e w1 ⟨⟨x, rfl⟩, v1, hst1, hfr1⟩
  have hb1 := hfr1.block hnew.out (by omega) (by decide)
  obtain ⟨c0, _⟩ := cells_at (i := 0) (v := .int .i64 1) hb1 rfl
  obtain ⟨c1, _⟩ := cells_at (i := 1) (v := .string s) hb1 rfl
  have hgl1 := hst1.lt
  have Hst1 := Lib.hid (hst1.alloc (.cells #[.string s] 9))
  have Hlaid := Lib.hid (laid_S (g := g) (G := w1.heap.size) (w := w1) [s] #[.string s] rfl hgl1 1 rfl (by decide) rfl HM.out)
  have Hfr1 := Lib.hid hfr1
  clear hb1 hst1 hfr1
  go_wp2_with fail
  refine (text_any g _ v1 _ [s] w0 _ Hst1.out (fun w' hf _ => Hlaid.out w' hf) HS.out (by simp)).mono ?_
  rintro e w2 ⟨⟨y, rfl⟩, v2, hst2, hfr2⟩
  rw [List.append_assoc] at hst2
  have Hst2 := Lib.hid hst2
  clear hst2
  go_wp2_with fail
  refine bodyPost_ret (results_none rfl _ _ _) rfl ?_
  exact ⟨⟨_, rfl⟩, v2, Hst2.out, (((FrT.ext ((Ext.refl w).alloc _)).trans Hfr1.out).trans (FrT.ext ((Ext.refl w1).alloc _))).trans hfr2⟩
set_option maxRecDepth 100000 in
set_option maxHeartbeats 1000000 in
theorem right_str (s : ByteArray) (hs : s.size ≤ 4096) (w : World) :
    Calls Try.prog 31 #[.agg #[.int .i64 1, .string s, .slice none 0 0, .slice none 0 0, .slice none 0 0]] w fun e w' => e = .returned (.bool true) ∧ Ext w w' := by
  have hd : decide ((s.size : Int) ≤ 4096) = true := decide_eq_true (by omega)
  go_enter Try.func31, Try.ntmps31
  go_wp2
  go_ret
  exact ⟨by first | rfl | simp, ((Ext.refl w).alloc _).alloc _⟩
set_option maxRecDepth 100000 in
set_option maxHeartbeats 2000000 in
theorem pack_str (v : Value) (s : ByteArray) (w : World) (hv : SliceOf rVal w v [⟨1, s, [], [], []⟩]) (hcell : ∃ g o cap, v = .slice (some ⟨g, o, none⟩) 1 cap ∧ w.cell? ⟨g, o, none⟩ = some (.int .i64 1) ∧ w.cell? ⟨g, o + 1, none⟩ = some (.string s) ∧ w.cell? ⟨g, o + 2, none⟩ = some (.slice none 0 0) ∧ w.cell? ⟨g, o + 3, none⟩ = some (.slice none 0 0) ∧ w.cell? ⟨g, o + 4, none⟩ = some (.slice none 0 0)) (hs : s.size ≤ 4096) :
    Calls Try.prog 19 #[v] w fun e w' => ∃ v', e = .returned v' ∧ SliceOf rByte w' v' (octets 1 1 ++ textsB [s]) ∧ Ext w w' := by
  obtain ⟨g, o, cap, rfl, c0, c1, c2, c3, c4⟩ := hcell
  go_enter Try.func19, Try.ntmps19
  go_wp2_with fail
  have hst0 : PackSt w.heap.size w (w.alloc (.cells #[.slice none 0 0] 71)) [] (.slice none 0 0) := by
    obtain ⟨q1, q2⟩ := cells_at (i := 0) (v := .slice none 0 0) (heap_alloc_new w (.cells #[.slice none 0 0] 71)) rfl
    exact ⟨q1, q2, Own.nil _ _ _ _, Nat.le_refl _, by simp, (Ext.refl w).alloc _⟩
  have hx0 : Ext w (w.alloc (.cells #[.slice none 0 0] 71)) := (Ext.refl w).alloc _
  have C0 := hx0.cell c0
  have C1 := hx0.cell c1
  have C2 := hx0.cell c2
  have C3 := hx0.cell c3
  have C4 := hx0.cell c4
  have Hst0 := Lib.hid hst0
  clear hst0 hx0 c0 c1 c2 c3 c4 hv
  go_loopw [5, 10] (fun _ i wr => (i = .int .i64 0 ∧ wr = w.alloc (.cells #[.slice none 0 0] 71)) ∨ (i = .int .i64 1 ∧ ∃ v', PackSt w.heap.size w wr (octets 1 1 ++ textsB [s]) v')) (fun _ i _ => 1 - (intOf i).toNat)
  case atStart => exact .inl ⟨rfl, rfl⟩
  case round =>
    rcases hrel with ⟨rfl, rfl⟩ | ⟨rfl, v', hst⟩
    · go_wp2_with fail
      refine (right_str s hs _).mono ?_
      rintro e w1 ⟨rfl, hx1⟩
      have hb1 := hx1.block _ (by simp) |>.trans (heap_alloc_new (w.alloc (.cells #[.slice none 0 0] 71)) (.cells #[.int .i64 1, .string s, .slice none 0 0, .slice none 0 0, .slice none 0 0] 30))
      have eW : (w.alloc (.cells #[.slice none 0 0] 71)).heap.size = w.heap.size + 1 := by simp
      rw [eW] at hb1
      obtain ⟨d0, _⟩ := cells_at (i := 0) (v := .int .i64 1) hb1 rfl
      obtain ⟨d1, _⟩ := cells_at (i := 1) (v := .string s) hb1 rfl
      obtain ⟨d2, _⟩ := cells_at (i := 2) (v := .slice none 0 0) hb1 rfl
      obtain ⟨d3, _⟩ := cells_at (i := 3) (v := .slice none 0 0) hb1 rfl
      obtain ⟨d4, _⟩ := cells_at (i := 4) (v := .slice none 0 0) hb1 rfl
      have Hst1 := Lib.hid (Hst0.out.later (((Ext.refl _).alloc _).then hx1))
      clear hb1 eW C0 C1 C2 C3 C4 hx1
      go_wp2_with fail
      refine (value_str w.heap.size [] _ s _ _ _ w _ Hst1.out (by omega) (by simp)).mono ?_
      rintro e w2 ⟨⟨x, rfl⟩, v2, hst2, _⟩
      rw [List.nil_append] at hst2
      have Hst2 := Lib.hid hst2
      clear hst2 d0 d1 d2 d3 d4
      go_wp2_with fail
      exact ⟨.inr ⟨rfl, v2, Hst2.out⟩, by simp [intOf]⟩
    · have c0 := hst.cell
      have Hst := Lib.hid hst
      clear hst C0 C1 C2 C3 C4
      go_wp2_with fail
      go_ret
      exact ⟨_, rfl, Hst.out.own.slice, Hst.out.ext⟩
end Go.Proofs.Ythclkljdnmokcaa
