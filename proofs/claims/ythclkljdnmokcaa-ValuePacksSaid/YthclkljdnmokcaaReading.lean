/-
  value.reading: octets taken off; walked.
-/
import Derived.Test.YthclkljdnmokcaaReadMath
import Derived.Test.YthclkljdnmokcaaVOwn
import Derived.Test.YthclkljdnmokcaaAwake14
import Derived.BigQuiet
set_option linter.unusedVariables false
set_option linter.unusedSimpArgs false
namespace Go.Proofs.Ythclkljdnmokcaa
open Go.RowKit Go.Proofs

/-- only one of the blocks is changed -/
abbrev FrG (g : Nat) (w w' : World) : Prop := w.grownBy w' (some g)
theorem FrG.refl (g : Nat) (w : World) : FrG g w w := ⟨rfl, rfl, rfl, Nat.le_refl _, fun _ _ _ => rfl⟩
theorem FrG.trans {g : Nat} {w w2 w3 : World} (h : FrG g w w2) (k : FrG g w2 w3) : FrG g w w3 :=
  ⟨k.os.trans h.os, k.tape.trans h.tape, k.output.trans h.output, Nat.le_trans h.size k.size, fun b hb hg => (k.block b (Nat.lt_of_lt_of_le hb h.size) hg).trans (h.block b hb hg)⟩
theorem FrG.ext {g : Nat} {w w' : World} (hx : Ext w w') : FrG g w w' := grown_ext hx
/-- reading: the octets, the place (none: there weren't so many) -/
structure RdSt (g : Nat) (w0 w : World) (bv : Value) (l : List UInt8) (p : Nat) (bad : Bool) : Prop where
  c0 : w.cell? ⟨g, 0, none⟩ = some bv
  c1 : w.cell? ⟨g, 1, none⟩ = some (.int .i64 (p : Int))
  c2 : w.cell? ⟨g, 2, none⟩ = some (.bool bad)
  f0 : w.frozen? ⟨g, 0, none⟩ = false
  f1 : w.frozen? ⟨g, 1, none⟩ = false
  f2 : w.frozen? ⟨g, 2, none⟩ = false
  sl : SliceOf rByte w0 bv l
  le : p ≤ l.length
  low : w0.heap.size ≤ g
  lt : g < w.heap.size
  ext : Ext w0 w
theorem RdSt.later {g : Nat} {w0 w w' : World} {bv : Value} {l : List UInt8} {p : Nat} {bad : Bool} (h : RdSt g w0 w bv l p bad) (hx : Ext w w') : RdSt g w0 w' bv l p bad :=
  ⟨hx.cell h.c0, hx.cell h.c1, hx.cell h.c2, by rw [← h.f0]; exact World.frozen?_of_block (hx.block g h.lt), by rw [← h.f1]; exact World.frozen?_of_block (hx.block g h.lt), by rw [← h.f2]; exact World.frozen?_of_block (hx.block g h.lt), h.sl, h.le, h.low, Nat.lt_of_lt_of_le h.lt hx.size, h.ext.then hx⟩
theorem RdSt.setBad {g : Nat} {w0 w : World} {bv : Value} {l : List UInt8} {p : Nat} {bad : Bool} (h : RdSt g w0 w bv l p bad) (b : Bool) : RdSt g w0 (w.setCell ⟨g, 2, none⟩ (.bool b)) bv l p b :=
  ⟨cell_set_other h.c0 (by decide), cell_set_other h.c1 (by decide), World.cell?_setCell_same' _ _ _ (by rw [h.c2]; rfl), by rw [← h.f0]; exact World.frozen?_setCell .., by rw [← h.f1]; exact World.frozen?_setCell .., by rw [← h.f2]; exact World.frozen?_setCell .., h.sl, h.le, h.low, by have := h.lt; simpa using this, Below.setCell h.ext (p := ⟨g, 2, none⟩) h.low _⟩
theorem RdSt.setAt {g : Nat} {w0 w : World} {bv : Value} {l : List UInt8} {p : Nat} {bad : Bool} (h : RdSt g w0 w bv l p bad) (q : Nat) (hq : q ≤ l.length) : RdSt g w0 (w.setCell ⟨g, 1, none⟩ (.int .i64 (q : Int))) bv l q bad :=
  ⟨cell_set_other h.c0 (by decide), World.cell?_setCell_same' _ _ _ (by rw [h.c1]; rfl), cell_set_other h.c2 (by decide), by rw [← h.f0]; exact World.frozen?_setCell .., by rw [← h.f1]; exact World.frozen?_setCell .., by rw [← h.f2]; exact World.frozen?_setCell .., h.sl, hq, h.low, by have := h.lt; simpa using this, Below.setCell h.ext (p := ⟨g, 1, none⟩) h.low _⟩
theorem RdSt.setAdd {g : Nat} {w0 w : World} {bv : Value} {l : List UInt8} {p : Nat} {bad : Bool} (h : RdSt g w0 w bv l p bad) (n : Nat) (hq : p + n ≤ l.length) : RdSt g w0 (w.setCell ⟨g, 1, none⟩ (.int .i64 ((p : Int) + (n : Int)))) bv l (p + n) bad := by
  have h1 := h.setAt (p + n) hq
  rw [Int.natCast_add] at h1
  exact h1
/-- .. where the place is none when there weren't so many -/
def RdO (g : Nat) (w0 w : World) (bv : Value) (l : List UInt8) (s : Option Nat) : Prop :=
  match s with
  | some p => RdSt g w0 w bv l p false
  | none => ∃ p, RdSt g w0 w bv l p true
theorem RdO.of {g : Nat} {w0 w : World} {bv : Value} {l : List UInt8} {p q : Nat} (h : RdSt g w0 w bv l p false) (e : p = q) : RdO g w0 w bv l (some q) := by rw [← e]; exact h
theorem RdO.st {g : Nat} {w0 w : World} {bv : Value} {l : List UInt8} {s : Option Nat} (h : RdO g w0 w bv l s) : ∃ p, RdSt g w0 w bv l p s.isNone := by
  cases s with
  | some p => exact ⟨p, h⟩
  | none => exact h
theorem RdO.later {g : Nat} {w0 w w' : World} {bv : Value} {l : List UInt8} {s : Option Nat} (h : RdO g w0 w bv l s) (hx : Ext w w') : RdO g w0 w' bv l s := by
  cases s with
  | some p => exact RdSt.later h hx
  | none => obtain ⟨p, h⟩ := h; exact ⟨p, h.later hx⟩
def takeB (l : List UInt8) (s : Option Nat) (n : Nat) : List UInt8 × Option Nat :=
  match s with
  | none => ([], none)
  | some p => if p + n ≤ l.length then ((l.drop p).take n, some (p + n)) else ([], none)
theorem slice_sub {w : World} {a : Option Addr} {N cap : Nat} {l : List UInt8} (h : SliceOf rByte w (.slice a N cap) l) {p n : Nat} (hp : p + n ≤ l.length) :
    SliceOf rByte w (.slice (if p + n = p then a else a.map (·.add (p * 1))) n n) ((l.drop p).take n) := by
  have hlen : ((l.drop p).take n).length = n := by simp; omega
  obtain ⟨a', c', e, h1, h2, h3, h4⟩ := h
  injection e with e1 e2 e3
  subst e1; subst e3
  by_cases hn : n = 0
  · subst hn
    refine ⟨a, 0, by simp, by simp, by simp [maxLen], fun _ => rfl, fun h => absurd (by simp) h⟩
  · rw [if_neg (by omega)]
    have hl : l ≠ [] := by rintro rfl; simp at hp; omega
    obtain ⟨g, o, rfl, hg, hc⟩ := h4 hl
    rw [show (some (⟨g, o, none⟩ : Addr)).map (·.add (p * 1)) = some ⟨g, o + p * 1, none⟩ by simp [Addr.add_lit]]
    refine ⟨some ⟨g, o + p * 1, none⟩, n, by rw [hlen], by omega, by unfold maxLen at h2 ⊢; omega, (fun h => by cases h), fun _ => ⟨g, o + p * 1, rfl, hg, fun j x hj => ?_⟩⟩
    have hjn : j < n := by have := (List.getElem?_eq_some_iff.1 hj).1; omega
    rw [List.getElem?_take_of_lt hjn, List.getElem?_drop] at hj
    obtain ⟨ecs, el, hcs, hre⟩ := hc (p + j) x hj
    refine ⟨ecs, el, fun i hi => ?_, hre⟩
    rw [← hcs i hi]
    congr 2
    show o + p * 1 + j * 1 + i = o + (p + j) * 1 + i
    omega
set_option maxRecDepth 100000 in
set_option maxHeartbeats 4000000 in
theorem take_any (g : Nat) (bv : Value) (l : List UInt8) (s : Option Nat) (n : Nat) (w0 w : World) (hst : RdO g w0 w bv l s) (hn : n ≤ 100000) :
    Calls Try.prog 76 #[.pointer (some ⟨g, 0, none⟩), .int .i64 (n : Int)] w fun e w' => (∃ v', e = .returned v' ∧ SliceOf rByte w' v' (takeB l s n).1) ∧ RdO g w0 w' bv l (takeB l s n).2 ∧ FrG g w w' := by
  cases s with
  | none =>
    obtain ⟨p, hst⟩ := hst
    obtain ⟨a, cap, rfl, hle, hm⟩ := len_of' hst.sl
    obtain ⟨c0, c1, c2, f0, f1, f2, _, _, _, _, _⟩ := id hst
    have Hst := Lib.hid hst
    clear hst
    go_enter Try.func76, Try.ntmps76
    go_wp2_with fail
    go_quiet (fail)
    go_wp2_with fail
    go_ret
    exact ⟨⟨_, rfl, sliceOf_nil _ _⟩, ⟨p, (Hst.out.later ((Ext.refl w).drewN _)).setBad true⟩, (FrG.ext ((Ext.refl w).drewN _)).trans (grown_set _ _ _ _)⟩
  | some p =>
    have hst : RdSt g w0 w bv l p false := hst
    obtain ⟨a, cap, rfl, hle, hm⟩ := len_of' hst.sl
    obtain ⟨c0, c1, c2, f0, f1, f2, _, hpl, _, _, _⟩ := id hst
    have Hst := Lib.hid hst
    clear hst
    have hw1 : IntKind.i64.wrap ((l.length : Int) - (p : Int)) = ((l.length - p : Nat) : Int) := by rw [IntWalk.i64_in _ (by omega)]; omega
    by_cases hb : p + n ≤ l.length
    · have Ht : Hid (takeB l (some p) n = ((l.drop p).take n, some (p + n))) := Lib.hid (if_pos hb)
      rw [Ht.out]
      have hd : decide (((l.length - p : Nat) : Int) < (n : Int)) = false := decide_eq_false (by omega)
      have hd2 : decide (l.length - p < n) = false := decide_eq_false (by omega)
      have hd3 : decide ((l.length : Int) - (p : Int) < (n : Int)) = false := decide_eq_false (by omega)
      go_enter Try.func76, Try.ntmps76
      go_wp2_with fail
      go_quiet (fail)
      go_wp2_with fail
      go_quiet (fail)
      go_wp2_with fail
      all_goals
        go_ret
        refine ⟨⟨_, rfl, ?_⟩, RdO.of (((Hst.out.later ((Ext.refl w).drewN _)).setAdd n hb).later ((Ext.refl _).drewN _)) (by omega), ((FrG.ext ((Ext.refl w).drewN _)).trans (grown_set _ _ _ _)).trans (FrG.ext ((Ext.refl _).drewN _))⟩
        refine SliceOf.mono rByte_mono (((Hst.out.later ((Ext.refl w).drewN _)).setAdd n hb).later ((Ext.refl _).drewN _)).ext ?_
        have hsl := slice_sub Hst.out.sl hb
        first
          | (rw [if_neg (by omega), Nat.mul_one] at hsl; exact hsl)
          | (obtain rfl : n = 0 := (by omega); rw [if_pos (by omega)] at hsl; exact hsl)
    · have Ht : Hid (takeB l (some p) n = ([], none)) := Lib.hid (if_neg hb)
      rw [Ht.out]
      have hd : decide (((l.length - p : Nat) : Int) < (n : Int)) = true := decide_eq_true (by omega)
      have hd2 : decide (l.length - p < n) = true := decide_eq_true (by omega)
      have hd3 : decide ((l.length : Int) - (p : Int) < (n : Int)) = true := decide_eq_true (by omega)
      go_enter Try.func76, Try.ntmps76
      go_wp2_with fail
      go_quiet (fail)
      go_wp2_with fail
      go_ret
      exact ⟨⟨_, rfl, sliceOf_nil _ _⟩, ⟨p, (Hst.out.later ((Ext.refl w).drewN _)).setBad true⟩, (FrG.ext ((Ext.refl w).drewN _)).trans (grown_set _ _ _ _)⟩
def numB (l : List UInt8) (s : Option Nat) (n : Nat) : Int × Option Nat := (i64Of (bNum (takeB l s n).1), (takeB l s n).2)
theorem takeB_len (l : List UInt8) (s : Option Nat) (n : Nat) : (takeB l s n).1.length ≤ n := by
  unfold takeB
  split
  · simp
  · split
    · simp; omega
    · simp
set_option maxRecDepth 100000 in
set_option maxHeartbeats 4000000 in
theorem num_any (g : Nat) (bv : Value) (l : List UInt8) (s : Option Nat) (n : Nat) (w0 w : World) (hst : RdO g w0 w bv l s) (hn : n ≤ 8) :
    Calls Try.prog 53 #[.pointer (some ⟨g, 0, none⟩), .int .i64 (n : Int)] w fun e w' => e = .returned (.int .i64 (numB l s n).1) ∧ RdO g w0 w' bv l (numB l s n).2 ∧ FrG g w w' := by
  have hlen := takeB_len l s n
  have Hst := Lib.hid hst
  clear hst
  unfold numB
  simp only
  obtain ⟨bs, hbs⟩ : ∃ bs, (takeB l s n).1 = bs := ⟨_, rfl⟩
  obtain ⟨s2, hs2⟩ : ∃ s2, (takeB l s n).2 = s2 := ⟨_, rfl⟩
  rw [hbs] at hlen
  rw [hbs, hs2]
  have Hbs := Lib.hid hbs
  have Hs2 := Lib.hid hs2
  clear hbs hs2
  go_enter Try.func53, Try.ntmps53
  go_wp2_with fail
  refine (take_any g bv l s n w0 _ Hst.out (by omega)).mono ?_
  rintro e w1 ⟨⟨v', rfl, hsl⟩, hr1, hf1⟩
  rw [Hbs.out] at hsl
  rw [Hs2.out] at hr1
  obtain ⟨a, cap, rfl, hle, hm⟩ := len_of' hsl
  have Hr1 := Lib.hid hr1
  have Hf1 := Lib.hid hf1
  clear hr1 hf1
  go_wp2_with fail
  go_loopw [5, 7, 12] (fun acc _ i wr => ∃ k : Nat, i = .int .i64 (k : Int) ∧ k ≤ bs.length ∧ acc = .int .i64 (i64Of (bNum (bs.take k))) ∧ Ext w1 wr) (fun _ _ i _ => bs.length - (intOf i).toNat)
  case atStart => exact ⟨0, rfl, by omega, rfl, Ext.refl _⟩
  case round =>
    obtain ⟨k, rfl, hk, rfl, hx⟩ := hrel
    by_cases hlt : k < bs.length
    · obtain ⟨c, hc⟩ : ∃ c, bs[k]? = some c := ⟨_, List.getElem?_eq_getElem hlt⟩
      obtain ⟨gg, o, u, rfl, hu, hcu⟩ := (hsl.mono rByte_mono hx).at1 rfl hc
      cases hcu
      have hcl := c.toNat_lt
      have Hc := Lib.hid hc
      have Hx := Lib.hid hx
      have Hstep := Lib.hid (or_step (bNum (bs.take k)) c)
      clear hc hx
      go_wp2
      exact ⟨⟨k + 1, by go_num, by omega, by rw [bNum_take_step Hc.out, ← Hstep.out, IntWalk.i64_left], Hx.out⟩, by simp [intOf]; omega⟩
    · obtain rfl : k = bs.length := by omega
      have HT := Lib.hid (List.take_length (l := bs))
      have Hx := Lib.hid hx
      clear hx
      go_wp2_with fail
      go_ret
      exact ⟨by rw [HT.out]; rfl, RdO.later Hr1.out Hx.out, Hf1.out.trans (FrG.ext Hx.out)⟩
/-- the text that is read, and the place behind it -/
def wordO (l : List UInt8) (s : Option Nat) : ByteArray × Option Nat :=
  (bstr (takeB l (takeB l s 2).2 (bNum (takeB l s 2).1)).1, (takeB l (takeB l s 2).2 (bNum (takeB l s 2).1)).2)
theorem wordO_none (l : List UInt8) : wordO l none = (bstr [], none) := rfl
theorem wordO_some (l : List UInt8) (p : Nat) : wordO l (some p) = match wordAt l p with | some (s, q) => (s, some q) | none => (bstr [], none) := by
  unfold wordO wordAt
  by_cases h : p + 2 ≤ l.length
  · have e : takeB l (some p) 2 = ((l.drop p).take 2, some (p + 2)) := if_pos h
    rw [e, if_pos h]
    simp only
    by_cases h2 : p + 2 + bNum ((l.drop p).take 2) ≤ l.length
    · have e2 : takeB l (some (p + 2)) (bNum ((l.drop p).take 2)) = ((l.drop (p + 2)).take (bNum ((l.drop p).take 2)), some (p + 2 + bNum ((l.drop p).take 2))) := if_pos h2
      rw [e2, if_pos h2]
      rfl
    · have e2 : takeB l (some (p + 2)) (bNum ((l.drop p).take 2)) = ([], none) := if_neg h2
      rw [e2, if_neg h2]
  · have e : takeB l (some p) 2 = ([], none) := if_neg h
    rw [e, if_neg h]
    rfl
set_option maxRecDepth 100000 in
set_option maxHeartbeats 1000000 in
theorem word_any (g : Nat) (bv : Value) (l : List UInt8) (s : Option Nat) (w0 w : World) (hst : RdO g w0 w bv l s) :
    Calls Try.prog 54 #[.pointer (some ⟨g, 0, none⟩)] w fun e w' => e = .returned (.string (wordO l s).1) ∧ RdO g w0 w' bv l (wordO l s).2 ∧ FrG g w w' := by
  have hlen := takeB_len l s 2
  have hlt : bNum (takeB l s 2).1 < 65536 := by
    have h := bNum_lt (takeB l s 2).1
    have h3 : 256 ^ (takeB l s 2).1.length ≤ 256 ^ 2 := Nat.pow_le_pow_right (by decide) hlen
    omega
  unfold wordO
  simp only
  obtain ⟨n, hn⟩ : ∃ n, bNum (takeB l s 2).1 = n := ⟨_, rfl⟩
  obtain ⟨s2, hs2⟩ : ∃ s2, (takeB l s 2).2 = s2 := ⟨_, rfl⟩
  have hnum : numB l s 2 = ((n : Int), s2) := by
    unfold numB
    rw [hn, hs2, i64Of_small (by omega)]
  rw [hn] at hlt ⊢
  rw [hs2]
  have Hst := Lib.hid hst
  have Hnum := Lib.hid hnum
  clear hst hnum hn hs2 hlen
  go_enter Try.func54, Try.ntmps54
  go_wp2_with fail
  refine (num_any g bv l s 2 w0 _ Hst.out (by omega)).mono ?_
  rintro e w1 ⟨rfl, hr1, hf1⟩
  rw [Hnum.out] at hr1 ⊢
  have Hr1 := Lib.hid hr1
  have Hf1 := Lib.hid hf1
  clear hr1 hf1
  go_wp2_with fail
  refine (take_any g bv l s2 n w0 _ Hr1.out (by omega)).mono ?_
  rintro e w2 ⟨⟨v', rfl, hsl⟩, hr2, hf2⟩
  have hc := conv_bytes hsl
  have Hr2 := Lib.hid hr2
  have Hf2 := Lib.hid hf2
  clear hr2 hf2 hsl
  go_wp2
  go_ret
  exact ⟨rfl, Hr2.out, Hf1.out.trans Hf2.out⟩
end Go.Proofs.Ythclkljdnmokcaa
