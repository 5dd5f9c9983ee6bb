/-
  Lists of texts, of pairs, of members: the reference's comparisons, walked.
-/
import Derived.Test.YthclkljdnmokcaaProg
import Derived.Test.YthclkljdnmokcaaVerRep
import Derived.WalkKit
import Derived.WalkSpells
import Derived.WalkLawsBesides
import Derived.BigQuiet
import Derived.Deep.QuietTactic
import Derived.Lib.Hide
import Derived.Lib.LazyBuf
import Derived.Outline
set_option linter.unusedVariables false
set_option linter.unusedSimpArgs false
namespace Go.Proofs.Ythclkljdnmokcaa
open Go.RowKit Go.Proofs

theorem ltake_succ {α : Type} (l : List α) (k : Nat) (h : k < l.length) : l.take (k + 1) = l.take k ++ [l[k]] := by
  rw [List.take_succ_eq_append_getElem h]
theorem lstr_ext {a b : ByteArray} (h : a.toList = b.toList) : a = b := by
  rw [ByteArray.toList_eq, ByteArray.toList_eq] at h
  cases a with | mk a => cases b with | mk b => congr 1; exact Array.toList_inj.1 h
set_option maxRecDepth 100000 in
set_option maxHeartbeats 400000 in
theorem same_S (v v2 : Value) (l l2 : List ByteArray) (w : World) (hv : SliceOf rStr w v l) (hv2 : SliceOf rStr w v2 l2) :
    Calls Try.prog 45 #[v, v2] w fun e w' => e = .returned (.bool (decide (l = l2))) ∧ Ext w w' := by
  obtain ⟨a, cap, rfl, hle, hm, h0, _⟩ := id hv
  obtain ⟨a2, cap2, rfl, hle2, hm2, h02, _⟩ := id hv2
  unfold maxLen at hm hm2
  by_cases hlen : l.length = l2.length
  · have hne : ((l.length : Int) != (l2.length : Int)) = false := by rw [hlen]; simp
    have Hlen := Lib.hid hlen
    have hlle : l.length ≤ l2.length := by omega
    clear hlen h0 h02
    go_enter Try.func45, Try.ntmps45
    go_wp2_with fail
    go_loopw [5] (fun i wr => ∃ k : Nat, k ≤ l.length ∧ i = .int .i64 k ∧ l.take k = l2.take k ∧ Ext w wr) (fun i _ => l.length - (intOf i).toNat)
    case atStart => exact ⟨0, by omega, rfl, by simp, Ext.refl _⟩
    case round =>
      obtain ⟨k, hk, rfl, heq, hx⟩ := hrel
      have Heq := Lib.hid heq
      clear heq
      by_cases hlt : k < l.length
      · obtain ⟨g, o, u, rfl, hu, hu'⟩ := (hv.mono rStr_mono hx).at1 rfl (List.getElem?_eq_getElem hlt)
        obtain ⟨g2, o2, u2, rfl, hu2, hu2'⟩ := (hv2.mono rStr_mono hx).at1 rfl (List.getElem?_eq_getElem (show k < l2.length by omega))
        have hu'' := hu'.1
        have hu2'' := hu2'.1
        obtain rfl : u = .string l[k] := by simpa using hu''
        obtain rfl : u2 = .string l2[k] := by simpa using hu2''
        clear hu' hu2' hu'' hu2''
        have Hts := Lib.hid (ltake_succ l k hlt)
        have Hts2 := Lib.hid (ltake_succ l2 k (by omega))
        generalize l[k] = b at hu Hts
        generalize l2[k] = b2 at hu2 Hts2
        by_cases hb : b = b2
        · subst hb
          have ht : (b.toList == b.toList) = true := by simp
          go_wp2_with fail
          go_quiet (fail)
          go_wp2
          refine ⟨⟨k + 1, by omega, by go_num, by rw [Hts.out, Hts2.out, Heq.out], hx.drewN _⟩, by simp [intOf]; omega⟩
        · have ht : (b.toList == b2.toList) = false := by rw [beq_eq_false_iff_ne]; exact fun e => hb (lstr_ext e)
          have Hb := Lib.hid hb
          clear hb
          go_wp2_with fail
          go_quiet (fail)
          go_wp2
          go_ret
          refine ⟨?_, hx.drewN _⟩
          have hno : l ≠ l2 := fun e => Hb.out (by
            have h1 := Hts.out
            rw [e, Hts2.out] at h1
            have := List.append_inj_right' h1 rfl
            simpa using this.symm)
          rw [decide_eq_false hno]
          rfl
      · go_wp2_with fail
        go_ret
        refine ⟨?_, hx⟩
        have : l = l2 := by
          have h1 := Heq.out
          have h2 := Hlen.out
          rwa [List.take_of_length_le (by omega), List.take_of_length_le (by omega)] at h1
        rw [decide_eq_true this]
        rfl
  · have hne : ((l.length : Int) != (l2.length : Int)) = true := by
      simp only [bne_iff_ne, ne_eq]; omega
    have Hno := Lib.hid (show l ≠ l2 from fun e => hlen (by rw [e]))
    clear hlen h0 h02
    go_enter Try.func45, Try.ntmps45
    go_wp2_with fail
    go_ret
    exact ⟨by rw [decide_eq_false Hno.out]; rfl, Ext.refl _⟩

set_option maxRecDepth 100000 in
set_option maxHeartbeats 400000 in
theorem same_P (v v2 : Value) (l l2 : List (ByteArray × ByteArray)) (w : World) (hv : SliceOf rPr w v l) (hv2 : SliceOf rPr w v2 l2) :
    Calls Try.prog 44 #[v, v2] w fun e w' => e = .returned (.bool (decide (l = l2))) ∧ Ext w w' := by
  obtain ⟨a, cap, rfl, hle, hm, h0, _⟩ := id hv
  obtain ⟨a2, cap2, rfl, hle2, hm2, h02, _⟩ := id hv2
  unfold maxLen at hm hm2
  by_cases hlen : l.length = l2.length
  · have hne : ((l.length : Int) != (l2.length : Int)) = false := by rw [hlen]; simp
    have Hlen := Lib.hid hlen
    have hlle : l.length ≤ l2.length := by omega
    clear hlen h0 h02
    go_enter Try.func44, Try.ntmps44
    go_wp2_with fail
    go_loopw [5] (fun i wr => ∃ k : Nat, k ≤ l.length ∧ i = .int .i64 k ∧ l.take k = l2.take k ∧ Ext w wr) (fun i _ => l.length - (intOf i).toNat)
    case atStart => exact ⟨0, by omega, rfl, by simp, Ext.refl _⟩
    case round =>
      obtain ⟨k, hk, rfl, heq, hx⟩ := hrel
      have Heq := Lib.hid heq
      clear heq
      by_cases hlt : k < l.length
      · obtain ⟨g, o, rfl, hu, hu', _, _⟩ := (hv.mono rPr_mono hx).atPr (List.getElem?_eq_getElem hlt)
        obtain ⟨g2, o2, rfl, hu2, hu2', _, _⟩ := (hv2.mono rPr_mono hx).atPr (List.getElem?_eq_getElem (show k < l2.length by omega))
        have Hts := Lib.hid (ltake_succ l k hlt)
        have Hts2 := Lib.hid (ltake_succ l2 k (by omega))
        generalize l[k] = b at hu hu' Hts
        generalize l2[k] = b2 at hu2 hu2' Hts2
        obtain ⟨b, c⟩ := b
        obtain ⟨b2, c2⟩ := b2
        simp only at hu hu' hu2 hu2'
        by_cases hb : b = b2 ∧ c = c2
        · obtain ⟨rfl, rfl⟩ := hb
          have ht : (b.toList == b.toList) = true := by simp
          have ht2 : (c.toList == c.toList) = true := by simp
          go_wp2_with fail
          go_quiet (fail)
          go_wp2
          refine ⟨⟨k + 1, by omega, by go_num, by rw [Hts.out, Hts2.out, Heq.out], hx.drewN _⟩, by simp [intOf]; omega⟩
        · have hno : l ≠ l2 := fun e => hb (by
            have h1 := Hts.out
            rw [e, Hts2.out] at h1
            have := List.append_inj_right' h1 rfl
            simp at this
            exact ⟨this.1.symm, this.2.symm⟩)
          have Hno := Lib.hid hno
          clear hno
          by_cases hb1 : b = b2
          · subst hb1
            have ht : (b.toList == b.toList) = true := by simp
            have ht2 : (c.toList == c2.toList) = false := by rw [beq_eq_false_iff_ne]; exact fun e => hb ⟨rfl, lstr_ext e⟩
            clear hb
            go_wp2_with fail
            go_quiet (fail)
            go_wp2
            go_ret
            exact ⟨by rw [decide_eq_false Hno.out]; rfl, hx.drewN _⟩
          · have ht : (b.toList == b2.toList) = false := by rw [beq_eq_false_iff_ne]; exact fun e => hb1 (lstr_ext e)
            clear hb hb1
            go_wp2_with fail
            go_quiet (fail)
            go_wp2
            go_ret
            exact ⟨by rw [decide_eq_false Hno.out]; rfl, hx.drewN _⟩
      · go_wp2_with fail
        go_ret
        refine ⟨?_, hx⟩
        have : l = l2 := by
          have h1 := Heq.out
          have h2 := Hlen.out
          rwa [List.take_of_length_le (by omega), List.take_of_length_le (by omega)] at h1
        rw [decide_eq_true this]
        rfl
  · have hne : ((l.length : Int) != (l2.length : Int)) = true := by
      simp only [bne_iff_ne, ne_eq]; omega
    have Hno := Lib.hid (show l ≠ l2 from fun e => hlen (by rw [e]))
    clear hlen h0 h02
    go_enter Try.func44, Try.ntmps44
    go_wp2_with fail
    go_ret
    exact ⟨by rw [decide_eq_false Hno.out]; rfl, Ext.refl _⟩

set_option maxRecDepth 100000 in
set_option maxHeartbeats 400000 in
theorem same_M (v v2 : Value) (l l2 : List (Int × ByteArray)) (w : World) (hv : SliceOf rMb w v l) (hv2 : SliceOf rMb w v2 l2) :
    Calls Try.prog 46 #[v, v2] w fun e w' => e = .returned (.bool (decide (l = l2))) ∧ Ext w w' := by
  obtain ⟨a, cap, rfl, hle, hm, h0, _⟩ := id hv
  obtain ⟨a2, cap2, rfl, hle2, hm2, h02, _⟩ := id hv2
  unfold maxLen at hm hm2
  by_cases hlen : l.length = l2.length
  · have hne : ((l.length : Int) != (l2.length : Int)) = false := by rw [hlen]; simp
    have Hlen := Lib.hid hlen
    have hlle : l.length ≤ l2.length := by omega
    clear hlen h0 h02
    go_enter Try.func46, Try.ntmps46
    go_wp2_with fail
    go_loopw [5] (fun i wr => ∃ k : Nat, k ≤ l.length ∧ i = .int .i64 k ∧ l.take k = l2.take k ∧ Ext w wr) (fun i _ => l.length - (intOf i).toNat)
    case atStart => exact ⟨0, by omega, rfl, by simp, Ext.refl _⟩
    case round =>
      obtain ⟨k, hk, rfl, heq, hx⟩ := hrel
      have Heq := Lib.hid heq
      clear heq
      by_cases hlt : k < l.length
      · obtain ⟨g, o, rfl, hu, hu', _, _⟩ := (hv.mono rMb_mono hx).atMb (List.getElem?_eq_getElem hlt)
        obtain ⟨g2, o2, rfl, hu2, hu2', _, _⟩ := (hv2.mono rMb_mono hx).atMb (List.getElem?_eq_getElem (show k < l2.length by omega))
        have Hts := Lib.hid (ltake_succ l k hlt)
        have Hts2 := Lib.hid (ltake_succ l2 k (by omega))
        generalize l[k] = b at hu hu' Hts
        generalize l2[k] = b2 at hu2 hu2' Hts2
        obtain ⟨b, c⟩ := b
        obtain ⟨b2, c2⟩ := b2
        simp only at hu hu' hu2 hu2'
        by_cases hb : b = b2 ∧ c = c2
        · obtain ⟨rfl, rfl⟩ := hb
          have ht : (b == b) = true := by simp
          have ht2 : (c.toList == c.toList) = true := by simp
          go_wp2_with fail
          go_quiet (fail)
          go_wp2
          refine ⟨⟨k + 1, by omega, by go_num, by rw [Hts.out, Hts2.out, Heq.out], hx.drewN _⟩, by simp [intOf]; omega⟩
        · have hno : l ≠ l2 := fun e => hb (by
            have h1 := Hts.out
            rw [e, Hts2.out] at h1
            have := List.append_inj_right' h1 rfl
            simp at this
            exact ⟨this.1.symm, this.2.symm⟩)
          have Hno := Lib.hid hno
          clear hno
          by_cases hb1 : b = b2
          · subst hb1
            have ht : (b == b) = true := by simp
            have ht2 : (c.toList == c2.toList) = false := by rw [beq_eq_false_iff_ne]; exact fun e => hb ⟨rfl, lstr_ext e⟩
            clear hb
            go_wp2_with fail
            go_quiet (fail)
            go_wp2
            go_ret
            exact ⟨by rw [decide_eq_false Hno.out]; rfl, hx.drewN _⟩
          · have ht : (b == b2) = false := by rw [beq_eq_false_iff_ne]; exact fun e => hb1 e
            clear hb hb1
            go_wp2_with fail
            go_quiet (fail)
            go_wp2
            go_ret
            exact ⟨by rw [decide_eq_false Hno.out]; rfl, hx.drewN _⟩
      · go_wp2_with fail
        go_ret
        refine ⟨?_, hx⟩
        have : l = l2 := by
          have h1 := Heq.out
          have h2 := Hlen.out
          rwa [List.take_of_length_le (by omega), List.take_of_length_le (by omega)] at h1
        rw [decide_eq_true this]
        rfl
  · have hne : ((l.length : Int) != (l2.length : Int)) = true := by
      simp only [bne_iff_ne, ne_eq]; omega
    have Hno := Lib.hid (show l ≠ l2 from fun e => hlen (by rw [e]))
    clear hlen h0 h02
    go_enter Try.func46, Try.ntmps46
    go_wp2_with fail
    go_ret
    exact ⟨by rw [decide_eq_false Hno.out]; rfl, Ext.refl _⟩

end Go.Proofs.Ythclkljdnmokcaa
