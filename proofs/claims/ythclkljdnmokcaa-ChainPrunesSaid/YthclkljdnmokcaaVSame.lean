/-
  slices.Equal of texts, pairs, members; value.Same: walked.
-/
import Derived.Test.YthclkljdnmokcaaSame14
set_option linter.unusedVariables false
set_option linter.unusedSimpArgs false
namespace Go.Proofs.Ythclkljdnmokcaa
open Go.RowKit Go.Proofs

set_option maxRecDepth 100000 in
set_option maxHeartbeats 400000 in
theorem equal_S (v v2 : Value) (l l2 : List ByteArray) (w : World) (hv : SliceOf rStr w v l) (hv2 : SliceOf rStr w v2 l2) :
    Calls Try.prog 51 #[v, v2] w fun e w' => e = .returned (.bool (decide (l = l2))) ∧ Ext w w' := by
  obtain ⟨a, cap, rfl, hle, hm, h0, _⟩ := id hv
  obtain ⟨a2, cap2, rfl, hle2, hm2, h02, _⟩ := id hv2
  unfold maxLen at hm hm2
  by_cases hlen : l.length = l2.length
  · have hne : ((l.length : Int) != (l2.length : Int)) = false := by rw [hlen]; simp
    have Hlen := Lib.hid hlen
    have hlle : l.length ≤ l2.length := by omega
    clear hlen h0 h02
    go_enter Try.func51, Try.ntmps51
    go_wp2_with fail
    go_loopw [5, 13] (fun _ i wr => ∃ k : Nat, k ≤ l.length ∧ i = .int .i64 k ∧ l.take k = l2.take k ∧ Ext w wr) (fun _ i _ => l.length - (intOf i).toNat)
    case atStart => exact ⟨0, by omega, rfl, by simp, Ext.refl _⟩
    case round =>
      obtain ⟨k, hk, rfl, heq, hx⟩ := hrel
      have Heq := Lib.hid heq
      clear heq
      by_cases hlt : k < l.length
      · obtain ⟨g, o, u, rfl, hu, hu'⟩ := (hv.mono rStr_mono hx).at1 rfl (List.getElem?_eq_getElem hlt)
        obtain ⟨g2, o2, u2, rfl, hu2, hu2'⟩ := (hv2.mono rStr_mono hx).at1 rfl (List.getElem?_eq_getElem (show k < l2.length by omega))
        have hu'' := hu'.1
        have hu2'' := hu2'.1
        obtain rfl : u = .string l[k] := by simpa using hu''
        obtain rfl : u2 = .string l2[k] := by simpa using hu2''
        clear hu' hu2' hu'' hu2''
        have Hts := Lib.hid (ltake_succ l k hlt)
        have Hts2 := Lib.hid (ltake_succ l2 k (by omega))
        generalize l[k] = b at hu Hts
        generalize l2[k] = b2 at hu2 Hts2
        by_cases hb : b = b2
        · subst hb
          have ht : (b.toList == b.toList) = true := by simp
          go_wp2_with fail
          go_quiet (fail)
          go_wp2
          refine ⟨⟨k + 1, by omega, by go_num, by rw [Hts.out, Hts2.out, Heq.out], hx.drewN _⟩, by simp [intOf]; omega⟩
        · have ht : (b.toList == b2.toList) = false := by rw [beq_eq_false_iff_ne]; exact fun e => hb (lstr_ext e)
          have Hb := Lib.hid hb
          clear hb
          go_wp2_with fail
          go_quiet (fail)
          go_wp2
          go_ret
          refine ⟨?_, hx.drewN _⟩
          have hno : l ≠ l2 := fun e => Hb.out (by
            have h1 := Hts.out
            rw [e, Hts2.out] at h1
            have := List.append_inj_right' h1 rfl
            simpa using this.symm)
          rw [decide_eq_false hno]
          rfl
      · go_wp2_with fail
        go_ret
        refine ⟨?_, hx⟩
        have : l = l2 := by
          have h1 := Heq.out
          have h2 := Hlen.out
          rwa [List.take_of_length_le (by omega), List.take_of_length_le (by omega)] at h1
        rw [decide_eq_true this]
        rfl
  · have hne : ((l.length : Int) != (l2.length : Int)) = true := by
      simp only [bne_iff_ne, ne_eq]; omega
    have Hno := Lib.hid (show l ≠ l2 from fun e => hlen (by rw [e]))
    clear hlen h0 h02
    go_enter Try.func51, Try.ntmps51
    go_wp2_with fail
    go_ret
    exact ⟨by rw [decide_eq_false Hno.out]; rfl, Ext.refl _⟩

set_option maxRecDepth 100000 in
set_option maxHeartbeats 400000 in
theorem equal_P (v v2 : Value) (l l2 : List (ByteArray × ByteArray)) (w : World) (hv : SliceOf rPr w v l) (hv2 : SliceOf rPr w v2 l2) :
    Calls Try.prog 50 #[v, v2] w fun e w' => e = .returned (.bool (decide (l = l2))) ∧ Ext w w' := by
  obtain ⟨a, cap, rfl, hle, hm, h0, _⟩ := id hv
  obtain ⟨a2, cap2, rfl, hle2, hm2, h02, _⟩ := id hv2
  unfold maxLen at hm hm2
  by_cases hlen : l.length = l2.length
  · have hne : ((l.length : Int) != (l2.length : Int)) = false := by rw [hlen]; simp
    have Hlen := Lib.hid hlen
    have hlle : l.length ≤ l2.length := by omega
    clear hlen h0 h02
    go_enter Try.func50, Try.ntmps50
    go_wp2_with fail
    go_loopw [5, 13] (fun _ i wr => ∃ k : Nat, k ≤ l.length ∧ i = .int .i64 k ∧ l.take k = l2.take k ∧ Ext w wr) (fun _ i _ => l.length - (intOf i).toNat)
    case atStart => exact ⟨0, by omega, rfl, by simp, Ext.refl _⟩
    case round =>
      obtain ⟨k, hk, rfl, heq, hx⟩ := hrel
      have Heq := Lib.hid heq
      clear heq
      by_cases hlt : k < l.length
      · obtain ⟨g, o, rfl, hu, hu', _, _⟩ := (hv.mono rPr_mono hx).atPr (List.getElem?_eq_getElem hlt)
        obtain ⟨g2, o2, rfl, hu2, hu2', _, _⟩ := (hv2.mono rPr_mono hx).atPr (List.getElem?_eq_getElem (show k < l2.length by omega))
        have Hts := Lib.hid (ltake_succ l k hlt)
        have Hts2 := Lib.hid (ltake_succ l2 k (by omega))
        generalize l[k] = b at hu hu' Hts
        generalize l2[k] = b2 at hu2 hu2' Hts2
        obtain ⟨b, c⟩ := b
        obtain ⟨b2, c2⟩ := b2
        simp only at hu hu' hu2 hu2'
        by_cases hb : b = b2 ∧ c = c2
        · obtain ⟨rfl, rfl⟩ := hb
          have ht : (b.toList == b.toList) = true := by simp
          have ht2 : (c.toList == c.toList) = true := by simp
          go_wp2_with fail
          go_quiet (fail)
          go_wp2
          refine ⟨⟨k + 1, by omega, by go_num, by rw [Hts.out, Hts2.out, Heq.out], hx.drewN _⟩, by simp [intOf]; omega⟩
        · have hno : l ≠ l2 := fun e => hb (by
            have h1 := Hts.out
            rw [e, Hts2.out] at h1
            have := List.append_inj_right' h1 rfl
            simp at this
            exact ⟨this.1.symm, this.2.symm⟩)
          have Hno := Lib.hid hno
          clear hno
          by_cases hb1 : b = b2
          · subst hb1
            have ht : (b.toList == b.toList) = true := by simp
            have ht2 : (c.toList == c2.toList) = false := by rw [beq_eq_false_iff_ne]; exact fun e => hb ⟨rfl, lstr_ext e⟩
            clear hb
            go_wp2_with fail
            go_quiet (fail)
            go_wp2
            go_ret
            exact ⟨by rw [decide_eq_false Hno.out]; rfl, hx.drewN _⟩
          · have ht : (b.toList == b2.toList) = false := by rw [beq_eq_false_iff_ne]; exact fun e => hb1 (lstr_ext e)
            clear hb hb1
            go_wp2_with fail
            go_quiet (fail)
            go_wp2
            go_ret
            exact ⟨by rw [decide_eq_false Hno.out]; rfl, hx.drewN _⟩
      · go_wp2_with fail
        go_ret
        refine ⟨?_, hx⟩
        have : l = l2 := by
          have h1 := Heq.out
          have h2 := Hlen.out
          rwa [List.take_of_length_le (by omega), List.take_of_length_le (by omega)] at h1
        rw [decide_eq_true this]
        rfl
  · have hne : ((l.length : Int) != (l2.length : Int)) = true := by
      simp only [bne_iff_ne, ne_eq]; omega
    have Hno := Lib.hid (show l ≠ l2 from fun e => hlen (by rw [e]))
    clear hlen h0 h02
    go_enter Try.func50, Try.ntmps50
    go_wp2_with fail
    go_ret
    exact ⟨by rw [decide_eq_false Hno.out]; rfl, Ext.refl _⟩

set_option maxRecDepth 100000 in
set_option maxHeartbeats 400000 in
theorem equal_M (v v2 : Value) (l l2 : List (Int × ByteArray)) (w : World) (hv : SliceOf rMb w v l) (hv2 : SliceOf rMb w v2 l2) :
    Calls Try.prog 52 #[v, v2] w fun e w' => e = .returned (.bool (decide (l = l2))) ∧ Ext w w' := by
  obtain ⟨a, cap, rfl, hle, hm, h0, _⟩ := id hv
  obtain ⟨a2, cap2, rfl, hle2, hm2, h02, _⟩ := id hv2
  unfold maxLen at hm hm2
  by_cases hlen : l.length = l2.length
  · have hne : ((l.length : Int) != (l2.length : Int)) = false := by rw [hlen]; simp
    have Hlen := Lib.hid hlen
    have hlle : l.length ≤ l2.length := by omega
    clear hlen h0 h02
    go_enter Try.func52, Try.ntmps52
    go_wp2_with fail
    go_loopw [5, 13] (fun _ i wr => ∃ k : Nat, k ≤ l.length ∧ i = .int .i64 k ∧ l.take k = l2.take k ∧ Ext w wr) (fun _ i _ => l.length - (intOf i).toNat)
    case atStart => exact ⟨0, by omega, rfl, by simp, Ext.refl _⟩
    case round =>
      obtain ⟨k, hk, rfl, heq, hx⟩ := hrel
      have Heq := Lib.hid heq
      clear heq
      by_cases hlt : k < l.length
      · obtain ⟨g, o, rfl, hu, hu', _, _⟩ := (hv.mono rMb_mono hx).atMb (List.getElem?_eq_getElem hlt)
        obtain ⟨g2, o2, rfl, hu2, hu2', _, _⟩ := (hv2.mono rMb_mono hx).atMb (List.getElem?_eq_getElem (show k < l2.length by omega))
        have Hts := Lib.hid (ltake_succ l k hlt)
        have Hts2 := Lib.hid (ltake_succ l2 k (by omega))
        generalize l[k] = b at hu hu' Hts
        generalize l2[k] = b2 at hu2 hu2' Hts2
        obtain ⟨b, c⟩ := b
        obtain ⟨b2, c2⟩ := b2
        simp only at hu hu' hu2 hu2'
        by_cases hb : b = b2 ∧ c = c2
        · obtain ⟨rfl, rfl⟩ := hb
          have ht : (b == b) = true := by simp
          have ht2 : (c.toList == c.toList) = true := by simp
          go_wp2_with fail
          go_quiet (fail)
          go_wp2
          refine ⟨⟨k + 1, by omega, by go_num, by rw [Hts.out, Hts2.out, Heq.out], hx.drewN _⟩, by simp [intOf]; omega⟩
        · have hno : l ≠ l2 := fun e => hb (by
            have h1 := Hts.out
            rw [e, Hts2.out] at h1
            have := List.append_inj_right' h1 rfl
            simp at this
            exact ⟨this.1.symm, this.2.symm⟩)
          have Hno := Lib.hid hno
          clear hno
          by_cases hb1 : b = b2
          · subst hb1
            have ht : (b == b) = true := by simp
            have ht2 : (c.toList == c2.toList) = false := by rw [beq_eq_false_iff_ne]; exact fun e => hb ⟨rfl, lstr_ext e⟩
            clear hb
            go_wp2_with fail
            go_quiet (fail)
            go_wp2
            go_ret
            exact ⟨by rw [decide_eq_false Hno.out]; rfl, hx.drewN _⟩
          · have ht : (b == b2) = false := by rw [beq_eq_false_iff_ne]; exact fun e => hb1 e
            clear hb hb1
            go_wp2_with fail
            go_quiet (fail)
            go_wp2
            go_ret
            exact ⟨by rw [decide_eq_false Hno.out]; rfl, hx.drewN _⟩
      · go_wp2_with fail
        go_ret
        refine ⟨?_, hx⟩
        have : l = l2 := by
          have h1 := Heq.out
          have h2 := Hlen.out
          rwa [List.take_of_length_le (by omega), List.take_of_length_le (by omega)] at h1
        rw [decide_eq_true this]
        rfl
  · have hne : ((l.length : Int) != (l2.length : Int)) = true := by
      simp only [bne_iff_ne, ne_eq]; omega
    have Hno := Lib.hid (show l ≠ l2 from fun e => hlen (by rw [e]))
    clear hlen h0 h02
    go_enter Try.func52, Try.ntmps52
    go_wp2_with fail
    go_ret
    exact ⟨by rw [decide_eq_false Hno.out]; rfl, Ext.refl _⟩

set_option maxRecDepth 100000 in
set_option maxHeartbeats 1000000 in
theorem vsame_any (x y : Val) (p t z p2 t2 z2 : Value) (w : World) (hx : Parts w p t z x) (hy : Parts w p2 t2 z2 y) :
    Calls Try.prog 22 #[.agg #[.int .i64 x.kind, .string x.text, p, t, z], .agg #[.int .i64 y.kind, .string y.text, p2, t2, z2]] w fun e w' => e = .returned (.bool (decide (x = y))) ∧ Ext w w' := by
  obtain ⟨k1, s1, P1, T1, Z1⟩ := x
  obtain ⟨k2, s2, P2, T2, Z2⟩ := y
  obtain ⟨hp1, ht1, hz1⟩ := hx
  obtain ⟨hp2, ht2, hz2⟩ := hy
  simp only at hp1 ht1 hz1 hp2 ht2 hz2
  have hx0 : Ext w ((w.alloc (.cells #[.int .i64 k1, .string s1, p, t, z] 30)).alloc (.cells #[.int .i64 k2, .string s2, p2, t2, z2] 30)) := ((Ext.refl w).alloc _).alloc _
  have hd : decide ((⟨k1, s1, P1, T1, Z1⟩ : Val) = ⟨k2, s2, P2, T2, Z2⟩) = (decide (k1 = k2) && (decide (s1 = s2) && (decide (P1 = P2) && (decide (T1 = T2) && decide (Z1 = Z2))))) := by
    rw [Bool.eq_iff_iff]; simp
  rw [hd]
  clear hd
  by_cases hk : k1 = k2
  · subst hk
    rw [decide_eq_true rfl, Bool.true_and]
    by_cases hs : s1 = s2
    · subst hs
      have hss : (s1.toList == s1.toList) = true := by simp
      rw [decide_eq_true rfl, Bool.true_and]
      cases hP : decide (P1 = P2) with
      | false =>
        have HP := Lib.hid hP
        rw [Bool.false_and]
        clear hP
        go_enter Try.func22, Try.ntmps22
        go_wp2_with fail
        refine (equal_P p p2 P1 P2 _ (hp1.mono rPr_mono hx0) (hp2.mono rPr_mono hx0)).mono ?_
        rintro e w1 ⟨rfl, hx1⟩
        rw [HP.out]
        go_wp2
        go_ret
        exact ⟨rfl, hx0.then hx1⟩
      | true =>
        have HP := Lib.hid hP
        rw [Bool.true_and]
        clear hP
        cases hT : decide (T1 = T2) with
        | false =>
          have HT := Lib.hid hT
          rw [Bool.false_and]
          clear hT
          go_enter Try.func22, Try.ntmps22
          go_wp2_with fail
          refine (equal_P p p2 P1 P2 _ (hp1.mono rPr_mono hx0) (hp2.mono rPr_mono hx0)).mono ?_
          rintro e w1 ⟨rfl, hx1⟩
          rw [HP.out]
          have ca3 := hx1.cell (box2 w #[.int .i64 k1, .string s1, p, t, z] #[.int .i64 k1, .string s1, p2, t2, z2] 30 30 (i := 3) rfl rfl)
          have ca4 := hx1.cell (box2 w #[.int .i64 k1, .string s1, p, t, z] #[.int .i64 k1, .string s1, p2, t2, z2] 30 30 (i := 4) rfl rfl)
          have cb3 := hx1.cell (box1 (w.alloc (.cells #[.int .i64 k1, .string s1, p, t, z] 30)) #[.int .i64 k1, .string s1, p2, t2, z2] 30 (g := w.heap.size + 1) (i := 3) (by simp) rfl)
          have cb4 := hx1.cell (box1 (w.alloc (.cells #[.int .i64 k1, .string s1, p, t, z] 30)) #[.int .i64 k1, .string s1, p2, t2, z2] 30 (g := w.heap.size + 1) (i := 4) (by simp) rfl)
          have hxw1 := hx0.then hx1
          clear hx0 hx1
          go_wp2_with fail
          refine (equal_S t t2 T1 T2 _ (ht1.mono rStr_mono hxw1) (ht2.mono rStr_mono hxw1)).mono ?_
          rintro e w2 ⟨rfl, hx2⟩
          have ca4' := hx2.cell ca4
          have cb4' := hx2.cell cb4
          have hxw2 := hxw1.then hx2
          clear ca3 ca4 cb3 cb4 hxw1 hx2
          rw [HT.out]
          go_wp2
          go_ret
          exact ⟨rfl, hxw2⟩
        | true =>
          have HT := Lib.hid hT
          rw [Bool.true_and]
          clear hT
          go_enter Try.func22, Try.ntmps22
          go_wp2_with fail
          refine (equal_P p p2 P1 P2 _ (hp1.mono rPr_mono hx0) (hp2.mono rPr_mono hx0)).mono ?_
          rintro e w1 ⟨rfl, hx1⟩
          rw [HP.out]
          have ca3 := hx1.cell (box2 w #[.int .i64 k1, .string s1, p, t, z] #[.int .i64 k1, .string s1, p2, t2, z2] 30 30 (i := 3) rfl rfl)
          have ca4 := hx1.cell (box2 w #[.int .i64 k1, .string s1, p, t, z] #[.int .i64 k1, .string s1, p2, t2, z2] 30 30 (i := 4) rfl rfl)
          have cb3 := hx1.cell (box1 (w.alloc (.cells #[.int .i64 k1, .string s1, p, t, z] 30)) #[.int .i64 k1, .string s1, p2, t2, z2] 30 (g := w.heap.size + 1) (i := 3) (by simp) rfl)
          have cb4 := hx1.cell (box1 (w.alloc (.cells #[.int .i64 k1, .string s1, p, t, z] 30)) #[.int .i64 k1, .string s1, p2, t2, z2] 30 (g := w.heap.size + 1) (i := 4) (by simp) rfl)
          have hxw1 := hx0.then hx1
          clear hx0 hx1
          go_wp2_with fail
          refine (equal_S t t2 T1 T2 _ (ht1.mono rStr_mono hxw1) (ht2.mono rStr_mono hxw1)).mono ?_
          rintro e w2 ⟨rfl, hx2⟩
          have ca4' := hx2.cell ca4
          have cb4' := hx2.cell cb4
          have hxw2 := hxw1.then hx2
          clear ca3 ca4 cb3 cb4 hxw1 hx2
          rw [HT.out]
          go_wp2_with fail
          refine (equal_M z z2 Z1 Z2 _ (hz1.mono rMb_mono hxw2) (hz2.mono rMb_mono hxw2)).mono ?_
          rintro e w3 ⟨rfl, hx3⟩
          go_wp2
          go_ret
          exact ⟨rfl, hxw2.then hx3⟩
    · have hss : (s1.toList == s2.toList) = false := by rw [beq_str]; exact decide_eq_false hs
      rw [decide_eq_false hs, Bool.false_and]
      clear hs
      go_enter Try.func22, Try.ntmps22
      go_wp2
      go_ret
      exact ⟨rfl, hx0⟩
  · have hkk : (k1 == k2) = false := beq_eq_false_iff_ne.2 hk
    rw [decide_eq_false hk, Bool.false_and]
    clear hk
    go_enter Try.func22, Try.ntmps22
    go_wp2
    go_ret
    exact ⟨rfl, hx0⟩
end Go.Proofs.Ythclkljdnmokcaa
