/-
  The statement CrcSeals: Seal and Open agree with the reference. For every input.
-/
import Derived.Test.YtbhcggdhpdcpbaaCrcApart
namespace Go.Proofs.Ytbhcggdhpdcpbaa
open Go.RowKit Go.Proofs

set_option maxRecDepth 100000 in
set_option maxHeartbeats 2000000 in
theorem crcSeals_walk (w : World) (v : Value) (l : List UInt8) (hv : SliceOf rByte w v l) (v2 : Value) (m : List UInt8) (hm : SliceOf rByte w v2 m) :
    Calls Try.prog 5 #[v, v2] w fun e w' => e = .returned (.bool true) ∧ Ext w w' := by
  obtain ⟨a, cap, rfl, hle, hcap, h0, _⟩ := id hv
  obtain ⟨a2, cap2, rfl, hle2, hcap2, h02, _⟩ := id hm
  unfold maxLen at hcap hcap2
  by_cases hbig : 2000 < l.length ∨ 2000 < m.length
  · have hb : (decide (2000 < (l.length : Int)) || decide (2000 < (m.length : Int))) = true := by
      simp only [Bool.or_eq_true, decide_eq_true_eq]; omega
    have Hb := Lib.hid hbig
    clear hbig
    by_cases hl : 2000 < l.length
    · go_enter Try.func5, Try.ntmps5
      go_wp2_with fail
      refine (awake3 _).mono ?_
      rintro e w1 ⟨rfl, hx1⟩
      go_wp2_with fail
      refine (awake3 _).mono ?_
      rintro e w2 ⟨rfl, hx2⟩
      go_wp2
      go_ret
      exact ⟨rfl, hx1.then hx2⟩
    · have hm2 : 2000 < m.length := by have := Hb.out; omega
      go_enter Try.func5, Try.ntmps5
      go_wp2_with fail
      refine (awake3 _).mono ?_
      rintro e w1 ⟨rfl, hx1⟩
      go_wp2_with fail
      refine (awake3 _).mono ?_
      rintro e w2 ⟨rfl, hx2⟩
      go_wp2
      go_ret
      exact ⟨rfl, hx1.then hx2⟩
  · have hl1 : ¬ 2000 < l.length := fun h => hbig (.inl h)
    have hm1 : ¬ 2000 < m.length := fun h => hbig (.inr h)
    have hA : ([] : List UInt8).length + l.length ≤ maxLen := by unfold maxLen; simp; omega
    have hB : (([] : List UInt8).length + l.length) * 1 ≤ 140737488355328 := by simp; omega
    have hA2 : ([] : List UInt8).length + m.length ≤ maxLen := by unfold maxLen; simp; omega
    have hB2 : (([] : List UInt8).length + m.length) * 1 ≤ 140737488355328 := by simp; omega
    have HA := Lib.hid hA
    have HB := Lib.hid hB
    have HA2 := Lib.hid hA2
    have HB2 := Lib.hid hB2
    clear hA hB hA2 hB2 hbig
    go_enter Try.func5, Try.ntmps5
    go_wp2_with fail
    refine (awake3 _).mono ?_
    rintro e w1 ⟨rfl, hx1⟩
    have own0 := Own.lit0 rByte 5 w1 rfl (Nat.le_refl _)
    go_wp2_with (at_builtin; refine append_ext (w0 := w1) rfl (.tmp 23) (.tmp 24) rfl el_bytes rByte_one rByte_flat (.slice (some ⟨w1.heap.size, 0, none⟩) 0 0) [] rfl own0 _ l rfl (hv.mono rByte_mono (hx1.alloc _)) HA.out HB.out (by simp) ((Ext.refl w1).alloc _) (Nat.le_refl _) ?_; intro v3 w3 hown3 hx3 hb3 hg3; clear own0)
    have hs3 := hown3.slice
    clear hown3 hg3 hb3
    refine (seal_any _ l _ hs3 (by omega)).mono ?_
    rintro e w4 ⟨v4, rfl, hown4, hx4⟩
    have hs4 := hown4.slice
    clear hown4
    have hlen4 : (crcSeal l).length ≤ 1000000 := by simp [crcSeal, le4]; omega
    go_wp2_with fail
    refine (open_any _ (crcSeal l) _ hs4 hlen4).mono ?_
    rintro e w5 ⟨hx5, hpost⟩
    have htk : (crcSeal l).take ((crcSeal l).length - 4) = l := by simp [crcSeal, le4]
    have hsb : sealedB (crcSeal l) = true := by
      simp only [sealedB, htk, Bool.and_eq_true, decide_eq_true_eq, and_true]
      simp [crcSeal, le4]
    rw [htk] at hpost
    obtain ⟨v5, rfl, hs5⟩ : ∃ v, e = .returned (.tuple #[v, .bool true]) ∧ SliceOf rByte w5 v l := by
      rcases hpost with ⟨_, v, h, ho⟩ | ⟨h, _⟩
      · exact ⟨v, h, ho.slice⟩
      · rw [hsb] at h; cases h
    have Hsb := Lib.hid hsb
    have hx05 := ((hx1.then hx3).then hx4).then hx5
    clear hpost hsb htk hlen4
    have own1 := Own.lit0 rByte 5 w5 rfl (Nat.le_refl _)
    have hm5 := hm.mono rByte_mono hx05
    go_wp2_with (at_builtin; refine append_ext (w0 := w5) rfl (.tmp 33) (.tmp 34) rfl el_bytes rByte_one rByte_flat (.slice (some ⟨w5.heap.size, 0, none⟩) 0 0) [] rfl own1 _ m rfl (hm5.mono rByte_mono ((Ext.refl w5).alloc _)) HA2.out HB2.out (by simp) ((Ext.refl w5).alloc _) (Nat.le_refl _) ?_; intro v6 w6 hown6 hx6 hb6 hg6; clear own1)
    have hs6 := hown6.slice
    clear hown6 hg6 hb6
    refine (open_any _ m _ hs6 (by omega)).mono ?_
    rintro e w7 ⟨hx7, hpost⟩
    have hx07 := (hx05.then hx6).then hx7
    obtain ⟨A4, c4, rfl, _, _, _, _⟩ := id hs4
    obtain ⟨A5, c5, rfl, _, _, _, _⟩ := id hs5
    have hv7 := hv.mono rByte_mono hx07
    have hm7 := hm.mono rByte_mono hx07
    have hs47 := hs4.mono rByte_mono ((hx5.then hx6).then hx7)
    have hs57 := hs5.mono rByte_mono (hx6.then hx7)
    generalize hS : crcSeal l = S at hs47 hs4
    have HS := Lib.hid hS
    clear hS
    obtain ⟨y, ok, Y, rfl, hok, hy, hYok⟩ : ∃ y ok Y, e = .returned (.tuple #[y, .bool ok]) ∧ ok = sealedB m ∧ SliceOf rByte w7 y Y ∧ ((ok = true ∧ Y = m.take (m.length - 4)) ∨ (ok = false ∧ Y = [])) := by
      rcases hpost with ⟨h, v, e1, ho⟩ | ⟨h, e1⟩
      · exact ⟨v, true, _, e1, h.symm, ho.slice, .inl ⟨rfl, rfl⟩⟩
      · exact ⟨_, false, _, e1, h.symm, sliceOf_nil _ _, .inr ⟨rfl, rfl⟩⟩
    clear hpost
    have Hok := Lib.hid hok
    have HY := Lib.hid hYok
    clear hok hYok
    obtain ⟨Ay, cy, rfl, _, _, _, _⟩ := id hy
    go_wp2_with fail
    refine wp_region_rely_lit rfl [some 39, some 40, some 41, some 42, some 43, some 44, some 45, some 46, some 47, some 48, some 49, some 50, some 51, some 52, some 53, some 54, some 55] rfl [[], [0], [], [2], [3], [1, 4], [5], [6], [6, 7], [6, 8], [9], [10], [10, 11], [10], [10, 13], [10, 12, 14], [10, 15]] (by kernel_rfl) (fun w' => Ext w7 w') Ext
      (fun i w' v => match i with
        | 0 => v = .slice A4 S.length c4
        | 1 => v = .string (bstr S)
        | 2 => v = .slice a l.length cap
        | 3 => SliceOf rByte w' v S
        | 4 => v = .string (bstr S)
        | 5 => v = .bool false
        | 6 => v = .bool false
        | 7 => v = .bool true
        | 8 => v = .bool false
        | 9 => v = .bool false
        | 10 => v = .bool false
        | 11 => v = .slice A5 l.length c5
        | 12 => v = .string (bstr l)
        | 13 => v = .slice a l.length cap
        | 14 => v = .string (bstr l)
        | _ => v = .bool false) ?_ ?_ ?_ ?_
    · intro i w1 w2 v hR h
      match i with
      | 3 => exact h.mono rByte_mono hR
      | 0 | 1 | 2 | 4 | 5 | 6 | 7 | 8 | 9 | 10 | 11 | 12 | 13 | 14 => exact h
      | _ + 15 => exact h
    · exact (Ext.refl _).drew
    · refine ⟨?_, ?_, ?_, ?_, ?_, ?_, ?_, ?_, ?_, ?_, ?_, ?_, ?_, ?_, ?_, ?_, ?_, trivial⟩
      all_goals (intro vs w' hI hd)
      all_goals simp only [opsFor, actD, List.getD_cons_zero, List.getD_cons_succ, List.foldl_cons, List.foldl_nil, List.mem_cons, List.not_mem_nil, or_false, forall_eq_or_imp, forall_eq] at hd ⊢
      · go_wp2; exact ⟨rfl, rfl, Ext.refl _, hI⟩
      · have hc := conv_bytes (hs47.mono rByte_mono hI)
        go_wp2; exact ⟨rfl, rfl, Ext.refl _, hI⟩
      · go_wp2; exact ⟨rfl, rfl, Ext.refl _, hI⟩
      · go_wp2_with fail
        refine (refseal_any _ l _ (hv7.mono rByte_mono hI) (by omega)).mono ?_
        rintro e w8 ⟨v8, rfl, hown8, hx8⟩
        have hs8 := hown8.slice
        rw [HS.out] at hs8
        clear hown8
        go_wp2
        exact ⟨rfl, hs8, hx8, hI.then hx8⟩
      · have hc := conv_bytes hd
        go_wp2; exact ⟨rfl, rfl, Ext.refl _, hI⟩
      · go_wp2
        refine ⟨rfl, ?_, Ext.refl _, hI⟩
        show Value.bool _ = Value.bool false
        simp
      · go_wp2; exact ⟨rfl, rfl, Ext.refl _, hI⟩
      · go_wp2; exact ⟨rfl, rfl, Ext.refl _, hI⟩
      · go_wp2; exact ⟨rfl, rfl, Ext.refl _, hI⟩
      · go_wp2; exact ⟨rfl, rfl, Ext.refl _, hI⟩
      · go_wp2; exact ⟨rfl, rfl, Ext.refl _, hI⟩
      · go_wp2; exact ⟨rfl, rfl, Ext.refl _, hI⟩
      · have hc := conv_bytes (hs57.mono rByte_mono hI)
        go_wp2; exact ⟨rfl, rfl, Ext.refl _, hI⟩
      · go_wp2; exact ⟨rfl, rfl, Ext.refl _, hI⟩
      · have hc := conv_bytes (hv7.mono rByte_mono hI)
        go_wp2; exact ⟨rfl, rfl, Ext.refl _, hI⟩
      · go_wp2
        refine ⟨rfl, ?_, Ext.refl _, hI⟩
        show Value.bool _ = Value.bool false
        simp
      · go_wp2; exact ⟨rfl, rfl, Ext.refl _, hI⟩
    · intro vs w8 hI hd
      have h16 : vs 16 = .bool false := hd 16 (by decide)
      simp only [actD, List.range, List.range.loop, List.foldl_cons, List.foldl_nil, List.length_cons, List.length_nil, List.getD_cons_zero, List.getD_cons_succ]
      go_simp
      clear hd h16
      have hx08 := hx07.then hI
      have hm8 := hm7.mono rByte_mono hI
      have hy8 := hy.mono rByte_mono hI
      clear hv7 hm7 hs47 hs57 hy hs4 hs5 hs3 hs6 hm5
      by_cases hm4 : m.length < 4
      · have hd4 : decide ((m.length : Int) < 4) = true := by simp; omega
        have hok : ok = false := by
          rw [Hok.out]; simp [sealedB]; omega
        have hY : Y = [] := by
          rcases HY.out with ⟨h, _⟩ | ⟨_, h⟩
          · rw [hok] at h; cases h
          · exact h
        subst hY hok
        go_wp2_with fail
        go_quiet (fail)
        go_wp2
        go_ret
        exact ⟨rfl, hx08.drewN _⟩
      · have hd4 : decide ((m.length : Int) < 4) = false := by simp; omega
        have e4 : ((m.length : Int) - 4) = ((m.length - 4 : Nat) : Int) := by omega
        generalize hn : m.length - 4 = n at e4
        have hnl' : n ≤ m.length := by omega
        have hsb : sealedB m = decide (crcSeal (m.take n) = m) := by
          simp only [sealedB, hn]
          rw [decide_eq_true (show 4 ≤ m.length by omega), Bool.true_and]
        have Hsb := Lib.hid hsb
        have Hn := Lib.hid hn
        clear hsb hn
        go_wp2_with fail
        refine wp_region_rely_lit rfl [some 56, some 57, some 58, some 59, some 60, some 61, some 62, some 63, some 64, some 65, some 66, some 67, some 68, some 69, some 70] rfl [[], [0], [1], [2], [3], [3], [3, 5], [3, 6], [3, 4, 7], [3, 8], [3, 9], [3], [3, 11], [3, 10, 12], [3, 13]] (by kernel_rfl) (fun w' => Ext w8 w') Ext
          (fun i w' v => match i with
            | 0 => v = .slice a2 m.length cap2
            | 1 => v = .int .i64 (m.length : Int)
            | 2 => v = .bool false
            | 3 => v = .bool false
            | 4 => v = .slice a2 m.length cap2
            | 5 => v = .slice a2 m.length cap2
            | 6 => v = .int .i64 (m.length : Int)
            | 7 => v = .int .i64 (n : Int)
            | 8 => v = .slice a2 n cap2
            | 9 => SliceOf rByte w' v (crcSeal (m.take n))
            | 10 => v = .string (bstr (crcSeal (m.take n)))
            | 11 => v = .slice a2 m.length cap2
            | 12 => v = .string (bstr m)
            | _ => v = .bool (!ok)) ?_ ?_ ?_ ?_
        · intro i w1 w2 v hR h
          match i with
          | 9 => exact h.mono rByte_mono hR
          | 0 | 1 | 2 | 3 | 4 | 5 | 6 | 7 | 8 | 10 | 11 | 12 => exact h
          | _ + 13 => exact h
        · exact (Ext.refl _).drew
        · refine ⟨?_, ?_, ?_, ?_, ?_, ?_, ?_, ?_, ?_, ?_, ?_, ?_, ?_, ?_, ?_, trivial⟩
          all_goals (intro vs w' hI hd)
          all_goals simp only [opsFor, actD, List.getD_cons_zero, List.getD_cons_succ, List.foldl_cons, List.foldl_nil, List.mem_cons, List.not_mem_nil, or_false, forall_eq_or_imp, forall_eq] at hd ⊢
          · go_wp2; exact ⟨rfl, rfl, Ext.refl _, hI⟩
          · go_wp2; exact ⟨rfl, rfl, Ext.refl _, hI⟩
          · go_wp2; exact ⟨rfl, rfl, Ext.refl _, hI⟩
          · go_wp2; exact ⟨rfl, rfl, Ext.refl _, hI⟩
          · go_wp2; exact ⟨rfl, rfl, Ext.refl _, hI⟩
          · go_wp2; exact ⟨rfl, rfl, Ext.refl _, hI⟩
          · go_wp2; exact ⟨rfl, rfl, Ext.refl _, hI⟩
          · go_wp2; exact ⟨rfl, rfl, Ext.refl _, hI⟩
          · go_wp2; exact ⟨rfl, rfl, Ext.refl _, hI⟩
          · go_wp2_with fail
            refine (refseal_any _ (m.take n) _ ((hm8.mono rByte_mono hI).take n hnl') (by simp; omega)).mono ?_
            rintro e w9 ⟨v9, rfl, hown9, hx9⟩
            have hs9 := hown9.slice
            clear hown9
            go_wp2
            exact ⟨rfl, hs9, hx9, hI.then hx9⟩
          · obtain ⟨hd1, hd2⟩ := hd
            have hc := conv_bytes hd2
            go_wp2; exact ⟨rfl, rfl, Ext.refl _, hI⟩
          · go_wp2; exact ⟨rfl, rfl, Ext.refl _, hI⟩
          · have hc := conv_bytes (hm8.mono rByte_mono hI)
            go_wp2; exact ⟨rfl, rfl, Ext.refl _, hI⟩
          · have e1 := bstr_toList (crcSeal (m.take n))
            have e2 := bstr_toList m
            go_wp2
            refine ⟨rfl, ?_, Ext.refl _, hI⟩
            show Value.bool _ = Value.bool _
            rw [Hok.out, Hsb.out]
            congr 1
            rw [Bool.eq_iff_iff]
            simp
          · go_wp2
            refine ⟨rfl, ?_, Ext.refl _, hI⟩
            show Value.bool _ = Value.bool _
            simp
        · intro vs w9 hI9 hd
          have h14 : vs 14 = .bool (!ok) := hd 14 (by decide)
          simp only [actD, List.range, List.range.loop, List.foldl_cons, List.foldl_nil, List.length_cons, List.length_nil, List.getD_cons_zero, List.getD_cons_succ]
          go_simp
          clear hd h14
          have hx09 := hx08.then hI9
          have hm9 := hm8.mono rByte_mono hI9
          have hy9 := hy8.mono rByte_mono hI9
          cases ok with
          | false =>
            have hY : Y = [] := by
              rcases HY.out with ⟨h, _⟩ | ⟨_, h⟩
              · cases h
              · exact h
            subst hY
            go_wp2
            go_ret
            exact ⟨rfl, hx09⟩
          | true =>
            have hY : Y = m.take n := by
              rcases HY.out with ⟨_, h⟩ | ⟨h, _⟩
              · rw [h, Hn.out]
              · cases h
            have c1 := fun q => conv_bytes (hy9.mono rByte_mono ((Ext.refl w9).drewN q))
            have c2 := fun q => conv_bytes ((hm9.mono rByte_mono ((Ext.refl w9).drewN q)).take n hnl')
            have HY2 := Lib.hid hY
            clear hY
            go_wp2_with fail
            go_quiet (fail)
            go_wp2
            go_ret
            refine ⟨?_, hx09.drewN _⟩
            show Ending.returned (Value.bool _) = _
            rw [HY2.out]
            simp
end Go.Proofs.Ytbhcggdhpdcpbaa
