/-
  The law ListCuts, walked.
-/
import Derived.Test.YtlobedanjbcfkaaListT
set_option linter.unusedVariables false
set_option linter.unusedSimpArgs false
namespace Go.Proofs.Ytlobedanjbcfkaa
open Go.RowKit Go.Proofs

theorem cut_mod (x : Int) (n : Nat) (h1 : 0 < n) (h2 : n ≤ 1000) : ∃ k : Nat, (wrap64 (x.tmod (n : Int) + (n : Int))).tmod (n : Int) = (k : Int) ∧ k < n := by
  have hp : (0 : Int) < (n : Int) := by omega
  have a1 := Int.tmod_lt_of_pos x hp
  have a2 := Int.lt_tmod_of_pos x hp
  rw [IntWalk.wrap64_in (x.tmod (n : Int) + (n : Int)) (by omega)]
  generalize x.tmod (n : Int) = q at a1 a2
  have a3 : 0 ≤ q + (n : Int) := by omega
  rw [Int.tmod_eq_emod_of_nonneg a3]
  have b1 := Int.emod_nonneg (q + (n : Int)) (show (n : Int) ≠ 0 by omega)
  have b2 := Int.emod_lt_of_pos (q + (n : Int)) hp
  exact ⟨((q + (n : Int)) % (n : Int)).toNat, by omega, by omega⟩
theorem short_len {l : List ByteArray} {most : Int} (h : shortB l most = true) : (l.length : Int) ≤ most := by
  unfold shortB at h
  simp at h
  exact h.1

theorem one_S {w : World} {v : Value} {x : ByteArray} (h : SliceOf rStr w v [x]) : ∃ g o u cap, v = .slice (some ⟨g, o, none⟩) 1 cap ∧ w.cell? ⟨g, o, none⟩ = some u ∧ u = .string x := by
  obtain ⟨a, cap, rfl, _, _, _, _⟩ := id h
  obtain ⟨g, o, u, rfl, hu, hr⟩ := h.at1 rfl (k := 0) (x := x) rfl
  refine ⟨g, o, u, cap, rfl, by simpa using hu, ?_⟩
  have := hr.1
  simpa using this
set_option maxRecDepth 100000 in
set_option maxHeartbeats 2000000 in
theorem listCuts_walk (w : World) (v : Value) (l : List ByteArray) (hv : SliceOf rStr w v l) (at_ : Int) (wat : (Lit.int .i64 at_).wf = true) :
    Calls Try.prog 8 #[v, .int .i64 at_] w fun e w' => e = .returned (.bool true) ∧ Ext w w' := by
  obtain ⟨a, cap, rfl, hle, hcm, h0, _⟩ := id hv
  unfold maxLen at hcm
  obtain ⟨ha1, ha2⟩ := fits_wf wat
  cases hsh : shortB l 300 with
  | false =>
    have Hsh := Lib.hid hsh
    clear hsh
    go_enter Try.func8, Try.ntmps8
    go_wp2_with fail
    refine (awake11 _).mono ?_
    rintro e w1 ⟨rfl, hx1⟩
    go_wp2_with fail
    refine (short_any _ l _ (hv.mono rStr_mono hx1) 300 (by omega)).mono ?_
    rintro e w2 ⟨rfl, hw2⟩
    rw [hw2, Hsh.out]
    clear hw2
    go_wp2_with fail
    refine (awake11 _).mono ?_
    rintro e w3 ⟨rfl, hx3⟩
    go_wp2
    go_ret
    exact ⟨rfl, hx1.then hx3⟩
  | true =>
    have hl3 := short_len hsh
    have Hsh := Lib.hid hsh
    clear hsh
    by_cases hne : l.length = 0
    · obtain rfl : l = [] := List.eq_nil_of_length_eq_zero hne
      have hv0 : SliceOf rStr w (.slice a 0 cap) [] := hv
      clear hv hne
      go_enter Try.func8, Try.ntmps8
      go_wp2_with fail
      refine (awake11 _).mono ?_
      rintro e w1 ⟨rfl, hx1⟩
      go_wp2_with fail
      refine (short_any (.slice a 0 cap) [] _ (hv0.mono rStr_mono hx1) 300 (by omega)).mono ?_
      rintro e w2 ⟨rfl, hw2⟩
      rw [hw2, Hsh.out]
      clear hw2
      go_wp2_with fail
      refine (awake11 _).mono ?_
      rintro e w3 ⟨rfl, hx3⟩
      go_wp2
      go_ret
      exact ⟨rfl, hx1.then hx3⟩
    · have hnz : ((l.length : Int) == 0) = false := beq_eq_false_iff_ne.2 (by omega)
      have hlp : 0 < l.length := by omega
      clear hne
      go_enter Try.func8, Try.ntmps8
      go_wp2_with fail
      refine (awake11 _).mono ?_
      rintro e w1 ⟨rfl, hx1⟩
      have hv1 := hv.mono rStr_mono hx1
      go_wp2_with fail
      refine (short_any _ l _ hv1 300 (by omega)).mono ?_
      rintro e w2 ⟨rfl, hw2⟩
      rw [hw2, Hsh.out]
      clear hw2
      go_wp2_with fail
      obtain ⟨k, hk, hkl⟩ := cut_mod at_ l.length hlp (by omega)
      rw [hk]
      clear hk wat ha1 ha2
      obtain ⟨x, hxk⟩ : ∃ x, l[k]? = some x := ⟨_, List.getElem?_eq_getElem hkl⟩
      have hone : (l.drop k).take 1 = [x] := by
        have h1 := List.drop_eq_getElem_cons hkl
        have e2 : l[k] = x := by
          have := List.getElem?_eq_getElem hkl
          rw [hxk] at this
          exact (Option.some.inj this).symm
        rw [h1, e2]; rfl
      have Hone := Lib.hid hone
      have Hxk := Lib.hid hxk
      have heq : (x.toList == x.toList) = true := beq_iff_eq.2 rfl
      clear hone hxk
      refine (range_all _ l k _ hv1 (by omega) hkl).mono ?_
      rintro e w3 ⟨v3, rfl, hown3, hx3⟩
      have hs3 := hown3.slice
      clear hown3
      by_cases hk0 : k = 0
      · subst hk0
        have hA : ([] : List ByteArray).length + (([] : List ByteArray)).length ≤ maxLen := by unfold maxLen; simp; try omega
        have hB : (([] : List ByteArray).length + (([] : List ByteArray)).length) * 16 ≤ 140737488355328 := by simp; try omega
        have hA2 : (([] : List ByteArray)).length + (l.drop 0).length ≤ maxLen := by unfold maxLen; simp; try omega
        have hB2 : ((([] : List ByteArray)).length + (l.drop 0).length) * 16 ≤ 140737488355328 := by simp; try omega
        have HA := Lib.hid hA
        have HB := Lib.hid hB
        have HA2 := Lib.hid hA2
        have HB2 := Lib.hid hB2
        have Hcat : Hid (([] : List ByteArray) ++ l.drop 0 = l) := Lib.hid (by rw [List.drop_zero]; rfl)
        have own0 := Own.lit0 rStr 9 w3 rfl (Nat.le_refl _)
        have Hsx := Lib.hid (hs3)
        have hvn := hv1.mono rStr_mono hx3
        clear hA hB hA2 hB2
        go_wp2_with (at_builtin; (refine append_ext (w0 := w3) rfl (.tmp 45) (.tmp 46) rfl el_S rStr_one rStr_flat (.slice (some ⟨w3.heap.size, 0, none⟩) 0 0) [] rfl own0 _ (l.drop 0) rfl (Hsx.out.mono rStr_mono ((Ext.refl _).alloc _)) HA2.out HB2.out (by simp) ((Ext.refl w3).alloc _) (Nat.le_refl _) ?_); intro v6 w6 hown6 hx6 hb6 hg6; clear own0)
        have hs6 := hown6.slice
        rw [Hcat.out] at hs6
        refine (same_S _ _ l l _ hs6 (hvn.mono rStr_mono hx6)).mono ?_
        rintro e w7 ⟨rfl, hx7⟩
        rw [decide_eq_true (rfl : l = l)]
        have hx67 := hx6.then hx7
        have hs7 := Hsx.out.mono rStr_mono hx67
        have hv7 := hvn.mono rStr_mono hx67
        have hxw7 : Ext w w7 := (hx1.then hx3).then hx67
        clear hown6 hs6 hx6 hx7
        go_wp2_with fail
        refine (trim_one _ (l.drop 0) _ hs7 (by simp; omega) (by simp; omega)).mono ?_
        rintro e w8 ⟨v8, rfl, hown8, hx8⟩
        have hv8 := hv7.mono rStr_mono hx8
        have hs8 := hown8.slice
        rw [Hone.out] at hs8
        obtain ⟨g8, o8, u8, cap8, rfl, hu8, rfl⟩ := one_S hs8
        go_wp2_with fail
        refine (index_in _ l 0 x _ hv8 (by omega) Hxk.out).mono ?_
        rintro e w9 ⟨rfl, hw9⟩
        rw [hw9]
        clear hw9
        go_wp2
        go_ret
        exact ⟨rfl, hxw7.then hx8⟩

      · obtain ⟨b, hb⟩ : ∃ b : Nat, (k : Int) - 1 = (b : Int) := ⟨k - 1, by omega⟩
        have hbk : k = b + 1 := by omega
        have hbk' := Lib.hid hbk
        have hkp : 0 < k := by omega
        clear hk0 hbk
        go_wp2_with fail
        refine (range_to _ l b _ (hv1.mono rStr_mono hx3) (by omega) (by omega)).mono ?_
        rintro e w4 ⟨v4, rfl, hown4, hx4⟩
        have hs4 := hown4.slice
        rw [← hbk'.out] at hs4
        have hx34 := hx3.then hx4
        have hA : ([] : List ByteArray).length + (l.take k).length ≤ maxLen := by unfold maxLen; simp; try omega
        have hB : (([] : List ByteArray).length + (l.take k).length) * 16 ≤ 140737488355328 := by simp; try omega
        have hA2 : (l.take k).length + (l.drop k).length ≤ maxLen := by unfold maxLen; simp; try omega
        have hB2 : ((l.take k).length + (l.drop k).length) * 16 ≤ 140737488355328 := by simp; try omega
        have HA := Lib.hid hA
        have HB := Lib.hid hB
        have HA2 := Lib.hid hA2
        have HB2 := Lib.hid hB2
        have Hcat : Hid (l.take k ++ l.drop k = l) := Lib.hid (by exact List.take_append_drop k l)
        have own0 := Own.lit0 rStr 9 w4 rfl (Nat.le_refl _)
        have Hsx := Lib.hid (hs3.mono rStr_mono hx4)
        have hvn := hv1.mono rStr_mono hx34
        clear hA hB hA2 hB2
        go_wp2_with (at_builtin; first | ((refine append_ext (w0 := w4) rfl (.tmp 43) (.tmp 44) rfl el_S rStr_one rStr_flat (.slice (some ⟨w4.heap.size, 0, none⟩) 0 0) [] rfl own0 _ (l.take k) rfl (hs4.mono rStr_mono ((Ext.refl _).alloc _)) HA.out HB.out (by simp) ((Ext.refl w4).alloc _) (Nat.le_refl _) ?_); intro v5 w5 hown5 hx5 hb5 hg5; rw [List.nil_append] at hown5; clear own0) | ((refine append_ext (w0 := w4) rfl (.tmp 45) (.tmp 46) rfl el_S rStr_one rStr_flat _ (l.take k) rfl hown5 _ (l.drop k) rfl (Hsx.out.mono rStr_mono hx5) HA2.out HB2.out hb5 hx5 (Nat.le_refl _) ?_); intro v6 w6 hown6 hx6 hb6 hg6; clear hown5))
        have hs6 := hown6.slice
        rw [Hcat.out] at hs6
        refine (same_S _ _ l l _ hs6 (hvn.mono rStr_mono hx6)).mono ?_
        rintro e w7 ⟨rfl, hx7⟩
        rw [decide_eq_true (rfl : l = l)]
        have hx67 := hx6.then hx7
        have hs7 := Hsx.out.mono rStr_mono hx67
        have hv7 := hvn.mono rStr_mono hx67
        have hxw7 : Ext w w7 := (hx1.then hx34).then hx67
        clear hown6 hs6 hx6 hx7
        go_wp2_with fail
        refine (trim_one _ (l.drop k) _ hs7 (by simp; omega) (by simp; omega)).mono ?_
        rintro e w8 ⟨v8, rfl, hown8, hx8⟩
        have hv8 := hv7.mono rStr_mono hx8
        have hs8 := hown8.slice
        rw [Hone.out] at hs8
        obtain ⟨g8, o8, u8, cap8, rfl, hu8, rfl⟩ := one_S hs8
        go_wp2_with fail
        refine (index_in _ l k x _ hv8 (by omega) Hxk.out).mono ?_
        rintro e w9 ⟨rfl, hw9⟩
        rw [hw9]
        clear hw9
        go_wp2
        go_ret
        exact ⟨rfl, hxw7.then hx8⟩
end Go.Proofs.Ytlobedanjbcfkaa
