/-
  The reference's Remove, walked.
-/
import Derived.Test.YtlobedanjbcfkaaListG
set_option linter.unusedVariables false
set_option linter.unusedSimpArgs false
namespace Go.Proofs.Ytlobedanjbcfkaa
open Go.RowKit Go.Proofs

set_option maxRecDepth 100000 in
set_option maxHeartbeats 1000000 in
theorem refremove_any (v : Value) (l : List ByteArray) (c : Int) (s : ByteArray) (w : World) (hv : SliceOf rStr w v l) (hl : l.length ≤ 300) (hc : Fits c) :
    Calls Try.prog 21 #[v, .int .i64 c, .string s] w fun e w' => ∃ v', e = .returned (.tuple #[v', .int .i64 (remOut c s l).2]) ∧ SliceOf rStr w' v' (remOut c s l).1 ∧ Ext w w' := by
  obtain ⟨hc1, hc2⟩ := hc
  go_enter Try.func21, Try.ntmps21
  go_wp2_with fail
  go_loopw [0, 8, 9, 10, 11, 12] (fun lv n k a i o wr => ∃ (j : Nat) (L : List ByteArray), n = .int .i64 (j : Int) ∧ k = .int .i64 (j : Int) ∧ L.length + j = l.length ∧ SliceOf rStr wr lv L ∧ remG c s (j : Int) L = remOut c s l ∧ Ext w wr) (fun _ _ k _ _ _ _ => 300 - (intOf k).toNat)
  case atStart => exact ⟨0, l, rfl, rfl, by omega, hv, rfl, Ext.refl _⟩
  case round =>
    obtain ⟨j, L, rfl, rfl, hjl, hL, hG, hx⟩ := hrel
    have HG := Lib.hid hG
    have Hx := Lib.hid hx
    clear hG hx
    obtain ⟨a, cap, rfl, hle, hm, h0, _⟩ := id hL
    unfold maxLen at hm
    by_cases hstop : c ≠ 0 ∧ ((j : Int) = c ∨ (j : Int) = -c)
    · have hall : ∀ y ∈ L, delB c s (j : Int) y = false := by
        intro y _
        unfold delB
        rcases hstop.2 with h | h <;> simp [h, hstop.1]
      have hend : remOut c s l = (L, (j : Int)) := by rw [← HG.out, remG_stop _ _ _ _ hall]
      have Hend := Lib.hid hend
      clear hall hend
      have hcn := hstop.1
      by_cases hpos : 0 < c
      · obtain rfl : c = (j : Int) := by omega
        clear hstop
        go_wp2_with fail
        go_ret2
        exact ⟨_, by rw [Hend.out]; rfl, by rw [Hend.out]; exact hL, Hx.out⟩
      · obtain rfl : c = -(j : Int) := by omega
        clear hstop
        go_wp2_with fail
        go_ret2
        exact ⟨_, by rw [Hend.out]; rfl, by rw [Hend.out]; exact hL, Hx.out⟩
    · have hd : delB c s (j : Int) s = true := by
        rw [delB_same]
        by_cases h : c = 0
        · simp [h]
        · have h1 : ¬ (j : Int) = c := fun e => hstop ⟨h, .inl e⟩
          have h2 : ¬ (j : Int) = -c := fun e => hstop ⟨h, .inr e⟩
          simp [h, h1, h2]
      have Hd := Lib.hid hd
      clear hd
      by_cases hcneg : c < 0
      · have hne1 : ¬ (j : Int) = -c := fun e => hstop ⟨by omega, .inr e⟩
        by_cases hlo : c = -9223372036854775808
        · subst hlo
          have hw : wrap64 9223372036854775808 = -9223372036854775808 := by unfold wrap64; rfl
          have hq : ((j : Int) == -9223372036854775808) = false := beq_eq_false_iff_ne.2 (by omega)
          clear hstop
          go_wp2_with fail
          go_loopw [10, 11] (fun av iv w' => ∃ (i : Nat) (A : Int), av = .int .i64 A ∧ iv = .int .i64 (i : Int) ∧ i ≤ L.length ∧ FoundAt (-9223372036854775808) s L i A ∧ w' = wr) (fun _ iv _ => L.length - (intOf iv).toNat)
          case atStart => exact ⟨0, -1, rfl, rfl, by omega, FoundAt.start _ _ _, rfl⟩
          case round =>
            obtain ⟨i, A, rfl, rfl, hi, hF, rfl⟩ := hrel
            obtain ⟨hA1, hA2⟩ := hF.range
            have HF := Lib.hid hF
            clear hF
            by_cases hlt : i < L.length
            · obtain ⟨x, hxi⟩ : ∃ x, L[i]? = some x := ⟨_, List.getElem?_eq_getElem hlt⟩
              obtain ⟨g, o, u, rfl, hu, hu'⟩ := hL.at1 rfl hxi
              have hu1 := hu'.1
              obtain rfl : u = .string x := by simpa using hu1
              clear hu' hu1
              have hbq := lstr_beq x s
              by_cases hxs : x = s
              · have ht : (x.toList == s.toList) = true := by rw [hbq]; exact decide_eq_true hxs
                have Hxi : Hid (L[i]? = some s) := Lib.hid (by rw [hxi, hxs])
                clear hbq hxs hxi
                have HF2 : Hid (FoundAt (-9223372036854775808) s L (i + 1) (i : Int)) := Lib.hid (FoundAt.neg Hxi.out hcneg)
                go_wp2_with fail
                exact ⟨⟨i + 1, _, rfl, by go_num, by omega, HF2.out, by first | exact trivial | rfl⟩, by simp [intOf]; omega⟩
              · have ht : (x.toList == s.toList) = false := by rw [hbq]; exact decide_eq_false hxs
                have HF2 := Lib.hid (HF.out.skip hxi hxs)
                clear hbq hxs hxi
                go_wp2_with fail
                exact ⟨⟨i + 1, A, rfl, by go_num, by omega, HF2.out, by first | exact trivial | rfl⟩, by simp [intOf]; omega⟩
            · obtain rfl : i = L.length := by omega
              by_cases hA0 : A < 0
              · have hall : ∀ y ∈ L, delB (-9223372036854775808) s (j : Int) y = false := fun y hy => delB_other (HF.out.none hA0 y hy)
                have hend : remOut (-9223372036854775808) s l = (L, (j : Int)) := by rw [← HG.out, remG_stop _ _ _ _ hall]
                have Hend := Lib.hid hend
                clear hall hend
                go_wp2_with fail
                go_ret2
                exact ⟨_, by rw [Hend.out]; rfl, by rw [Hend.out]; exact hL, Hx.out⟩
              · obtain ⟨k, rfl, hkL, hrem⟩ := HF.out.some hA0
                have hrem2 := hrem _ Hd.out
                have Hrem2 := Lib.hid hrem2
                clear hrem hrem2 hA0
                have hne : L ≠ [] := by rintro rfl; simp at hkL
                obtain ⟨g, o, u0, rfl, _, _⟩ := hL.at1 rfl (List.getElem?_eq_getElem hkL)
                have hA : ([] : List ByteArray).length + (L.take k).length ≤ maxLen := by unfold maxLen; simp; omega
                have hB : (([] : List ByteArray).length + (L.take k).length) * 16 ≤ 140737488355328 := by simp; omega
                have hA2' : (L.take k).length + (L.drop (k + 1)).length ≤ maxLen := by unfold maxLen; simp; omega
                have hB2' : ((L.take k).length + (L.drop (k + 1)).length) * 16 ≤ 140737488355328 := by simp; omega
                have Hlk : Hid ((L.take k).length = k) := Lib.hid (by rw [List.length_take]; omega)
                have HA := Lib.hid hA
                have HB := Lib.hid hB
                have HA2 := Lib.hid hA2'
                have HB2 := Lib.hid hB2'
                have hbase : w.heap.size ≤ wr.heap.size := Hx.out.size
                have Htk := Lib.hid (hL.take k (by omega))
                clear hA hB hA2' hB2' hne
                by_cases hcap : cap = k + 1
                · have Hnil : Hid (L.drop (k + 1) = []) := Lib.hid (List.drop_of_length_le (by omega))
                  subst hcap
                  have HA3 : Hid ((L.take k).length + ([] : List ByteArray).length ≤ maxLen) := Lib.hid (by unfold maxLen; simp; omega)
                  have HB3 : Hid (((L.take k).length + ([] : List ByteArray).length) * 16 ≤ 140737488355328) := Lib.hid (by simp; omega)
                  go_wp2_with (at_builtin; first | (refine append_ext (w0 := w) rfl (.tmp 57) (.tmp 60) rfl el_S rStr_one rStr_flat (.slice none 0 0) [] rfl (Own.nil rStr w.heap.size 9 wr) _ (L.take k) rfl Htk.out HA.out HB.out hbase Hx.out (Nat.le_refl _) ?_; intro v1 w1 hown1 hx1 hb1 hg1; rw [List.nil_append] at hown1; obtain ⟨A1, c1, hv1, _, _, _, _⟩ := id hown1.slice; rw [Hlk.out] at hv1; subst hv1) | (refine append_ext (w0 := w) rfl (.tmp 62) (.tmp 66) rfl el_S rStr_one rStr_flat _ (L.take k) rfl hown1 (.slice (some ⟨g, o, none⟩) 0 0) [] rfl ⟨some ⟨g, o, none⟩, 0, rfl, by simp, by simp [maxLen], by simp, fun h => absurd rfl h⟩ HA3.out HB3.out hb1 hx1 (Nat.le_refl _) ?_; intro v2 w2 hown2 hx2 hb2 hg2; rw [List.append_nil] at hown2))
                  exact ⟨⟨j + 1, L.take k, by go_num, by go_num, by simp; omega, hown2.slice, by rw [← HG.out, Hrem2.out, Hnil.out, List.append_nil]; rfl, hx2⟩, by simp [intOf]; omega⟩
                · have Hdk := Lib.hid (hL.drop rfl (k + 1) (by omega) (o + (k + 1)) (by rw [if_neg hcap]))
                  go_wp2_with (at_builtin; first | (refine append_ext (w0 := w) rfl (.tmp 57) (.tmp 60) rfl el_S rStr_one rStr_flat (.slice none 0 0) [] rfl (Own.nil rStr w.heap.size 9 wr) _ (L.take k) rfl Htk.out HA.out HB.out hbase Hx.out (Nat.le_refl _) ?_; intro v1 w1 hown1 hx1 hb1 hg1; rw [List.nil_append] at hown1; obtain ⟨A1, c1, hv1, _, _, _, _⟩ := id hown1.slice; rw [Hlk.out] at hv1; subst hv1) | (refine append_ext (w0 := w) rfl (.tmp 62) (.tmp 66) rfl el_S rStr_one rStr_flat _ (L.take k) rfl hown1 _ (L.drop (k + 1)) rfl (Hdk.out.mono rStr_mono ((Ext.refl wr).grown hg1 (Nat.le_refl _) (fun k hk => by cases hk))) HA2.out HB2.out hb1 hx1 (Nat.le_refl _) ?_; intro v2 w2 hown2 hx2 hb2 hg2))
                  exact ⟨⟨j + 1, L.take k ++ L.drop (k + 1), by go_num, by go_num, by simp; omega, hown2.slice, by rw [← HG.out, Hrem2.out]; rfl, hx2⟩, by simp [intOf]; omega⟩
        · have hq : ((j : Int) == -c) = false := beq_eq_false_iff_ne.2 hne1
          have hlo2 : -9223372036854775807 ≤ c := by omega
          clear hstop
          go_wp2_with fail
          go_loopw [10, 11] (fun av iv w' => ∃ (i : Nat) (A : Int), av = .int .i64 A ∧ iv = .int .i64 (i : Int) ∧ i ≤ L.length ∧ FoundAt c s L i A ∧ w' = wr) (fun _ iv _ => L.length - (intOf iv).toNat)
          case atStart => exact ⟨0, -1, rfl, rfl, by omega, FoundAt.start _ _ _, rfl⟩
          case round =>
            obtain ⟨i, A, rfl, rfl, hi, hF, rfl⟩ := hrel
            obtain ⟨hA1, hA2⟩ := hF.range
            have HF := Lib.hid hF
            clear hF
            by_cases hlt : i < L.length
            · obtain ⟨x, hxi⟩ : ∃ x, L[i]? = some x := ⟨_, List.getElem?_eq_getElem hlt⟩
              obtain ⟨g, o, u, rfl, hu, hu'⟩ := hL.at1 rfl hxi
              have hu1 := hu'.1
              obtain rfl : u = .string x := by simpa using hu1
              clear hu' hu1
              have hbq := lstr_beq x s
              by_cases hxs : x = s
              · have ht : (x.toList == s.toList) = true := by rw [hbq]; exact decide_eq_true hxs
                have Hxi : Hid (L[i]? = some s) := Lib.hid (by rw [hxi, hxs])
                clear hbq hxs hxi
                have HF2 : Hid (FoundAt c s L (i + 1) (i : Int)) := Lib.hid (FoundAt.neg Hxi.out hcneg)
                go_wp2_with fail
                exact ⟨⟨i + 1, _, rfl, by go_num, by omega, HF2.out, by first | exact trivial | rfl⟩, by simp [intOf]; omega⟩
              · have ht : (x.toList == s.toList) = false := by rw [hbq]; exact decide_eq_false hxs
                have HF2 := Lib.hid (HF.out.skip hxi hxs)
                clear hbq hxs hxi
                go_wp2_with fail
                exact ⟨⟨i + 1, A, rfl, by go_num, by omega, HF2.out, by first | exact trivial | rfl⟩, by simp [intOf]; omega⟩
            · obtain rfl : i = L.length := by omega
              by_cases hA0 : A < 0
              · have hall : ∀ y ∈ L, delB c s (j : Int) y = false := fun y hy => delB_other (HF.out.none hA0 y hy)
                have hend : remOut c s l = (L, (j : Int)) := by rw [← HG.out, remG_stop _ _ _ _ hall]
                have Hend := Lib.hid hend
                clear hall hend
                go_wp2_with fail
                go_ret2
                exact ⟨_, by rw [Hend.out]; rfl, by rw [Hend.out]; exact hL, Hx.out⟩
              · obtain ⟨k, rfl, hkL, hrem⟩ := HF.out.some hA0
                have hrem2 := hrem _ Hd.out
                have Hrem2 := Lib.hid hrem2
                clear hrem hrem2 hA0
                have hne : L ≠ [] := by rintro rfl; simp at hkL
                obtain ⟨g, o, u0, rfl, _, _⟩ := hL.at1 rfl (List.getElem?_eq_getElem hkL)
                have hA : ([] : List ByteArray).length + (L.take k).length ≤ maxLen := by unfold maxLen; simp; omega
                have hB : (([] : List ByteArray).length + (L.take k).length) * 16 ≤ 140737488355328 := by simp; omega
                have hA2' : (L.take k).length + (L.drop (k + 1)).length ≤ maxLen := by unfold maxLen; simp; omega
                have hB2' : ((L.take k).length + (L.drop (k + 1)).length) * 16 ≤ 140737488355328 := by simp; omega
                have Hlk : Hid ((L.take k).length = k) := Lib.hid (by rw [List.length_take]; omega)
                have HA := Lib.hid hA
                have HB := Lib.hid hB
                have HA2 := Lib.hid hA2'
                have HB2 := Lib.hid hB2'
                have hbase : w.heap.size ≤ wr.heap.size := Hx.out.size
                have Htk := Lib.hid (hL.take k (by omega))
                clear hA hB hA2' hB2' hne
                by_cases hcap : cap = k + 1
                · have Hnil : Hid (L.drop (k + 1) = []) := Lib.hid (List.drop_of_length_le (by omega))
                  subst hcap
                  have HA3 : Hid ((L.take k).length + ([] : List ByteArray).length ≤ maxLen) := Lib.hid (by unfold maxLen; simp; omega)
                  have HB3 : Hid (((L.take k).length + ([] : List ByteArray).length) * 16 ≤ 140737488355328) := Lib.hid (by simp; omega)
                  go_wp2_with (at_builtin; first | (refine append_ext (w0 := w) rfl (.tmp 57) (.tmp 60) rfl el_S rStr_one rStr_flat (.slice none 0 0) [] rfl (Own.nil rStr w.heap.size 9 wr) _ (L.take k) rfl Htk.out HA.out HB.out hbase Hx.out (Nat.le_refl _) ?_; intro v1 w1 hown1 hx1 hb1 hg1; rw [List.nil_append] at hown1; obtain ⟨A1, c1, hv1, _, _, _, _⟩ := id hown1.slice; rw [Hlk.out] at hv1; subst hv1) | (refine append_ext (w0 := w) rfl (.tmp 62) (.tmp 66) rfl el_S rStr_one rStr_flat _ (L.take k) rfl hown1 (.slice (some ⟨g, o, none⟩) 0 0) [] rfl ⟨some ⟨g, o, none⟩, 0, rfl, by simp, by simp [maxLen], by simp, fun h => absurd rfl h⟩ HA3.out HB3.out hb1 hx1 (Nat.le_refl _) ?_; intro v2 w2 hown2 hx2 hb2 hg2; rw [List.append_nil] at hown2))
                  exact ⟨⟨j + 1, L.take k, by go_num, by go_num, by simp; omega, hown2.slice, by rw [← HG.out, Hrem2.out, Hnil.out, List.append_nil]; rfl, hx2⟩, by simp [intOf]; omega⟩
                · have Hdk := Lib.hid (hL.drop rfl (k + 1) (by omega) (o + (k + 1)) (by rw [if_neg hcap]))
                  go_wp2_with (at_builtin; first | (refine append_ext (w0 := w) rfl (.tmp 57) (.tmp 60) rfl el_S rStr_one rStr_flat (.slice none 0 0) [] rfl (Own.nil rStr w.heap.size 9 wr) _ (L.take k) rfl Htk.out HA.out HB.out hbase Hx.out (Nat.le_refl _) ?_; intro v1 w1 hown1 hx1 hb1 hg1; rw [List.nil_append] at hown1; obtain ⟨A1, c1, hv1, _, _, _, _⟩ := id hown1.slice; rw [Hlk.out] at hv1; subst hv1) | (refine append_ext (w0 := w) rfl (.tmp 62) (.tmp 66) rfl el_S rStr_one rStr_flat _ (L.take k) rfl hown1 _ (L.drop (k + 1)) rfl (Hdk.out.mono rStr_mono ((Ext.refl wr).grown hg1 (Nat.le_refl _) (fun k hk => by cases hk))) HA2.out HB2.out hb1 hx1 (Nat.le_refl _) ?_; intro v2 w2 hown2 hx2 hb2 hg2))
                  exact ⟨⟨j + 1, L.take k ++ L.drop (k + 1), by go_num, by go_num, by simp; omega, hown2.slice, by rw [← HG.out, Hrem2.out]; rfl, hx2⟩, by simp [intOf]; omega⟩
      · by_cases hc0 : c = 0
        · subst hc0
          clear hstop
          go_wp2_with fail
          go_loopw [10, 11] (fun av iv w' => ∃ (i : Nat) (A : Int), av = .int .i64 A ∧ iv = .int .i64 (i : Int) ∧ i ≤ L.length ∧ FoundAt 0 s L i A ∧ w' = wr) (fun _ iv _ => L.length - (intOf iv).toNat)
          case atStart => exact ⟨0, -1, rfl, rfl, by omega, FoundAt.start _ _ _, rfl⟩
          case round =>
            obtain ⟨i, A, rfl, rfl, hi, hF, rfl⟩ := hrel
            obtain ⟨hA1, hA2⟩ := hF.range
            have HF := Lib.hid hF
            clear hF
            by_cases hlt : i < L.length
            · obtain ⟨x, hxi⟩ : ∃ x, L[i]? = some x := ⟨_, List.getElem?_eq_getElem hlt⟩
              obtain ⟨g, o, u, rfl, hu, hu'⟩ := hL.at1 rfl hxi
              have hu1 := hu'.1
              obtain rfl : u = .string x := by simpa using hu1
              clear hu' hu1
              have hbq := lstr_beq x s
              by_cases hxs : x = s
              · have ht : (x.toList == s.toList) = true := by rw [hbq]; exact decide_eq_true hxs
                have Hxi : Hid (L[i]? = some s) := Lib.hid (by rw [hxi, hxs])
                clear hbq hxs hxi
                by_cases hA0 : A < 0
                · have HF2 : Hid (FoundAt 0 s L (i + 1) (i : Int)) := Lib.hid (HF.out.pos Hxi.out (Int.not_lt.2 hcneg) hA0)
                  go_wp2_with fail
                  exact ⟨⟨i + 1, _, rfl, by go_num, by omega, HF2.out, by first | exact trivial | rfl⟩, by simp [intOf]; omega⟩
                · have HF2 : Hid (FoundAt 0 s L (i + 1) A) := Lib.hid (HF.out.keep (Int.not_lt.2 hcneg) hA0)
                  go_wp2_with fail
                  exact ⟨⟨i + 1, _, rfl, by go_num, by omega, HF2.out, by first | exact trivial | rfl⟩, by simp [intOf]; omega⟩
              · have ht : (x.toList == s.toList) = false := by rw [hbq]; exact decide_eq_false hxs
                have HF2 := Lib.hid (HF.out.skip hxi hxs)
                clear hbq hxs hxi
                go_wp2_with fail
                exact ⟨⟨i + 1, A, rfl, by go_num, by omega, HF2.out, by first | exact trivial | rfl⟩, by simp [intOf]; omega⟩
            · obtain rfl : i = L.length := by omega
              by_cases hA0 : A < 0
              · have hall : ∀ y ∈ L, delB 0 s (j : Int) y = false := fun y hy => delB_other (HF.out.none hA0 y hy)
                have hend : remOut 0 s l = (L, (j : Int)) := by rw [← HG.out, remG_stop _ _ _ _ hall]
                have Hend := Lib.hid hend
                clear hall hend
                go_wp2_with fail
                go_ret2
                exact ⟨_, by rw [Hend.out]; rfl, by rw [Hend.out]; exact hL, Hx.out⟩
              · obtain ⟨k, rfl, hkL, hrem⟩ := HF.out.some hA0
                have hrem2 := hrem _ Hd.out
                have Hrem2 := Lib.hid hrem2
                clear hrem hrem2 hA0
                have hne : L ≠ [] := by rintro rfl; simp at hkL
                obtain ⟨g, o, u0, rfl, _, _⟩ := hL.at1 rfl (List.getElem?_eq_getElem hkL)
                have hA : ([] : List ByteArray).length + (L.take k).length ≤ maxLen := by unfold maxLen; simp; omega
                have hB : (([] : List ByteArray).length + (L.take k).length) * 16 ≤ 140737488355328 := by simp; omega
                have hA2' : (L.take k).length + (L.drop (k + 1)).length ≤ maxLen := by unfold maxLen; simp; omega
                have hB2' : ((L.take k).length + (L.drop (k + 1)).length) * 16 ≤ 140737488355328 := by simp; omega
                have Hlk : Hid ((L.take k).length = k) := Lib.hid (by rw [List.length_take]; omega)
                have HA := Lib.hid hA
                have HB := Lib.hid hB
                have HA2 := Lib.hid hA2'
                have HB2 := Lib.hid hB2'
                have hbase : w.heap.size ≤ wr.heap.size := Hx.out.size
                have Htk := Lib.hid (hL.take k (by omega))
                clear hA hB hA2' hB2' hne
                by_cases hcap : cap = k + 1
                · have Hnil : Hid (L.drop (k + 1) = []) := Lib.hid (List.drop_of_length_le (by omega))
                  subst hcap
                  have HA3 : Hid ((L.take k).length + ([] : List ByteArray).length ≤ maxLen) := Lib.hid (by unfold maxLen; simp; omega)
                  have HB3 : Hid (((L.take k).length + ([] : List ByteArray).length) * 16 ≤ 140737488355328) := Lib.hid (by simp; omega)
                  go_wp2_with (at_builtin; first | (refine append_ext (w0 := w) rfl (.tmp 57) (.tmp 60) rfl el_S rStr_one rStr_flat (.slice none 0 0) [] rfl (Own.nil rStr w.heap.size 9 wr) _ (L.take k) rfl Htk.out HA.out HB.out hbase Hx.out (Nat.le_refl _) ?_; intro v1 w1 hown1 hx1 hb1 hg1; rw [List.nil_append] at hown1; obtain ⟨A1, c1, hv1, _, _, _, _⟩ := id hown1.slice; rw [Hlk.out] at hv1; subst hv1) | (refine append_ext (w0 := w) rfl (.tmp 62) (.tmp 66) rfl el_S rStr_one rStr_flat _ (L.take k) rfl hown1 (.slice (some ⟨g, o, none⟩) 0 0) [] rfl ⟨some ⟨g, o, none⟩, 0, rfl, by simp, by simp [maxLen], by simp, fun h => absurd rfl h⟩ HA3.out HB3.out hb1 hx1 (Nat.le_refl _) ?_; intro v2 w2 hown2 hx2 hb2 hg2; rw [List.append_nil] at hown2))
                  exact ⟨⟨j + 1, L.take k, by go_num, by go_num, by simp; omega, hown2.slice, by rw [← HG.out, Hrem2.out, Hnil.out, List.append_nil]; rfl, hx2⟩, by simp [intOf]; omega⟩
                · have Hdk := Lib.hid (hL.drop rfl (k + 1) (by omega) (o + (k + 1)) (by rw [if_neg hcap]))
                  go_wp2_with (at_builtin; first | (refine append_ext (w0 := w) rfl (.tmp 57) (.tmp 60) rfl el_S rStr_one rStr_flat (.slice none 0 0) [] rfl (Own.nil rStr w.heap.size 9 wr) _ (L.take k) rfl Htk.out HA.out HB.out hbase Hx.out (Nat.le_refl _) ?_; intro v1 w1 hown1 hx1 hb1 hg1; rw [List.nil_append] at hown1; obtain ⟨A1, c1, hv1, _, _, _, _⟩ := id hown1.slice; rw [Hlk.out] at hv1; subst hv1) | (refine append_ext (w0 := w) rfl (.tmp 62) (.tmp 66) rfl el_S rStr_one rStr_flat _ (L.take k) rfl hown1 _ (L.drop (k + 1)) rfl (Hdk.out.mono rStr_mono ((Ext.refl wr).grown hg1 (Nat.le_refl _) (fun k hk => by cases hk))) HA2.out HB2.out hb1 hx1 (Nat.le_refl _) ?_; intro v2 w2 hown2 hx2 hb2 hg2))
                  exact ⟨⟨j + 1, L.take k ++ L.drop (k + 1), by go_num, by go_num, by simp; omega, hown2.slice, by rw [← HG.out, Hrem2.out]; rfl, hx2⟩, by simp [intOf]; omega⟩
        · have hq : ((j : Int) == c) = false := beq_eq_false_iff_ne.2 (fun e => hstop ⟨hc0, .inl e⟩)
          have hcp : 0 < c := by omega
          clear hstop
          go_wp2_with fail
          go_loopw [10, 11] (fun av iv w' => ∃ (i : Nat) (A : Int), av = .int .i64 A ∧ iv = .int .i64 (i : Int) ∧ i ≤ L.length ∧ FoundAt c s L i A ∧ w' = wr) (fun _ iv _ => L.length - (intOf iv).toNat)
          case atStart => exact ⟨0, -1, rfl, rfl, by omega, FoundAt.start _ _ _, rfl⟩
          case round =>
            obtain ⟨i, A, rfl, rfl, hi, hF, rfl⟩ := hrel
            obtain ⟨hA1, hA2⟩ := hF.range
            have HF := Lib.hid hF
            clear hF
            by_cases hlt : i < L.length
            · obtain ⟨x, hxi⟩ : ∃ x, L[i]? = some x := ⟨_, List.getElem?_eq_getElem hlt⟩
              obtain ⟨g, o, u, rfl, hu, hu'⟩ := hL.at1 rfl hxi
              have hu1 := hu'.1
              obtain rfl : u = .string x := by simpa using hu1
              clear hu' hu1
              have hbq := lstr_beq x s
              by_cases hxs : x = s
              · have ht : (x.toList == s.toList) = true := by rw [hbq]; exact decide_eq_true hxs
                have Hxi : Hid (L[i]? = some s) := Lib.hid (by rw [hxi, hxs])
                clear hbq hxs hxi
                by_cases hA0 : A < 0
                · have HF2 : Hid (FoundAt c s L (i + 1) (i : Int)) := Lib.hid (HF.out.pos Hxi.out (Int.not_lt.2 hcneg) hA0)
                  go_wp2_with fail
                  exact ⟨⟨i + 1, _, rfl, by go_num, by omega, HF2.out, by first | exact trivial | rfl⟩, by simp [intOf]; omega⟩
                · have HF2 : Hid (FoundAt c s L (i + 1) A) := Lib.hid (HF.out.keep (Int.not_lt.2 hcneg) hA0)
                  go_wp2_with fail
                  exact ⟨⟨i + 1, _, rfl, by go_num, by omega, HF2.out, by first | exact trivial | rfl⟩, by simp [intOf]; omega⟩
              · have ht : (x.toList == s.toList) = false := by rw [hbq]; exact decide_eq_false hxs
                have HF2 := Lib.hid (HF.out.skip hxi hxs)
                clear hbq hxs hxi
                go_wp2_with fail
                exact ⟨⟨i + 1, A, rfl, by go_num, by omega, HF2.out, by first | exact trivial | rfl⟩, by simp [intOf]; omega⟩
            · obtain rfl : i = L.length := by omega
              by_cases hA0 : A < 0
              · have hall : ∀ y ∈ L, delB c s (j : Int) y = false := fun y hy => delB_other (HF.out.none hA0 y hy)
                have hend : remOut c s l = (L, (j : Int)) := by rw [← HG.out, remG_stop _ _ _ _ hall]
                have Hend := Lib.hid hend
                clear hall hend
                go_wp2_with fail
                go_ret2
                exact ⟨_, by rw [Hend.out]; rfl, by rw [Hend.out]; exact hL, Hx.out⟩
              · obtain ⟨k, rfl, hkL, hrem⟩ := HF.out.some hA0
                have hrem2 := hrem _ Hd.out
                have Hrem2 := Lib.hid hrem2
                clear hrem hrem2 hA0
                have hne : L ≠ [] := by rintro rfl; simp at hkL
                obtain ⟨g, o, u0, rfl, _, _⟩ := hL.at1 rfl (List.getElem?_eq_getElem hkL)
                have hA : ([] : List ByteArray).length + (L.take k).length ≤ maxLen := by unfold maxLen; simp; omega
                have hB : (([] : List ByteArray).length + (L.take k).length) * 16 ≤ 140737488355328 := by simp; omega
                have hA2' : (L.take k).length + (L.drop (k + 1)).length ≤ maxLen := by unfold maxLen; simp; omega
                have hB2' : ((L.take k).length + (L.drop (k + 1)).length) * 16 ≤ 140737488355328 := by simp; omega
                have Hlk : Hid ((L.take k).length = k) := Lib.hid (by rw [List.length_take]; omega)
                have HA := Lib.hid hA
                have HB := Lib.hid hB
                have HA2 := Lib.hid hA2'
                have HB2 := Lib.hid hB2'
                have hbase : w.heap.size ≤ wr.heap.size := Hx.out.size
                have Htk := Lib.hid (hL.take k (by omega))
                clear hA hB hA2' hB2' hne
                by_cases hcap : cap = k + 1
                · have Hnil : Hid (L.drop (k + 1) = []) := Lib.hid (List.drop_of_length_le (by omega))
                  subst hcap
                  have HA3 : Hid ((L.take k).length + ([] : List ByteArray).length ≤ maxLen) := Lib.hid (by unfold maxLen; simp; omega)
                  have HB3 : Hid (((L.take k).length + ([] : List ByteArray).length) * 16 ≤ 140737488355328) := Lib.hid (by simp; omega)
                  go_wp2_with (at_builtin; first | (refine append_ext (w0 := w) rfl (.tmp 57) (.tmp 60) rfl el_S rStr_one rStr_flat (.slice none 0 0) [] rfl (Own.nil rStr w.heap.size 9 wr) _ (L.take k) rfl Htk.out HA.out HB.out hbase Hx.out (Nat.le_refl _) ?_; intro v1 w1 hown1 hx1 hb1 hg1; rw [List.nil_append] at hown1; obtain ⟨A1, c1, hv1, _, _, _, _⟩ := id hown1.slice; rw [Hlk.out] at hv1; subst hv1) | (refine append_ext (w0 := w) rfl (.tmp 62) (.tmp 66) rfl el_S rStr_one rStr_flat _ (L.take k) rfl hown1 (.slice (some ⟨g, o, none⟩) 0 0) [] rfl ⟨some ⟨g, o, none⟩, 0, rfl, by simp, by simp [maxLen], by simp, fun h => absurd rfl h⟩ HA3.out HB3.out hb1 hx1 (Nat.le_refl _) ?_; intro v2 w2 hown2 hx2 hb2 hg2; rw [List.append_nil] at hown2))
                  exact ⟨⟨j + 1, L.take k, by go_num, by go_num, by simp; omega, hown2.slice, by rw [← HG.out, Hrem2.out, Hnil.out, List.append_nil]; rfl, hx2⟩, by simp [intOf]; omega⟩
                · have Hdk := Lib.hid (hL.drop rfl (k + 1) (by omega) (o + (k + 1)) (by rw [if_neg hcap]))
                  go_wp2_with (at_builtin; first | (refine append_ext (w0 := w) rfl (.tmp 57) (.tmp 60) rfl el_S rStr_one rStr_flat (.slice none 0 0) [] rfl (Own.nil rStr w.heap.size 9 wr) _ (L.take k) rfl Htk.out HA.out HB.out hbase Hx.out (Nat.le_refl _) ?_; intro v1 w1 hown1 hx1 hb1 hg1; rw [List.nil_append] at hown1; obtain ⟨A1, c1, hv1, _, _, _, _⟩ := id hown1.slice; rw [Hlk.out] at hv1; subst hv1) | (refine append_ext (w0 := w) rfl (.tmp 62) (.tmp 66) rfl el_S rStr_one rStr_flat _ (L.take k) rfl hown1 _ (L.drop (k + 1)) rfl (Hdk.out.mono rStr_mono ((Ext.refl wr).grown hg1 (Nat.le_refl _) (fun k hk => by cases hk))) HA2.out HB2.out hb1 hx1 (Nat.le_refl _) ?_; intro v2 w2 hown2 hx2 hb2 hg2))
                  exact ⟨⟨j + 1, L.take k ++ L.drop (k + 1), by go_num, by go_num, by simp; omega, hown2.slice, by rw [← HG.out, Hrem2.out]; rfl, hx2⟩, by simp [intOf]; omega⟩
end Go.Proofs.Ytlobedanjbcfkaa
