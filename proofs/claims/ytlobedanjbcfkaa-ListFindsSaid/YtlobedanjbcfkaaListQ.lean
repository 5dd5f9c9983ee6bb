/-
  The reference's Find, walked.
-/
import Derived.Test.YtlobedanjbcfkaaListP
set_option linter.unusedVariables false
set_option linter.unusedSimpArgs false
namespace Go.Proofs.Ytlobedanjbcfkaa
open Go.RowKit Go.Proofs

theorem wf_nat {k : Nat} (h : k ≤ 1000000) : (Lit.int .i64 (k : Int)).wf = true := by simp [Lit.wf, IntKind.min, IntKind.max, IntKind.signed, IntKind.bits]; omega
/-- what is found, k places seen -/
theorem fore_same {s : ByteArray} {l : List ByteArray} {k : Nat} {x : ByteArray} (hx : l[k]? = some x) (hxs : x ≠ s) : occK s l (k + 1) = occK s l k := by
  rw [occK_succ, hx, if_neg (by simpa using hxs), List.append_nil]
theorem fore_hit {s : ByteArray} {l : List ByteArray} {k : Nat} (hx : l[k]? = some s) : occK s l (k + 1) = occK s l k ++ [(k : Int)] := by
  rw [occK_succ, hx, if_pos rfl]
theorem back_same {s : ByteArray} {l : List ByteArray} {k : Nat} {x : ByteArray} (hk : k < l.length) (hx : l[k]? = some x) (hxs : x ≠ s) : occR s l k = occR s l (k + 1) := by
  rw [occR_succ s l k hk, hx, if_neg (by simpa using hxs), List.append_nil]
theorem back_hit {s : ByteArray} {l : List ByteArray} {k : Nat} (hk : k < l.length) (hx : l[k]? = some s) : occR s l k = occR s l (k + 1) ++ [(k : Int)] := by
  rw [occR_succ s l k hk, hx, if_pos rfl]
theorem most_early {m : Int} {d : Nat} {x : List Int} {i : Int} (h : ¬ d ≤ x.length) : mostOf m ((x ++ [i]).drop d) = mostOf m (x.drop d) := by
  rw [drop_snoc, if_neg h, List.drop_of_length_le (by omega)]
theorem most_more {m : Int} {d : Nat} {x : List Int} {i : Int} (h : d ≤ x.length) (hm : m < 1 ∨ ((mostOf m (x.drop d)).length : Int) < m) : mostOf m ((x ++ [i]).drop d) = mostOf m (x.drop d) ++ [i] := by
  rw [drop_snoc, if_pos h, mostOf_snoc, if_pos hm]
theorem most_full {m : Int} {d : Nat} {x : List Int} {i : Int} (h : d ≤ x.length) (hm : ¬ (m < 1 ∨ ((mostOf m (x.drop d)).length : Int) < m)) : mostOf m ((x ++ [i]).drop d) = mostOf m (x.drop d) := by
  rw [drop_snoc, if_pos h, mostOf_snoc, if_neg hm]
theorem most_len (m : Int) (d : Nat) (x : List Int) : (mostOf m (x.drop d)).length ≤ x.length := by
  have := mostOf_length m (x.drop d)
  rw [List.length_drop] at this
  omega

set_option maxRecDepth 100000 in
set_option maxHeartbeats 1000000 in
theorem reffind_any (v : Value) (l : List ByteArray) (s : ByteArray) (r m : Int) (w : World) (hv : SliceOf rStr w v l) (hl : l.length ≤ 1000) (hr : Fits r) (hm : Fits m) :
    Calls Try.prog 25 #[v, .string s, .int .i64 r, .int .i64 m] w fun e w' => ∃ v', e = .returned v' ∧ SliceOf (rInt .i64) w' v' (findOut l s r m) ∧ Ext w w' := by
  obtain ⟨a, cap, rfl, hle, hcm, h0, _⟩ := id hv
  unfold maxLen at hcm
  obtain ⟨hm1, hm2⟩ := hm
  by_cases hpos : 0 < r
  · have hnn : ¬ r < 0 := by omega
    obtain ⟨d, hd1⟩ : ∃ d : Nat, r - 1 = (d : Int) := ⟨(r - 1).toNat, by omega⟩
    have hF : findOut l s r m = mostOf m ((occK s l l.length).drop d) := by
      unfold findOut skipOf
      rw [if_neg (by omega), if_neg hnn, if_neg hnn]
      congr 2; omega
    have HF := Lib.hid hF
    clear hF
    go_enter Try.func25, Try.ntmps25
    go_wp2_with fail
    go_loopw [9, 10, 11] (fun o n i wr => ∃ k : Nat, i = .int .i64 (k : Int) ∧ k ≤ l.length ∧ n = .int .i64 ((occK s l k).length : Int) ∧ Own (rInt .i64) w.heap.size 3 wr o (mostOf m ((occK s l k).drop d)) ∧ Ext w wr) (fun _ _ i _ => l.length - (intOf i).toNat)
    case atStart => exact ⟨0, rfl, by omega, rfl, by rw [show occK s l 0 = [] from rfl, List.drop_nil, mostOf_nil]; exact Own.nil _ _ _ _, Ext.refl _⟩
    case round =>
      obtain ⟨k, rfl, hk, rfl, hown, hx⟩ := hrel
      by_cases hlt : k < l.length
      · obtain ⟨x, hxk⟩ : ∃ x, l[k]? = some x := ⟨_, List.getElem?_eq_getElem hlt⟩
        obtain ⟨g, o, u, rfl, hu0, hu'⟩ := hv.at1 rfl hxk
        have hu1 := hu'.1
        obtain rfl : u = .string x := by simpa using hu1
        have hu := Ext.cell hx hu0
        clear hu' hu1 hu0
        have hbq := lstr_beq x s
        have hlen := occK_length s l k
        have hmln := most_len m d (occK s l k)
        obtain ⟨a2, c2, rfl, hle2, hcm2, h02, _⟩ := id hown.slice
        unfold maxLen at hcm2
        by_cases hxs : x = s
        · have ht : (x.toList == s.toList) = true := by rw [hbq]; exact decide_eq_true hxs
          subst hxs
          have hsn := fore_hit hxk
          have hsl : ((occK x l (k + 1)).length : Int) = ((occK x l k).length : Int) + 1 := by rw [hsn]; simp
          have Hsl := Lib.hid hsl
          have Hsn := Lib.hid hsn
          clear hbq hxk hsl hsn
          by_cases hdl : d ≤ (occK x l k).length
          · have hdl2 : r ≤ ((occK x l k).length : Int) + 1 := by omega
            have hA : (mostOf m ((occK x l k).drop d)).length + [(k : Int)].length ≤ maxLen := by unfold maxLen; simp; omega
            have hB : ((mostOf m ((occK x l k).drop d)).length + [(k : Int)].length) * 8 ≤ 140737488355328 := by simp; omega
            have Wk : Hid ((Lit.int .i64 (k : Int)).wf = true) := Lib.hid (wf_nat (by omega))
            have HA := Lib.hid hA
            have HB := Lib.hid hB
            have hbase : w.heap.size ≤ wr.heap.size := hx.size
            clear hA hB
            by_cases hm3 : m < 1
            · have hO : mostOf m ((occK x l (k + 1)).drop d) = mostOf m ((occK x l k).drop d) ++ [(k : Int)] := by rw [Hsn.out]; exact most_more hdl (.inl hm3)
              have HO := Lib.hid hO
              clear hO
              go_wp2_with (at_builtin; go_loud (refine append_ext (w0 := w) rfl (.tmp 42) (.tmp 44) rfl el_I (rInt_one .i64) (rInt_flat .i64) _ _ rfl (hown.mono (rInt_mono .i64) ((Ext.refl _).alloc _)) _ [(k : Int)] rfl (slice_oneI _ rfl (k : Int) Wk.out _) HA.out HB.out (by simp; omega) (hx.alloc _) (Nat.le_refl _) ?_); intro v1 w1 hown1 hx1 hb1 hg1)
              exact ⟨⟨k + 1, by go_num, by omega, by rw [Hsl.out], by rw [HO.out]; exact hown1, hx1⟩, by simp [intOf]; omega⟩
            · by_cases hm4 : ((mostOf m ((occK x l k).drop d)).length : Int) < m
              · have hO : mostOf m ((occK x l (k + 1)).drop d) = mostOf m ((occK x l k).drop d) ++ [(k : Int)] := by rw [Hsn.out]; exact most_more hdl (.inr hm4)
                have HO := Lib.hid hO
                clear hO
                go_wp2_with (at_builtin; go_loud (refine append_ext (w0 := w) rfl (.tmp 42) (.tmp 44) rfl el_I (rInt_one .i64) (rInt_flat .i64) _ _ rfl (hown.mono (rInt_mono .i64) ((Ext.refl _).alloc _)) _ [(k : Int)] rfl (slice_oneI _ rfl (k : Int) Wk.out _) HA.out HB.out (by simp; omega) (hx.alloc _) (Nat.le_refl _) ?_); intro v1 w1 hown1 hx1 hb1 hg1)
                exact ⟨⟨k + 1, by go_num, by omega, by rw [Hsl.out], by rw [HO.out]; exact hown1, hx1⟩, by simp [intOf]; omega⟩
              · have hO : mostOf m ((occK x l (k + 1)).drop d) = mostOf m ((occK x l k).drop d) := by rw [Hsn.out]; exact most_full hdl (by omega)
                have HO := Lib.hid hO
                clear hO
                go_wp2_with fail
                exact ⟨⟨k + 1, by go_num, by omega, by rw [Hsl.out], by rw [HO.out]; exact hown, hx⟩, by simp [intOf]; omega⟩
          · have hdl2 : ¬ r ≤ ((occK x l k).length : Int) + 1 := by omega
            have hO : mostOf m ((occK x l (k + 1)).drop d) = mostOf m ((occK x l k).drop d) := by rw [Hsn.out]; exact most_early hdl
            have HO := Lib.hid hO
            clear hO
            go_wp2_with fail
            exact ⟨⟨k + 1, by go_num, by omega, by rw [Hsl.out], by rw [HO.out]; exact hown, hx⟩, by simp [intOf]; omega⟩
        · have ht : (x.toList == s.toList) = false := by rw [hbq]; exact decide_eq_false hxs
          have Hsn := Lib.hid (fore_same hxk hxs)
          clear hlen hbq hxs hxk
          go_wp2_with fail
          exact ⟨⟨k + 1, by go_num, by omega, by rw [Hsn.out], by rw [Hsn.out]; exact hown, hx⟩, by simp [intOf]; omega⟩
      · obtain rfl : k = l.length := by omega
        go_wp2_with fail
        go_ret
        exact ⟨_, rfl, by rw [HF.out]; exact hown.slice, hx⟩
  · by_cases hz : r = 0
    · subst hz
      have HF := Lib.hid (show findOut l s 0 m = [] from if_pos rfl)
      go_enter Try.func25, Try.ntmps25
      go_wp2_with fail
      go_ret
      exact ⟨_, rfl, by rw [HF.out]; exact sliceOf_nil _ _, Ext.refl _⟩
    · have hneg : r < 0 := by omega
      obtain ⟨d, hd1⟩ : ∃ d : Nat, r = -(d : Int) - 1 := ⟨(-(r + 1)).toNat, by omega⟩
      have hF : findOut l s r m = mostOf m ((occR s l 0).drop d) := by
        unfold findOut skipOf
        rw [if_neg hz, if_pos hneg, if_pos hneg]
        congr 2; omega
      have HF := Lib.hid hF
      have Hd1 := Lib.hid hd1
      clear hF hd1 hz
      go_enter Try.func25, Try.ntmps25
      go_wp2_with fail
      go_loopw [9, 10, 12] (fun o n i wr => ∃ k : Nat, i = .int .i64 ((k : Int) - 1) ∧ k ≤ l.length ∧ n = .int .i64 (-((occR s l k).length : Int)) ∧ Own (rInt .i64) w.heap.size 3 wr o (mostOf m ((occR s l k).drop d)) ∧ Ext w wr) (fun _ _ i _ => (intOf i + 1).toNat)
      case atStart => exact ⟨l.length, rfl, by omega, by rw [occR_end]; rfl, by rw [occR_end, List.drop_nil, mostOf_nil]; exact Own.nil _ _ _ _, Ext.refl _⟩
      case round =>
        obtain ⟨k', rfl, hk, rfl, hown, hx⟩ := hrel
        by_cases hk0 : k' = 0
        · subst hk0
          go_wp2_with fail
          go_ret
          exact ⟨_, rfl, by rw [HF.out]; exact hown.slice, hx⟩
        · obtain ⟨k, rfl⟩ : ∃ k, k' = k + 1 := ⟨k' - 1, by omega⟩
          have hke : ((k + 1 : Nat) : Int) - 1 = (k : Int) := by omega
          rw [hke]
          have hlt : k < l.length := by omega
          obtain ⟨x, hxk⟩ : ∃ x, l[k]? = some x := ⟨_, List.getElem?_eq_getElem hlt⟩
          obtain ⟨g, o, u, rfl, hu0, hu'⟩ := hv.at1 rfl hxk
          have hu1 := hu'.1
          obtain rfl : u = .string x := by simpa using hu1
          have hu := Ext.cell hx hu0
          clear hu' hu1 hu0 hke hk0
          have hbq := lstr_beq x s
          have hlen := occR_length s l (k + 1)
          have hmln := most_len m d (occR s l (k + 1))
          obtain ⟨a2, c2, rfl, hle2, hcm2, h02, _⟩ := id hown.slice
          unfold maxLen at hcm2
          by_cases hxs : x = s
          · have ht : (x.toList == s.toList) = true := by rw [hbq]; exact decide_eq_true hxs
            subst hxs
            have hsn := back_hit hlt hxk
            have hsl : ((occR x l k).length : Int) = ((occR x l (k + 1)).length : Int) + 1 := by rw [hsn]; simp
            have Hsl := Lib.hid hsl
            have Hsn := Lib.hid hsn
            clear hbq hxk hsl hsn
            generalize hP : occR x l (k + 1) = P at hown hlen hmln Hsl Hsn hle2
            clear hP
            by_cases hdl : d ≤ P.length
            · have hdl2 : -(P.length : Int) - 1 ≤ r := by have := Hd1.out; omega
              have hA : (mostOf m (P.drop d)).length + [(k : Int)].length ≤ maxLen := by unfold maxLen; simp; omega
              have hB : ((mostOf m (P.drop d)).length + [(k : Int)].length) * 8 ≤ 140737488355328 := by simp; omega
              have Wk : Hid ((Lit.int .i64 (k : Int)).wf = true) := Lib.hid (wf_nat (by omega))
              have HA := Lib.hid hA
              have HB := Lib.hid hB
              have hbase : w.heap.size ≤ wr.heap.size := hx.size
              clear hA hB
              by_cases hm3 : m < 1
              · have hO : mostOf m ((occR x l k).drop d) = mostOf m (P.drop d) ++ [(k : Int)] := by rw [Hsn.out]; exact most_more hdl (.inl hm3)
                have HO := Lib.hid hO
                clear hO
                go_wp2_with (at_builtin; go_loud (refine append_ext (w0 := w) rfl (.tmp 76) (.tmp 78) rfl el_I (rInt_one .i64) (rInt_flat .i64) _ _ rfl (hown.mono (rInt_mono .i64) ((Ext.refl _).alloc _)) _ [(k : Int)] rfl (slice_oneI _ rfl (k : Int) Wk.out _) HA.out HB.out (by simp; omega) (hx.alloc _) (Nat.le_refl _) ?_); intro v1 w1 hown1 hx1 hb1 hg1)
                exact ⟨⟨k, rfl, by omega, by rw [Hsl.out, Int.neg_add]; rfl, by rw [HO.out]; exact hown1, hx1⟩, by simp [intOf]⟩
              · by_cases hm4 : ((mostOf m (P.drop d)).length : Int) < m
                · have hO : mostOf m ((occR x l k).drop d) = mostOf m (P.drop d) ++ [(k : Int)] := by rw [Hsn.out]; exact most_more hdl (.inr hm4)
                  have HO := Lib.hid hO
                  clear hO
                  go_wp2_with (at_builtin; go_loud (refine append_ext (w0 := w) rfl (.tmp 76) (.tmp 78) rfl el_I (rInt_one .i64) (rInt_flat .i64) _ _ rfl (hown.mono (rInt_mono .i64) ((Ext.refl _).alloc _)) _ [(k : Int)] rfl (slice_oneI _ rfl (k : Int) Wk.out _) HA.out HB.out (by simp; omega) (hx.alloc _) (Nat.le_refl _) ?_); intro v1 w1 hown1 hx1 hb1 hg1)
                  exact ⟨⟨k, rfl, by omega, by rw [Hsl.out, Int.neg_add]; rfl, by rw [HO.out]; exact hown1, hx1⟩, by simp [intOf]⟩
                · have hO : mostOf m ((occR x l k).drop d) = mostOf m (P.drop d) := by rw [Hsn.out]; exact most_full hdl (by omega)
                  have HO := Lib.hid hO
                  clear hO
                  go_wp2_with fail
                  exact ⟨⟨k, rfl, by omega, by rw [Hsl.out, Int.neg_add]; rfl, by rw [HO.out]; exact hown, hx⟩, by simp [intOf]⟩
            · have hdl2 : ¬ -(P.length : Int) - 1 ≤ r := by have := Hd1.out; omega
              have hO : mostOf m ((occR x l k).drop d) = mostOf m (P.drop d) := by rw [Hsn.out]; exact most_early hdl
              have HO := Lib.hid hO
              clear hO
              go_wp2_with fail
              exact ⟨⟨k, rfl, by omega, by rw [Hsl.out, Int.neg_add]; rfl, by rw [HO.out]; exact hown, hx⟩, by simp [intOf]⟩
          · have ht : (x.toList == s.toList) = false := by rw [hbq]; exact decide_eq_false hxs
            have Hsn := Lib.hid (back_same hlt hxk hxs)
            clear hbq hxs hxk
            go_wp2_with fail
            exact ⟨⟨k, rfl, by omega, by rw [Hsn.out], by rw [Hsn.out]; exact hown, hx⟩, by simp [intOf]⟩
end Go.Proofs.Ytlobedanjbcfkaa
