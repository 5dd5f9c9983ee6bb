/-
  list.Find, walked.
-/
import Derived.Test.YtlobedanjbcfkaaListO
import Derived.Test.YtlobedanjbcfkaaListK
import Derived.Test.YtlobedanjbcfkaaListG
set_option linter.unusedVariables false
set_option linter.unusedSimpArgs false
namespace Go.Proofs.Ytlobedanjbcfkaa
open Go.RowKit Go.Proofs

theorem slice_oneI {g : Nat} (w : World) (hg : g = w.heap.size) (b : Int) (wb : (Lit.int .i64 b).wf = true) (t : TypeId) :
    SliceOf (rInt .i64) (w.alloc (.cells #[.int .i64 b] t)) (.slice (some ⟨g, 0, none⟩) 1 1) [b] :=
  sliceOf_one rfl w hg _ t b ⟨rfl, wb⟩
set_option maxRecDepth 100000 in
set_option maxHeartbeats 1000000 in
theorem find_any (v : Value) (l : List ByteArray) (s : ByteArray) (r m : Int) (w : World) (hv : SliceOf rStr w v l) (hl : l.length ≤ 1000) (hr : Fits r) (hm : Fits m) :
    Calls Try.prog 24 #[v, .string s, .int .i64 r, .int .i64 m] w fun e w' => ∃ v', e = .returned v' ∧ SliceOf (rInt .i64) w' v' (findOut l s r m) ∧ Ext w w' := by
  obtain ⟨a, cap, rfl, hle, hcm, h0, _⟩ := id hv
  unfold maxLen at hcm
  go_enter Try.func24, Try.ntmps24
  go_wp2_with fail
  go_loopw [9, 10, 11, 15] (fun o _ _ i wr => ∃ k : Nat, i = .int .i64 (k : Int) ∧ k ≤ l.length ∧ Own (rInt .i64) w.heap.size 3 wr o (occK s l k) ∧ Ext w wr) (fun _ _ _ i _ => l.length - (intOf i).toNat)
  case atStart => exact ⟨0, rfl, by omega, Own.nil _ _ _ _, Ext.refl _⟩
  case round =>
    obtain ⟨k, rfl, hk, hown, hx⟩ := hrel
    by_cases hlt : k < l.length
    · obtain ⟨x, hxk⟩ : ∃ x, l[k]? = some x := ⟨_, List.getElem?_eq_getElem hlt⟩
      obtain ⟨g, o, u, rfl, hu0, hu'⟩ := hv.at1 rfl hxk
      have hu1 := hu'.1
      obtain rfl : u = .string x := by simpa using hu1
      have hu := Ext.cell hx hu0
      clear hu' hu1 hu0
      have hbq := lstr_beq x s
      have hsn := occK_succ s l k
      have hlen := occK_length s l k
      by_cases hxs : x = s
      · have ht : (x.toList == s.toList) = true := by rw [hbq]; exact decide_eq_true hxs
        rw [hxk, hxs, if_pos rfl] at hsn
        have Hsn := Lib.hid hsn
        have hA : (occK s l k).length + [(k : Int)].length ≤ maxLen := by unfold maxLen; simp; omega
        have hB : ((occK s l k).length + [(k : Int)].length) * 8 ≤ 140737488355328 := by simp; omega
        have Wk : Hid ((Lit.int .i64 (k : Int)).wf = true) := Lib.hid (by simp [Lit.wf, IntKind.min, IntKind.max, IntKind.signed, IntKind.bits]; omega)
        have HA := Lib.hid hA
        have HB := Lib.hid hB
        have hbase : w.heap.size ≤ wr.heap.size := hx.size
        clear hsn hlen hbq hxs hxk hA hB
        go_wp2_with (at_builtin; go_loud (refine append_ext (w0 := w) rfl (.tmp 23) (.tmp 25) rfl el_I (rInt_one .i64) (rInt_flat .i64) _ _ rfl (hown.mono (rInt_mono .i64) ((Ext.refl _).alloc _)) _ [(k : Int)] rfl (slice_oneI _ rfl (k : Int) Wk.out _) HA.out HB.out (by simp; omega) (hx.alloc _) (Nat.le_refl _) ?_); intro v1 w1 hown1 hx1 hb1 hg1)
        exact ⟨⟨k + 1, by go_num, by omega, by rw [Hsn.out]; exact hown1, hx1⟩, by simp [intOf]; omega⟩
      · have ht : (x.toList == s.toList) = false := by rw [hbq]; exact decide_eq_false hxs
        rw [hxk, if_neg (by simpa using hxs), List.append_nil] at hsn
        have Hsn := Lib.hid hsn
        clear hsn hlen hbq hxs hxk
        go_wp2_with fail
        exact ⟨⟨k + 1, by go_num, by omega, by rw [Hsn.out]; exact hown, hx⟩, by simp [intOf]; omega⟩
    · obtain rfl : k = l.length := by omega
      have hol := occK_length s l l.length
      have hbase := hx.size
      by_cases hneg : r < 0
      · obtain ⟨d, rfl⟩ : ∃ d : Nat, r = -(d : Int) - 1 := ⟨(-(r + 1)).toNat, by omega⟩
        have hF : findOut l s (-(d : Int) - 1) m = mostOf m ((occK s l l.length).reverse.drop d) := by
          unfold findOut skipOf
          rw [if_neg (by omega), if_pos hneg, if_pos hneg, occR_zero]
          congr 2; omega
        have hz0 : (-(d : Int) - 1 == 0) = false := beq_eq_false_iff_ne.2 (by omega)
        obtain ⟨hr1, hr2⟩ := hr
        have hlenO : (occK s l l.length).reverse.length = (occK s l l.length).length := by simp
        generalize occK s l l.length = O at hown hF hol hlenO
        obtain ⟨a2, c2, rfl, hle2, hcm2, h02, _⟩ := id hown.slice
        unfold maxLen at hcm2
        go_wp2_with fail
        refine (reverse_I _ _ w _ w.heap.size (Nat.le_refl _) hx hown).mono ?_
        rintro e w3 ⟨⟨u, rfl⟩, hown3, hsz3, hx3, _⟩
        clear hown
        generalize O.reverse = X at hown3 hF hlenO
        have hXl := hlenO
        clear hlenO
        have HXl := Lib.hid hXl
        have HF := Lib.hid hF
        clear hF
        by_cases hd : d < O.length
        · obtain ⟨g2, cap2, e2, _⟩ := hown3.form (by intro e; have hXl := HXl.out; rw [e] at hXl; simp at hXl; omega)
          obtain rfl : a2 = some ⟨g2, 0, none⟩ := by injection e2
          have hcd : ¬ (c2 = d) := by omega
          have hs3 := hown3.slice.drop rfl d (by omega) (0 + d) (by rw [if_neg (by omega)])
          rw [Nat.zero_add] at hs3
          clear e2 hown3 h02
          by_cases hm1 : 0 < m
          · obtain ⟨q, rfl⟩ : ∃ q : Nat, m = (q : Int) := ⟨m.toNat, by omega⟩
            by_cases hm2 : q < O.length - d
            · have hs4 := hs3.take q (by omega)
              have HG := Lib.hid (show mostOf (q : Int) (X.drop d) = (X.drop d).take q by unfold mostOf; rw [if_neg (by omega)]; rfl)
              have hln : ((X.drop d).take q).length ≤ 1000000 := by simp; omega
              clear hs3
              go_wp2_with fail
              refine (clone_I _ _ _ hs4 hln).mono ?_
              rintro e w4 ⟨v4, rfl, hown4, hx4⟩
              go_wp2_with fail
              go_ret
              exact ⟨_, rfl, by rw [HF.out, HG.out]; exact hown4.slice, hx3.then hx4⟩
            · have HG := Lib.hid (show mostOf (q : Int) (X.drop d) = X.drop d by unfold mostOf; rw [if_neg (by omega), List.take_of_length_le (by simp; omega)])
              have hln : (X.drop d).length ≤ 1000000 := by simp; omega
              go_wp2_with fail
              refine (clone_I _ _ _ hs3 hln).mono ?_
              rintro e w4 ⟨v4, rfl, hown4, hx4⟩
              go_wp2_with fail
              go_ret
              exact ⟨_, rfl, by rw [HF.out, HG.out]; exact hown4.slice, hx3.then hx4⟩
          · have HG := Lib.hid (show mostOf m (X.drop d) = X.drop d by unfold mostOf; rw [if_pos (by omega)])
            have hln : (X.drop d).length ≤ 1000000 := by simp; omega
            go_wp2_with fail
            refine (clone_I _ _ _ hs3 hln).mono ?_
            rintro e w4 ⟨v4, rfl, hown4, hx4⟩
            go_wp2_with fail
            go_ret
            exact ⟨_, rfl, by rw [HF.out, HG.out]; exact hown4.slice, hx3.then hx4⟩
        · go_wp2_with fail
          go_ret
          exact ⟨_, rfl, by rw [HF.out, List.drop_of_length_le (by have := HXl.out; omega), mostOf_nil]; exact sliceOf_nil _ _, hx3⟩
      · by_cases hz : r = 0
        · subst hz
          have HF := Lib.hid (show findOut l s 0 m = [] from if_pos rfl)
          generalize occK s l l.length = O at hown hol
          obtain ⟨a2, c2, rfl, hle2, hcm2, h02, _⟩ := id hown.slice
          go_wp2_with fail
          go_ret
          exact ⟨_, rfl, by rw [HF.out]; exact sliceOf_nil _ _, hx⟩
        · obtain ⟨d, hd1⟩ : ∃ d : Nat, r - 1 = (d : Int) := ⟨(r - 1).toNat, by omega⟩
          have hF : findOut l s r m = mostOf m ((occK s l l.length).drop d) := by
            unfold findOut skipOf
            rw [if_neg (by omega), if_neg hneg, if_neg hneg]
            congr 2; omega
          have hz0 : (r == 0) = false := beq_eq_false_iff_ne.2 hz
          have hrp : 0 < r := by omega
          obtain ⟨hr1, hr2⟩ := hr
          clear hneg hz
          have hown3 := hown
          have hx3 := hx
          generalize occK s l l.length = O at hown3 hF hol hown
          obtain ⟨a2, c2, rfl, hle2, hcm2, h02, _⟩ := id hown3.slice
          unfold maxLen at hcm2
          clear hown
          obtain ⟨X, rfl⟩ : ∃ X, X = O := ⟨_, rfl⟩
          have HF := Lib.hid hF
          clear hF
          by_cases hd : d < X.length
          · obtain ⟨g2, cap2, e2, _⟩ := hown3.form (by intro e; rw [e] at hd; simp at hd)
            obtain rfl : a2 = some ⟨g2, 0, none⟩ := by injection e2
            have hcd : ¬ (c2 = d) := by omega
            have hs3 := hown3.slice.drop rfl d (by omega) (0 + d) (by rw [if_neg (by omega)])
            rw [Nat.zero_add] at hs3
            clear e2 hown3 h02
            by_cases hm1 : 0 < m
            · obtain ⟨q, rfl⟩ : ∃ q : Nat, m = (q : Int) := ⟨m.toNat, by omega⟩
              by_cases hm2 : q < X.length - d
              · have hs4 := hs3.take q (by omega)
                have HG := Lib.hid (show mostOf (q : Int) (X.drop d) = (X.drop d).take q by unfold mostOf; rw [if_neg (by omega)]; rfl)
                have hln : ((X.drop d).take q).length ≤ 1000000 := by simp; omega
                clear hs3
                go_wp2_with fail
                refine (clone_I _ _ _ hs4 hln).mono ?_
                rintro e w4 ⟨v4, rfl, hown4, hx4⟩
                go_wp2_with fail
                go_ret
                exact ⟨_, rfl, by rw [HF.out, HG.out]; exact hown4.slice, hx3.then hx4⟩
              · have HG := Lib.hid (show mostOf (q : Int) (X.drop d) = X.drop d by unfold mostOf; rw [if_neg (by omega), List.take_of_length_le (by simp; omega)])
                have hln : (X.drop d).length ≤ 1000000 := by simp; omega
                go_wp2_with fail
                refine (clone_I _ _ _ hs3 hln).mono ?_
                rintro e w4 ⟨v4, rfl, hown4, hx4⟩
                go_wp2_with fail
                go_ret
                exact ⟨_, rfl, by rw [HF.out, HG.out]; exact hown4.slice, hx3.then hx4⟩
            · have HG := Lib.hid (show mostOf m (X.drop d) = X.drop d by unfold mostOf; rw [if_pos (by omega)])
              have hln : (X.drop d).length ≤ 1000000 := by simp; omega
              go_wp2_with fail
              refine (clone_I _ _ _ hs3 hln).mono ?_
              rintro e w4 ⟨v4, rfl, hown4, hx4⟩
              go_wp2_with fail
              go_ret
              exact ⟨_, rfl, by rw [HF.out, HG.out]; exact hown4.slice, hx3.then hx4⟩
          · go_wp2_with fail
            go_ret
            exact ⟨_, rfl, by rw [HF.out, List.drop_of_length_le (by omega), mostOf_nil]; exact sliceOf_nil _ _, hx3⟩
end Go.Proofs.Ytlobedanjbcfkaa
