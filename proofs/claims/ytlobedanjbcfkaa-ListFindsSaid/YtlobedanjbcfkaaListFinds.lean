/-
  The law ListFinds, walked.
-/
import Derived.Test.YtlobedanjbcfkaaListCuts
import Derived.Test.YtlobedanjbcfkaaListH
set_option linter.unusedVariables false
set_option linter.unusedSimpArgs false
namespace Go.Proofs.Ytlobedanjbcfkaa
open Go.RowKit Go.Proofs

def VF (v3 v4 v5 sv : Value) (s : ByteArray) (n n1 n2 : Int) (g : Nat) (F : List Int) (R : Bool) (i : Nat) (w' : World) (v : Value) : Prop :=
  match i with
  | 0 => v = v4
  | 1 => v = v5
  | 4 => v = .int .i64 n
  | 5 => v = .int .i64 n
  | 9 => v = v3
  | 10 => v = .string s
  | 11 => v = .pointer (some ⟨g, 1, none⟩)
  | 12 => v = .int .i64 n1
  | 13 => v = .pointer (some ⟨g, 2, none⟩)
  | 14 => v = .int .i64 n2
  | 15 => SliceOf (rInt .i64) w' v F
  | 16 => v = sv
  | 17 => v = .string s
  | 18 => v = .pointer (some ⟨g, 1, none⟩)
  | 19 => v = .int .i64 n1
  | 20 => v = .pointer (some ⟨g, 2, none⟩)
  | 21 => v = .int .i64 n2
  | 22 => SliceOf (rInt .i64) w' v F
  | 26 => v = v3
  | 27 => v = sv
  | 31 => v = sv
  | 32 => v = .bool R
  | 33 => v = .bool R
  | _ => v = .bool true
theorem VF_mono (v3 v4 v5 sv : Value) (s : ByteArray) (n n1 n2 : Int) (g : Nat) (F : List Int) (R : Bool) (i : Nat) (w1 w2 : World) (v : Value) (hR : Ext w1 w2) (h : VF v3 v4 v5 sv s n n1 n2 g F R i w1 v) : VF v3 v4 v5 sv s n n1 n2 g F R i w2 v := by
  by_cases h15 : i = 15
  · subst h15; exact SliceOf.mono (rInt_mono .i64) hR h
  · by_cases h22 : i = 22
    · subst h22; exact SliceOf.mono (rInt_mono .i64) hR h
    · unfold VF at h ⊢
      split at h <;> first | contradiction | exact h
set_option maxRecDepth 100000 in
set_option maxHeartbeats 2000000 in
theorem listFinds_walk (w : World) (v : Value) (l : List ByteArray) (hv : SliceOf rStr w v l) (s : ByteArray) (ws : s.size ≤ maxLen) (n0 n1 n2 : Int) (f0 : Fits n0) (f1 : Fits n1) (f2 : Fits n2) :
    Calls Try.prog 7 #[v, .string s, .agg #[.int .i64 n0, .int .i64 n1, .int .i64 n2]] w fun e w' => e = .returned (.bool true) ∧ Ext w w' := by
  obtain ⟨a, cap, rfl, hle, hcm, h0, _⟩ := id hv
  unfold maxLen at hcm
  have F0 := Lib.hid f0
  have F1 := Lib.hid f1
  have F2 := Lib.hid f2
  clear f0 f1 f2
  cases hsh : shortB l 300 with
  | false =>
    have Hsh := Lib.hid hsh
    clear hsh
    go_enter Try.func7, Try.ntmps7
    go_wp2_with fail
    refine (awake11 _).mono ?_
    rintro e w1 ⟨rfl, hx1⟩
    have hx01 := ((Ext.refl w).alloc _).then hx1
    go_wp2_with fail
    refine (short_any _ l _ (hv.mono rStr_mono hx01) 300 (by omega)).mono ?_
    rintro e w2 ⟨rfl, hw2⟩
    rw [hw2, Hsh.out]
    clear hw2
    go_wp2_with fail
    refine (awake11 _).mono ?_
    rintro e w3 ⟨rfl, hx3⟩
    go_wp2
    go_ret
    exact ⟨rfl, hx01.then hx3⟩
  | true =>
    have hl3 := short_len hsh
    have Hsh := Lib.hid hsh
    clear hsh
    go_enter Try.func7, Try.ntmps7
    go_wp2_with fail
    refine (awake11 _).mono ?_
    rintro e w1 ⟨rfl, hx1⟩
    have hx01 := ((Ext.refl w).alloc _).then hx1
    have hv1 := hv.mono rStr_mono hx01
    have hc1 : ∀ (j : Nat) (x : Int), [n0, n1, n2][j]? = some x → w1.cell? ⟨w.heap.size, j, none⟩ = some (.int .i64 x) := fun j x hj => by
      refine hx1.cell ?_
      have e1 := heap_alloc_new w (.cells #[Value.int .i64 n0, .int .i64 n1, .int .i64 n2] 36)
      simp only [World.cell?, e1]
      match j, hj with
      | 0, hj => simp at hj; simp [hj]
      | 1, hj => simp at hj; simp [hj]
      | 2, hj => simp at hj; simp [hj]
    clear hx1
    have hA : ([] : List ByteArray).length + l.length ≤ maxLen := by unfold maxLen; simp; omega
    have hB : (([] : List ByteArray).length + l.length) * 16 ≤ 140737488355328 := by simp; omega
    have HA := Lib.hid hA
    have HB := Lib.hid hB
    clear hA hB
    go_wp2_with fail
    refine (short_any _ l _ hv1 300 (by omega)).mono ?_
    rintro e w2 ⟨rfl, hw2⟩
    rw [hw2, Hsh.out]
    clear hw2
    have own0 := Own.lit0 rStr 9 w1 rfl (Nat.le_refl _)
    go_wp2_with (at_builtin; (refine append_ext (w0 := w1) rfl (.tmp 22) (.tmp 23) rfl el_S rStr_one rStr_flat (.slice (some ⟨w1.heap.size, 0, none⟩) 0 0) [] rfl own0 _ l rfl (hv1.mono rStr_mono ((Ext.refl _).alloc _)) HA.out HB.out (by simp) ((Ext.refl w1).alloc _) (Nat.le_refl _) ?_); intro v3 w3 hown3 hx3 hb3 hg3; have hcc3 := hx3.cell (hc1 0 n0 rfl); clear own0)
    rw [List.nil_append] at hown3
    have hs3 := hown3.slice
    have hv3 := hv1.mono rStr_mono hx3
    clear hown3 hg3 hcc3
    refine (remove_any _ l n0 s _ hs3 (by omega) F0.out).mono ?_
    rintro e w4 ⟨v4, rfl, hown4, hx4⟩
    have hs4 := hown4.slice
    have hx14 := hx3.then hx4
    have hcc4 := hx14.cell (hc1 0 n0 rfl)
    have hi4 := hs3.mono rStr_mono hx4
    have hv4 := hv3.mono rStr_mono hx4
    clear hown4 hs3 hv3
    go_wp2_with fail
    refine (refremove_any _ l n0 s _ hv4 (by omega) F0.out).mono ?_
    rintro e w5 ⟨v5, rfl, hs5, hx5⟩
    have hx15 := hx14.then hx5
    have hs45 := hs4.mono rStr_mono hx5
    have hi5 := hi4.mono rStr_mono hx5
    have hv5 := hv4.mono rStr_mono hx5
    have hc5 : ∀ (j : Nat) (x : Int), [n0, n1, n2][j]? = some x → w5.cell? ⟨w.heap.size, j, none⟩ = some (.int .i64 x) := fun j x hj => hx15.cell (hc1 j x hj)
    have hxw5 := hx01.then hx15
    have Hc5 := Lib.hid hc5
    clear hc5 hcc4 hx14 hx15 hc1 hx4 hx5 hx3 hi4 hv4 hs4 hx01
    go_wp2_with fail
    go_loopw [12, 13] (fun r i wr => ∃ k : Nat, i = .int .i64 (k : Int) ∧ k ≤ l.length ∧ r = .bool ((l.take k).all fun x => !longB x) ∧ wr = w5) (fun _ i _ => l.length - (intOf i).toNat)
    case atStart => exact ⟨0, rfl, by omega, by rw [decide_eq_true (by omega)]; rfl, rfl⟩
    case round =>
      obtain ⟨k, rfl, hk, rfl, rfl⟩ := hrel
      by_cases hlt : k < l.length
      · obtain ⟨x, hxk⟩ : ∃ x, l[k]? = some x := ⟨_, List.getElem?_eq_getElem hlt⟩
        obtain ⟨g, o, u, rfl, hu, hu'⟩ := hv5.at1 rfl hxk
        have hu1 := hu'.1
        have hxs := hu'.2
        unfold maxLen at hxs
        obtain rfl : u = .string x := by simpa using hu1
        have htk : (l.take (k + 1)).all (fun x => !longB x) = ((l.take k).all (fun x => !longB x) && !longB x) := by
          rw [List.take_add_one, hxk, List.all_append]; simp
        clear hu' hu1
        generalize (l.take k).all (fun x => !longB x) = r at htk
        cases r with
        | false =>
          have Htk := Lib.hid htk
          clear htk
          go_wp2_with fail
          exact ⟨⟨k + 1, by go_num, by omega, by rw [Htk.out, Bool.false_and], trivial⟩, by simp [intOf]; omega⟩
        | true =>
          by_cases hlg : x.size ≤ 4096
          · have hlb : longB x = false := decide_eq_false (by omega)
            have Htk : Hid ((l.take (k + 1)).all (fun x => !longB x) = true) := Lib.hid (by rw [htk, hlb]; rfl)
            clear htk hlb
            go_wp2_with fail
            exact ⟨⟨k + 1, by go_num, by omega, by rw [Htk.out, decide_eq_true (by omega)], trivial⟩, by simp [intOf]; omega⟩
          · have hlb : longB x = true := decide_eq_true (by omega)
            have Htk : Hid ((l.take (k + 1)).all (fun x => !longB x) = false) := Lib.hid (by rw [htk, hlb]; rfl)
            clear htk hlb
            go_wp2_with fail
            exact ⟨⟨k + 1, by go_num, by omega, by rw [Htk.out, decide_eq_false (by omega)], trivial⟩, by simp [intOf]; omega⟩
      · obtain rfl : k = l.length := by omega
        have hall : (l.take l.length).all (fun x => !longB x) = !l.any longB := by rw [List.take_length, List.not_any_eq_all_not]
        rw [hall]
        have h512 : decide (l.length ≤ 512) = true := decide_eq_true (by omega)
        generalize hR : (!l.any longB) = R
        have HR : Hid ((decide (l.length ≤ 512) && !l.any longB) = R) := Lib.hid (by rw [h512, hR]; rfl)
        clear hall h512 hR hlt
        go_wp2_with fail
        generalize hF : findOut l s n1 n2 = F
        have HF := Lib.hid hF
        clear hF
        generalize hN : (remOut n0 s l).2 = nn
        clear hN
        refine wp_region_rely_lit rfl [some 59, some 60, some 61, some 62, some 63, some 64, some 65, some 66, some 67, some 68, some 69, some 70, some 71, some 72, some 73, some 74, some 75, some 76, some 77, some 78, some 79, some 80, some 81, some 82, some 83, some 84, some 85, some 86, some 87, some 88, some 89, some 90, some 91, some 92, some 93, some 94, some 6] rfl [[], [], [0, 1], [2], [3], [3], [3, 4, 5], [3, 6], [7], [8], [8], [8], [8, 11], [8], [8, 13], [8, 9, 10, 12, 14], [8], [8], [8], [8, 18], [8], [8, 20], [8, 16, 17, 19, 21], [8, 15, 22], [8, 23], [24], [25], [25], [25, 26, 27], [25, 28], [29], [30], [30, 31], [30], [30, 32, 33], [30, 34], [35]] (by kernel_rfl) (fun w' => Ext wr w') Ext
          (VF v3 v4 v5 (.slice a l.length cap) s nn n1 n2 w.heap.size F R) (fun i w1 w2 v hR h => VF_mono _ _ _ _ _ _ _ _ _ _ _ i w1 w2 v hR h) ?_ ?_ ?_
        · exact (Ext.refl wr).drew
        · refine ⟨?_, ?_, ?_, ?_, ?_, ?_, ?_, ?_, ?_, ?_, ?_, ?_, ?_, ?_, ?_, ?_, ?_, ?_, ?_, ?_, ?_, ?_, ?_, ?_, ?_, ?_, ?_, ?_, ?_, ?_, ?_, ?_, ?_, ?_, ?_, ?_, ?_, trivial⟩
          all_goals (intro vs w' hI hd)
          all_goals simp only [VF, opsFor, actD, List.getD_cons_zero, List.getD_cons_succ, List.foldl_cons, List.foldl_nil, List.mem_cons, List.not_mem_nil, or_false, forall_eq_or_imp, forall_eq] at hd ⊢
          · go_wp2
            exact ⟨rfl, rfl, Ext.refl _, hI⟩
          · go_wp2
            exact ⟨rfl, rfl, Ext.refl _, hI⟩
          · go_wp2_with fail
            refine (same_S _ _ _ _ _ (hs45.mono rStr_mono hI) (hs5.mono rStr_mono hI)).mono ?_
            rintro e w3 ⟨rfl, hx⟩
            rw [decide_eq_true rfl]
            go_wp2
            exact ⟨rfl, rfl, hx, hI.then hx⟩
          · go_wp2
            exact ⟨rfl, rfl, Ext.refl _, hI⟩
          · go_wp2
            exact ⟨rfl, rfl, Ext.refl _, hI⟩
          · go_wp2
            exact ⟨rfl, rfl, Ext.refl _, hI⟩
          · go_wp2
            exact ⟨rfl, rfl, Ext.refl _, hI⟩
          · go_wp2
            exact ⟨rfl, rfl, Ext.refl _, hI⟩
          · go_wp2
            exact ⟨rfl, rfl, Ext.refl _, hI⟩
          · go_wp2
            exact ⟨rfl, rfl, Ext.refl _, hI⟩
          · go_wp2
            exact ⟨rfl, rfl, Ext.refl _, hI⟩
          · go_wp2
            exact ⟨rfl, rfl, Ext.refl _, hI⟩
          · have hc := hI.cell (Hc5.out 1 n1 rfl)
            go_wp2
            exact ⟨rfl, rfl, Ext.refl _, hI⟩
          · go_wp2
            exact ⟨rfl, rfl, Ext.refl _, hI⟩
          · have hc := hI.cell (Hc5.out 2 n2 rfl)
            go_wp2
            exact ⟨rfl, rfl, Ext.refl _, hI⟩
          · go_wp2_with fail
            refine (find_any _ l s n1 n2 _ (hi5.mono rStr_mono hI) (by omega) F1.out F2.out).mono ?_
            rintro e w3 ⟨v', rfl, hs, hx⟩
            rw [HF.out] at hs
            go_wp2
            exact ⟨rfl, hs, hx, hI.then hx⟩
          · go_wp2
            exact ⟨rfl, rfl, Ext.refl _, hI⟩
          · go_wp2
            exact ⟨rfl, rfl, Ext.refl _, hI⟩
          · go_wp2
            exact ⟨rfl, rfl, Ext.refl _, hI⟩
          · have hc := hI.cell (Hc5.out 1 n1 rfl)
            go_wp2
            exact ⟨rfl, rfl, Ext.refl _, hI⟩
          · go_wp2
            exact ⟨rfl, rfl, Ext.refl _, hI⟩
          · have hc := hI.cell (Hc5.out 2 n2 rfl)
            go_wp2
            exact ⟨rfl, rfl, Ext.refl _, hI⟩
          · go_wp2_with fail
            refine (reffind_any _ l s n1 n2 _ (hv5.mono rStr_mono hI) (by omega) F1.out F2.out).mono ?_
            rintro e w3 ⟨v', rfl, hs, hx⟩
            rw [HF.out] at hs
            go_wp2
            exact ⟨rfl, hs, hx, hI.then hx⟩
          · obtain ⟨d8, D1, D2⟩ := hd
            go_wp2_with fail
            refine (same_I _ _ F F _ D1 D2).mono ?_
            rintro e w3 ⟨rfl, hx⟩
            rw [decide_eq_true rfl]
            go_wp2
            exact ⟨rfl, rfl, hx, hI.then hx⟩
          · go_wp2
            exact ⟨rfl, rfl, Ext.refl _, hI⟩
          · go_wp2
            exact ⟨rfl, rfl, Ext.refl _, hI⟩
          · go_wp2
            exact ⟨rfl, rfl, Ext.refl _, hI⟩
          · go_wp2
            exact ⟨rfl, rfl, Ext.refl _, hI⟩
          · go_wp2_with fail
            refine (same_S _ _ l l _ (hi5.mono rStr_mono hI) (hv5.mono rStr_mono hI)).mono ?_
            rintro e w3 ⟨rfl, hx⟩
            rw [decide_eq_true rfl]
            go_wp2
            exact ⟨rfl, rfl, hx, hI.then hx⟩
          · go_wp2
            exact ⟨rfl, rfl, Ext.refl _, hI⟩
          · go_wp2
            exact ⟨rfl, rfl, Ext.refl _, hI⟩
          · go_wp2
            exact ⟨rfl, rfl, Ext.refl _, hI⟩
          · go_wp2_with fail
            refine (right_any _ l _ (hv5.mono rStr_mono hI) (by omega)).mono ?_
            rintro e w3 ⟨rfl, hw⟩
            rw [hw, HR.out]
            go_wp2
            exact ⟨rfl, rfl, Ext.refl _, hI⟩
          · go_wp2
            exact ⟨rfl, rfl, Ext.refl _, hI⟩
          · go_wp2
            exact ⟨rfl, by first | rfl | simp, Ext.refl _, hI⟩
          · go_wp2
            exact ⟨rfl, rfl, Ext.refl _, hI⟩
          · go_wp2
            exact ⟨rfl, rfl, Ext.refl _, hI⟩
        · intro vs w' hI hd
          simp only [actD, List.range, List.range.loop, List.foldl_cons, List.foldl_nil, List.length_cons, List.length_nil, List.getD_cons_zero, List.getD_cons_succ]
          rw [show vs 36 = Value.bool true from hd 36 (by decide)]
          clear hd
          go_simp
          go_wp2
          go_ret
          exact ⟨rfl, hxw5.then hI⟩
theorem arr3 {w : World} {cs : Array Value} {y : List Int} (hs : cs.size = 3) (h : (rArr 3 (rInt .i64)).rel w cs.toList y) : ∃ a b c : Int, cs = #[.int .i64 a, .int .i64 b, .int .i64 c] ∧ Fits a ∧ Fits b ∧ Fits c := by
  obtain ⟨h1, _, h3⟩ := h
  match y, h1 with
  | [a, b, c], _ =>
    have e0 := h3 0 (by simp)
    have e1 := h3 1 (by simp)
    have e2 := h3 2 (by simp)
    simp only [rInt, Nat.mul_one] at e0 e1 e2
    obtain ⟨l⟩ := cs
    match l, hs with
    | [p, q, r], _ =>
      refine ⟨a, b, c, ?_, fits_wf e0.2, fits_wf e1.2, fits_wf e2.2⟩
      simp at e0 e1 e2
      simp [e0, e1, e2]
theorem listFinds_all (w : World) (v : Value) (l : List ByteArray) (hv : SliceOf rStr w v l) (s : ByteArray) (ws : s.size ≤ maxLen) (cs : Array Value) (y : List Int) (hcs : cs.size = 3) (hy : (rArr 3 (rInt .i64)).rel w cs.toList y) :
    Calls Try.prog 7 #[v, .string s, .agg cs] w fun e w' => e = .returned (.bool true) ∧ Ext w w' := by
  obtain ⟨a, b, c, rfl, fa, fb, fc⟩ := arr3 hcs hy
  exact listFinds_walk w v l hv s ws a b c fa fb fc
end Go.Proofs.Ytlobedanjbcfkaa
