/-
  The statement CrcApart: strings that differ in four consecutive bytes have different checksums. For every input.
-/
import Derived.Test.YtbhcggdhpdcpbaaCrcW
import Derived.Test.YtbhcggdhpdcpbaaRely
namespace Go.Proofs.Ytbhcggdhpdcpbaa
open Go.RowKit Go.Proofs

/-- a list with some elements put in place of its own -/
def patch {α : Type} (l : List α) (k : Nat) (u : List α) : List α := l.take k ++ u ++ l.drop (k + u.length)
theorem patch_nil {α : Type} (l : List α) (k : Nat) : patch l k [] = l := by simp [patch]
theorem patch_length {α : Type} (l : List α) (k : Nat) (u : List α) (h : k + u.length ≤ l.length) : (patch l k u).length = l.length := by simp [patch]; omega
theorem patch_snoc {α : Type} (l : List α) (k : Nat) (u : List α) (x : α) (h : k + u.length < l.length) : (patch l k u).set (k + u.length) x = patch l k (u ++ [x]) := by
  unfold patch
  rw [List.set_append_right _ _ (by simp; omega)]
  have e : k + u.length - (l.take k ++ u).length = 0 := by simp; omega
  rw [e, List.drop_eq_getElem_cons h]
  simp [Nat.add_assoc]
theorem patch_split {α : Type} (l : List α) (k : Nat) (_h : k + 4 ≤ l.length) : l = l.take k ++ (l.drop k).take 4 ++ l.drop (k + 4) := by
  rw [List.append_assoc, ← List.drop_drop, List.take_append_drop, List.take_append_drop]
theorem crc_patch (l : List UInt8) (k : Nat) (u : List UInt8) (hu : u.length = 4) (h : k + 4 ≤ l.length) : crcSum l = crcSum (patch l k u) ↔ l = patch l k u := by
  have hsp := patch_split l k h
  have hd : ((l.drop k).take 4).length = 4 := by simp; omega
  have hp : patch l k u = l.take k ++ u ++ l.drop (k + 4) := by rw [patch, hu]
  constructor
  · intro e
    have e2 : crcR (BitVec.allOnes 32) l = crcR (BitVec.allOnes 32) (patch l k u) := by
      have := congrArg (fun x => ~~~ x) e
      simpa [crcSum] using this
    rw [hp] at e2 ⊢
    have e3 : crcR (BitVec.allOnes 32) (l.take k ++ (l.drop k).take 4 ++ l.drop (k + 4)) = crcR (BitVec.allOnes 32) (l.take k ++ u ++ l.drop (k + 4)) := by rw [← hsp]; exact e2
    have := (crcR_burst _ _ _ _ _ hd hu).1 e3
    rw [← this]; exact hsp
  · intro e; rw [← e]

theorem place_mod (x : Int) (n : Nat) (h1 : 4 ≤ n) (h2 : n ≤ 100000) : ∃ k : Nat, (wrap64 (wrap64 (x.tmod ((n : Int) - 3) + (n : Int)) - 3)).tmod ((n : Int) - 3) = (k : Int) ∧ k + 4 ≤ n := by
  have hp : (0 : Int) < (n : Int) - 3 := by omega
  have a1 := Int.tmod_lt_of_pos x hp
  have a2 := Int.lt_tmod_of_pos x hp
  rw [IntWalk.wrap64_in (x.tmod ((n : Int) - 3) + (n : Int)) (by omega), IntWalk.wrap64_in _ (by omega)]
  generalize x.tmod ((n : Int) - 3) = q at a1 a2
  have a3 : 0 ≤ (q + (n : Int) - 3) := by omega
  rw [Int.tmod_eq_emod_of_nonneg a3]
  have a4 := Int.emod_nonneg (q + (n : Int) - 3) (show (n : Int) - 3 ≠ 0 by omega)
  have a5 := Int.emod_lt_of_pos (q + (n : Int) - 3) hp
  exact ⟨((q + (n : Int) - 3) % ((n : Int) - 3)).toNat, by omega, by omega⟩

set_option maxRecDepth 100000 in
set_option maxHeartbeats 2000000 in
theorem crcApart_walk (w : World) (v : Value) (l : List UInt8) (hv : SliceOf rByte w v l) (at_ : Int) (_wat : (Lit.int .i64 at_).wf = true) (cs : Array Value) (y : List UInt8) (hcs : cs.size = 4) (hy : (rArr 4 rByte).rel w cs.toList y) :
    Calls Try.prog 4 #[v, .int .i64 at_, .agg cs] w fun e w' => e = .returned (.bool true) ∧ Ext w w' := by
  obtain ⟨a, cap, rfl, hle, hm, h0, _⟩ := id hv
  obtain ⟨b0, b1, b2, b3, rfl, rfl⟩ := arr4 hcs hy
  unfold maxLen at hm
  by_cases h4 : l.length < 4
  · go_enter Try.func4, Try.ntmps4
    go_wp2_with fail
    refine (awake3 _).mono ?_
    rintro e w1 ⟨rfl, hx1⟩
    go_wp2_with fail
    refine (awake3 _).mono ?_
    rintro e w2 ⟨rfl, hx2⟩
    go_wp2
    go_ret
    exact ⟨rfl, (((Ext.refl w).alloc _).then hx1).then hx2⟩
  · by_cases hbig : 1000 < l.length
    · go_enter Try.func4, Try.ntmps4
      go_wp2_with fail
      refine (awake3 _).mono ?_
      rintro e w1 ⟨rfl, hx1⟩
      go_wp2_with fail
      refine (awake3 _).mono ?_
      rintro e w2 ⟨rfl, hx2⟩
      go_wp2
      go_ret
      exact ⟨rfl, (((Ext.refl w).alloc _).then hx1).then hx2⟩
    · have hA : ([] : List UInt8).length + l.length ≤ maxLen := by unfold maxLen; simp; omega
      have hB : (([] : List UInt8).length + l.length) * 1 ≤ 140737488355328 := by simp; omega
      have HA := Lib.hid hA
      have HB := Lib.hid hB
      clear hA hB
      go_enter Try.func4, Try.ntmps4
      go_wp2_with fail
      refine (awake3 _).mono ?_
      rintro e w1 ⟨rfl, hx1⟩
      have hext := ((Ext.refl w).alloc _).then hx1
      have own0 := Own.lit0 rByte 5 w1 rfl (Nat.le_refl _)
      go_wp2_with (at_builtin; refine append_ext (w0 := w1) rfl (.tmp 23) (.tmp 24) rfl el_bytes rByte_one rByte_flat (.slice (some ⟨w1.heap.size, 0, none⟩) 0 0) [] rfl own0 _ l rfl (hv.mono rByte_mono (hext.alloc _)) HA.out HB.out (by simp) ((Ext.refl w1).alloc _) (Nat.le_refl _) ?_; intro v2 w2 hown2 hx2 hb2 hg2; clear own0)
      obtain ⟨k, hk, hk4⟩ := place_mod at_ l.length (by omega) (by omega)
      rw [hk]
      have hown3 : Own rByte w1.heap.size 5 w2 v2 (patch l k []) := by rw [patch_nil]; exact hown2
      obtain ⟨g, cap2, rfl, hbg, hg, hlc, hcap2, _, _⟩ := hown2.form (by rintro rfl; simp at h4)
      have hbox : ∀ (j : Nat) (x : UInt8), [b0, b1, b2, b3][j]? = some x → ∀ wr, Ext w1 wr → wr.cell? ⟨w.heap.size, j, none⟩ = some (.int .u8 (x.toNat : Int)) := fun j x hj wr hxr => by
        refine (hx1.then hxr).cell ?_
        have e1 := heap_alloc_new w (.cells #[Value.int .u8 (b0.toNat : Int), .int .u8 (b1.toNat : Int), .int .u8 (b2.toNat : Int), .int .u8 (b3.toNat : Int)] 29)
        simp only [World.cell?, e1]
        match j, hj with
        | 0, hj => simp at hj; simp [hj]
        | 1, hj => simp at hj; simp [hj]
        | 2, hj => simp at hj; simp [hj]
        | 3, hj => simp at hj; simp [hj]
      have Hbox := Lib.hid hbox
      have Hk := Lib.hid hk
      clear hbox hk hown2 hg2 hy
      simp only [List.nil_append] at *
      go_loopw [9] (fun i wr => ∃ j : Nat, j ≤ 4 ∧ i = .int .i64 j ∧ Own rByte w1.heap.size 5 wr (.slice (some ⟨g, 0, none⟩) l.length cap2) (patch l k ([b0, b1, b2, b3].take j)) ∧ Ext w1 wr) (fun i _ => 4 - (intOf i).toNat)
      case atStart => exact ⟨0, by omega, rfl, hown3, hx2⟩
      case round =>
        obtain ⟨j, hj, rfl, hown, hx⟩ := hrel
        by_cases hlt : j < 4
        · have hjl : j < [b0, b1, b2, b3].length := by simpa using hlt
          have hcell := Hbox.out j _ (List.getElem?_eq_getElem hjl) _ hx
          have htl : ([b0, b1, b2, b3].take j).length = j := by simp; omega
          have hpl := patch_length l k ([b0, b1, b2, b3].take j) (by omega)
          obtain ⟨⟨u, hu⟩, hfz, _⟩ := hown.formAt rfl (show k + j < (patch l k ([b0, b1, b2, b3].take j)).length by omega)
          have hset := hown.set1 rfl rByte_flat (show k + j < (patch l k ([b0, b1, b2, b3].take j)).length by omega) (u := .int .u8 (([b0, b1, b2, b3][j]).toNat : Int)) (x := [b0, b1, b2, b3][j]) (fun _ => rfl)
          have hps := patch_snoc l k ([b0, b1, b2, b3].take j) [b0, b1, b2, b3][j] (by omega)
          rw [htl, ← take_succ_get _ j hjl] at hps
          rw [hps] at hset
          generalize [b0, b1, b2, b3][j] = x at hcell hset
          clear hps
          have Hset := Lib.hid hset
          have hext2 := Lib.hid (Below.setCell hx (p := ⟨g, k + j, none⟩) hbg (.int .u8 (x.toNat : Int)))
          clear hset hpl htl
          go_wp2
          refine ⟨⟨j + 1, by omega, by go_num, Hset.out, hext2.out⟩, by simp [intOf]; omega⟩
        · have hj4 : j = 4 := by omega
          subst hj4
          have hM : patch l k ([b0, b1, b2, b3].take 4) = patch l k [b0, b1, b2, b3] := rfl
          rw [hM] at hown
          have hcp := crc_patch l k [b0, b1, b2, b3] rfl hk4
          have hvM := hown.slice
          have hvl := hv.mono rByte_mono (hext.then hx)
          generalize patch l k [b0, b1, b2, b3] = M at hvM hcp
          have Hcp := Lib.hid hcp
          clear hM hown hcp
          go_wp2_with fail
          refine wp_region_rely_lit rfl [some 51, some 52, some 53, some 54, some 55, some 56, some 57, some 58, some 59, some 60, some 61, some 62, some 63, some 6] rfl [[], [0], [1], [], [3], [4], [2, 5], [], [7], [], [9], [8, 10], [6, 11], [12]] (by kernel_rfl) (fun w' => Ext wr w') Ext
            (fun i w' v => match i with
              | 0 => v = .slice a l.length cap
              | 1 => SliceOf (rSlice rByte) w' v [l]
              | 2 => v = .int .u32 ((crcSum l).toNat : Int)
              | 3 => v = .slice (some ⟨g, 0, none⟩) l.length cap2
              | 4 => SliceOf (rSlice rByte) w' v [M]
              | 5 => v = .int .u32 ((crcSum M).toNat : Int)
              | 6 => v = .bool (decide (l = M))
              | 7 => v = .slice a l.length cap
              | 8 => v = .string (bstr l)
              | 9 => v = .slice (some ⟨g, 0, none⟩) l.length cap2
              | 10 => v = .string (bstr M)
              | 11 => v = .bool (decide (l = M))
              | _ => v = .bool true) ?_ ?_ ?_ ?_
          · intro i w1 w2 v hR h
            match i with
            | 1 => exact h.mono (rSlice_mono rByte_mono) hR
            | 4 => exact h.mono (rSlice_mono rByte_mono) hR
            | 0 | 2 | 3 | 5 | 6 | 7 | 8 | 9 | 10 | 11 => exact h
            | _ + 12 => exact h
          · exact (Ext.refl wr).drew
          · refine ⟨?_, ?_, ?_, ?_, ?_, ?_, ?_, ?_, ?_, ?_, ?_, ?_, ?_, ?_, trivial⟩
            all_goals (intro vs w' hI hd)
            all_goals simp only [opsFor, actD, List.getD_cons_zero, List.getD_cons_succ, List.foldl_cons, List.foldl_nil, List.mem_cons, List.not_mem_nil, or_false, forall_eq_or_imp, forall_eq] at hd ⊢
            · go_wp2
              exact ⟨rfl, rfl, Ext.refl _, hI⟩
            · go_wp2
              exact ⟨rfl, sliceOf_one (r := rSlice rByte) rfl _ (by simp) _ _ _ ⟨_, rfl, hvl.mono rByte_mono (hI.alloc _)⟩, (Ext.refl _).alloc _, hI.alloc _⟩
            · go_wp2_with fail
              refine (sum_any _ [l] _ hd).mono ?_
              rintro e w3 ⟨rfl, rfl⟩
              rw [List.flatten_singleton]
              go_wp2
              exact ⟨rfl, rfl, Ext.refl _, hI⟩
            · go_wp2
              exact ⟨rfl, rfl, Ext.refl _, hI⟩
            · go_wp2
              exact ⟨rfl, sliceOf_one (r := rSlice rByte) rfl _ (by simp) _ _ _ ⟨_, rfl, hvM.mono rByte_mono (hI.alloc _)⟩, (Ext.refl _).alloc _, hI.alloc _⟩
            · go_wp2_with fail
              refine (sum_any _ [M] _ hd).mono ?_
              rintro e w3 ⟨rfl, rfl⟩
              rw [List.flatten_singleton]
              go_wp2
              exact ⟨rfl, rfl, Ext.refl _, hI⟩
            · go_wp2
              refine ⟨rfl, ?_, Ext.refl _, hI⟩
              have h1 := Hcp.out
              rw [← BitVec.toNat_inj] at h1
              show Value.bool _ = Value.bool _
              congr 1
              rw [Bool.eq_iff_iff, beq_iff_eq, decide_eq_true_iff, ← h1]
              omega
            · go_wp2
              exact ⟨rfl, rfl, Ext.refl _, hI⟩
            · have hc := conv_bytes (hvl.mono rByte_mono hI)
              go_wp2
              exact ⟨rfl, rfl, Ext.refl _, hI⟩
            · go_wp2
              exact ⟨rfl, rfl, Ext.refl _, hI⟩
            · have hc := conv_bytes (hvM.mono rByte_mono hI)
              go_wp2
              exact ⟨rfl, rfl, Ext.refl _, hI⟩
            · have e1 := bstr_toList l
              have e2 := bstr_toList M
              go_wp2
              refine ⟨rfl, ?_, Ext.refl _, hI⟩
              show Value.bool _ = Value.bool _
              congr 1
              rw [Bool.eq_iff_iff]
              simp
            · go_wp2
              refine ⟨rfl, ?_, Ext.refl _, hI⟩
              show Value.bool _ = Value.bool _
              simp
            · go_wp2
              exact ⟨rfl, rfl, Ext.refl _, hI⟩
          · intro vs w' hI hd
            have h13 : vs 13 = .bool true := hd 13 (by decide)
            simp only [actD, List.range, List.range.loop, List.foldl_cons, List.foldl_nil, List.length_cons, List.length_nil, List.getD_cons_zero, List.getD_cons_succ]
            go_simp
            go_wp2
            go_ret
            exact ⟨rfl, (hext.then hx).then hI⟩
end Go.Proofs.Ytbhcggdhpdcpbaa
