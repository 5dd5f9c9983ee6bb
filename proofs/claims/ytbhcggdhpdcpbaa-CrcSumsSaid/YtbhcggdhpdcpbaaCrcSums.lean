/-
  The statement CrcSums: Sum agrees with the reference, however the bytes are divided. For every input.
-/
import Derived.Test.YtbhcggdhpdcpbaaCrcW
namespace Go.Proofs.Ytbhcggdhpdcpbaa
open Go.RowKit Go.Proofs

theorem el_bytes : El Try.prog 24 5 1 1 := El.mk' (z := .int .u8 0) Try.underlying24 (by kernel_rfl) rfl (by decide)

set_option maxRecDepth 100000 in
set_option maxHeartbeats 400000 in
theorem crcSums_walk (w : World) (v : Value) (ls : List (List UInt8)) (hv : SliceOf (rSlice rByte) w v ls) :
    Calls Try.prog 3 #[v] w fun e w' => e = .returned (.bool true) ∧ Ext w w' := by
  obtain ⟨a, cap, rfl, hle, hm, h0, _⟩ := id hv
  unfold maxLen at hm
  by_cases hbig : 20 < ls.length
  · go_enter Try.func3, Try.ntmps3
    go_wp2_with fail
    refine (awake3 _).mono ?_
    rintro e w1 ⟨rfl, hx1⟩
    go_wp2_with fail
    refine (awake3 _).mono ?_
    rintro e w2 ⟨rfl, hx2⟩
    go_wp2
    go_ret
    exact ⟨rfl, hx1.then hx2⟩
  · go_enter Try.func3, Try.ntmps3
    go_wp2_with fail
    refine (awake3 _).mono ?_
    rintro e w1 ⟨rfl, hx1⟩
    go_wp2_with fail
    go_loopw [3, 4] (fun v i wr => ∃ k : Nat, k ≤ ls.length ∧ i = .int .i64 k ∧ Own rByte w.heap.size 5 wr v (ls.take k).flatten ∧ (ls.take k).flatten.length ≤ 300 * k ∧ Ext w wr) (fun _ i _ => ls.length - (intOf i).toNat)
    case atStart => exact ⟨0, by omega, rfl, Own.nil _ _ _ _, by simp, hx1⟩
    case round =>
      obtain ⟨k, hk, rfl, hown, hlen, hx⟩ := hrel
      by_cases hlt : k < ls.length
      · obtain ⟨g, o, u, rfl, hu, u', hu', hs⟩ := (hv.mono (rSlice_mono rByte_mono) hx).at1 rfl (List.getElem?_eq_getElem hlt)
        have Hts := Lib.hid (take_succ_get ls k hlt)
        generalize ls[k] = l at hs Hts
        obtain rfl : u = u' := by simpa using hu'
        clear hu'
        obtain ⟨a1, cap1, rfl, hle1, hm1, _, _⟩ := id hs
        by_cases hbl : 300 < l.length
        · go_wp2
          go_ret
          exact ⟨rfl, hx⟩
        · have hfl : (ls.take (k + 1)).flatten = (ls.take k).flatten ++ l := by rw [Hts.out]; simp
          have Hfl := Lib.hid hfl
          clear hfl
          have hbase : w.heap.size ≤ wr.heap.size := hx.size
          have hA : (ls.take k).flatten.length + l.length ≤ maxLen := by unfold maxLen; omega
          have hB : ((ls.take k).flatten.length + l.length) * 1 ≤ 140737488355328 := by omega
          go_wp2_with (at_builtin; go_loud (refine append_law rfl (.tmp 25) (.tmp 29) rfl el_bytes rByte_one _ _ rfl hown _ l rfl hs (fun _ _ _ _ _ h => h) hA hB hbase ?_); intro v' w' hown' hg')
          refine ⟨⟨k + 1, by omega, by go_num, by rw [Hfl.out]; exact hown', by rw [Hfl.out, List.length_append]; omega, ?_⟩, by simp [intOf]; omega⟩
          exact hx.grown hg' hbase fun k' hk' => hown.lt k' hk'
      · have hlen2 : ls.flatten.length ≤ 6000 := by rw [List.take_of_length_le (by omega)] at hlen; omega
        have e1 : (ls.take k).flatten = ls.flatten := by rw [List.take_of_length_le (by omega)]
        rw [e1] at hown
        clear e1 hlen
        generalize hF : ls.flatten = F at hown hlen2
        have HF := Lib.hid hF
        clear hF
        have hsl := hown.slice
        obtain ⟨A, c, rfl, _, _, _, _⟩ := id hsl
        have hvr := hv.mono (rSlice_mono rByte_mono) hx
        have hbig' : ¬ (20 : Int) < (ls.length : Int) := by omega
        have hlast : ¬ k < ls.length := hlt
        go_wp2_with (fail)
        refine (sum_any _ ls _ hvr).mono ?_
        rintro e w2 ⟨rfl, rfl⟩
        rw [HF.out]
        go_wp2_with (fail)
        refine (refsum_any _ F _ hsl).mono ?_
        rintro e w2 ⟨rfl, rfl⟩
        go_wp2_with (fail)
        refine (sum_any _ [F] _ ?_).mono ?_
        · exact sliceOf_one (r := rSlice rByte) rfl _ (by simp) _ _ _ ⟨_, rfl, SliceOf.mono rByte_mono ((Ext.refl _).alloc _) hsl⟩
        rintro e w2 ⟨rfl, rfl⟩
        have ef : [F].flatten = F := by simp
        rw [ef]
        clear ef
        go_wp2_with (fail)
        refine (refsum_any _ F _ (SliceOf.mono rByte_mono ((Ext.refl _).alloc _) hsl)).mono ?_
        rintro e w2 ⟨rfl, rfl⟩
        go_wp2
        go_ret
        exact ⟨rfl, hx.alloc _⟩
end Go.Proofs.Ytbhcggdhpdcpbaa
