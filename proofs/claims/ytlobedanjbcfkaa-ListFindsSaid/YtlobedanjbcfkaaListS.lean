/-
  Push at the front, Place, Span, Range, Trim, Index: walked.
-/
import Derived.Test.YtlobedanjbcfkaaListQ
set_option linter.unusedVariables false
set_option linter.unusedSimpArgs false
namespace Go.Proofs.Ytlobedanjbcfkaa
open Go.RowKit Go.Proofs

set_option maxRecDepth 100000 in
set_option maxHeartbeats 1000000 in
theorem push_front (v v2 : Value) (l ss : List ByteArray) (w : World) (hv : SliceOf rStr w v l) (hv2 : SliceOf rStr w v2 ss) (hl : l.length + ss.length ≤ 512) (hlong : ss.any longB = false) :
    Calls Try.prog 35 #[v, .bool true, v2] w fun e w' => ∃ v', e = .returned (.tuple #[v', .int .i64 0]) ∧ SliceOf rStr w' v' (ss.reverse ++ l) ∧ Ext w w' := by
  obtain ⟨a, cap, rfl, hle, hcm, h0, _⟩ := id hv
  obtain ⟨a2, cap2, rfl, hle2, hcm2, h02, _⟩ := id hv2
  unfold maxLen at hcm hcm2
  have Hlong := Lib.hid hlong
  clear hlong
  go_enter Try.func35, Try.ntmps35
  go_wp2_with fail
  refine (contains_long _ ss _ hv2 (by omega)).mono ?_
  rintro e w1 ⟨rfl, hw1⟩
  rw [hw1]
  clear hw1
  rw [Hlong.out]
  go_wp2_with fail
  refine (clone_S _ ss _ hv2 (by omega)).mono ?_
  rintro e w2 ⟨v3, rfl, hown, hx2⟩
  go_wp2_with fail
  refine (reverse_S v3 ss w w2 w.heap.size (Nat.le_refl _) hx2 hown).mono ?_
  rintro e w3 ⟨⟨u, rfl⟩, hown3, hsz3, hx3, _⟩
  clear hown
  have hA : ss.reverse.length + l.length ≤ maxLen := by unfold maxLen; simp; omega
  have hB : (ss.reverse.length + l.length) * 16 ≤ 140737488355328 := by simp; omega
  have HA := Lib.hid hA
  have HB := Lib.hid hB
  have hbase : w.heap.size ≤ w3.heap.size := hx3.size
  clear hA hB
  go_wp2_with (at_builtin; go_loud (refine append_ext (w0 := w) rfl (.tmp 30) (.tmp 31) rfl el_S rStr_one rStr_flat _ _ rfl hown3 _ l rfl (hv.mono rStr_mono hx3) HA.out HB.out hbase hx3 (Nat.le_refl _) ?_); intro v1 w1 hown1 hx1 hb1 hg1)
  go_ret2
  exact ⟨_, rfl, hown1.slice, hx1⟩

set_option maxRecDepth 100000 in
set_option maxHeartbeats 400000 in
theorem place_in (k n : Nat) (hk : k < n) (hn : n ≤ 1000) (w : World) :
    Calls Try.prog 44 #[.int .i64 (k : Int), .int .i64 (n : Int)] w fun e w' => e = .returned (.tuple #[.int .i64 (k : Int), .bool true]) ∧ w' = w := by
  go_enter Try.func44, Try.ntmps44
  go_wp2
  go_ret2
  exact ⟨rfl, rfl⟩
set_option maxRecDepth 100000 in
set_option maxHeartbeats 400000 in
theorem span_to (k b n : Nat) (hk : k ≤ b) (hb : b < n) (hn : n ≤ 1000) (w : World) :
    Calls Try.prog 31 #[.int .i64 (k : Int), .int .i64 (b : Int), .int .i64 (n : Int)] w fun e w' => e = .returned (.tuple #[.int .i64 (k : Int), .int .i64 ((b : Int) + 1)]) ∧ w' = w := by
  have h1 : ¬ ((n : Int) < 0) := by omega
  have h2 : ¬ ((n : Int) - 1 < b) := by omega
  have h3 : (b : Int) ≤ (n : Int) - 1 := by omega
  go_enter Try.func31, Try.ntmps31
  go_wp2
  go_ret2
  refine ⟨?_, rfl⟩
  first | rfl | (simp; omega)
set_option maxRecDepth 100000 in
set_option maxHeartbeats 400000 in
theorem span_all (k n : Nat) (hk : k < n) (hn : n ≤ 1000) (w : World) :
    Calls Try.prog 31 #[.int .i64 (k : Int), .int .i64 (-1), .int .i64 (n : Int)] w fun e w' => e = .returned (.tuple #[.int .i64 (k : Int), .int .i64 (n : Int)]) ∧ w' = w := by
  have h1 : ¬ ((n : Int) < 0) := by omega
  go_enter Try.func31, Try.ntmps31
  go_wp2
  go_ret2
  refine ⟨?_, rfl⟩
  first | rfl | (simp; omega)
set_option maxRecDepth 100000 in
set_option maxHeartbeats 400000 in
theorem index_in (v : Value) (l : List ByteArray) (k : Nat) (x : ByteArray) (w : World) (hv : SliceOf rStr w v l) (hl : l.length ≤ 1000) (hx : l[k]? = some x) :
    Calls Try.prog 29 #[v, .int .i64 (k : Int)] w fun e w' => e = .returned (.tuple #[.string x, .bool true]) ∧ w' = w := by
  obtain ⟨a, cap, rfl, hle, hcm, h0, _⟩ := id hv
  unfold maxLen at hcm
  have hk := (List.getElem?_eq_some_iff.1 hx).1
  obtain ⟨g, o, u, rfl, hu, hu'⟩ := hv.at1 rfl hx
  have hu1 := hu'.1
  obtain rfl : u = .string x := by simpa using hu1
  clear hu' hu1 hx
  go_enter Try.func29, Try.ntmps29
  go_wp2_with fail
  refine (place_in k l.length hk hl _).mono ?_
  rintro e w1 ⟨rfl, rfl⟩
  go_wp2
  go_ret2
  exact ⟨rfl, rfl⟩
set_option maxRecDepth 100000 in
set_option maxHeartbeats 400000 in
theorem range_all (v : Value) (l : List ByteArray) (k : Nat) (w : World) (hv : SliceOf rStr w v l) (hl : l.length ≤ 1000) (hk : k < l.length) :
    Calls Try.prog 27 #[v, .int .i64 (k : Int), .int .i64 (-1)] w (RetOwn rStr 9 w (l.drop k)) := by
  obtain ⟨a, cap, rfl, hle, hcm, h0, _⟩ := id hv
  unfold maxLen at hcm
  obtain ⟨g, o, u, rfl, _, _⟩ := hv.at1 rfl (List.getElem?_eq_getElem hk)
  have hck : ¬ cap = k := by omega
  have hs := hv.drop rfl k (by omega) (o + k) (by rw [if_neg hck])
  have hln : (l.drop k).length ≤ 1000000 := by simp; omega
  go_enter Try.func27, Try.ntmps27
  go_wp2_with fail
  refine (span_all k l.length hk hl _).mono ?_
  rintro e w1 ⟨rfl, rfl⟩
  go_wp2_with fail
  refine (clone_S _ _ _ hs hln).mono ?_
  rintro e w2 ⟨v3, rfl, hown, hx2⟩
  go_wp2_with fail
  go_ret
  exact ⟨_, rfl, hown, hx2⟩
set_option maxRecDepth 100000 in
set_option maxHeartbeats 400000 in
theorem range_to (v : Value) (l : List ByteArray) (b : Nat) (w : World) (hv : SliceOf rStr w v l) (hl : l.length ≤ 1000) (hb : b < l.length) :
    Calls Try.prog 27 #[v, .int .i64 0, .int .i64 (b : Int)] w (RetOwn rStr 9 w (l.take (b + 1))) := by
  obtain ⟨a, cap, rfl, hle, hcm, h0, _⟩ := id hv
  unfold maxLen at hcm
  have hs := hv.take (b + 1) (by omega)
  have hln : (l.take (b + 1)).length ≤ 1000000 := by simp; omega
  go_enter Try.func27, Try.ntmps27
  go_wp2_with fail
  refine (span_to 0 b l.length (by omega) hb hl _).mono ?_
  rintro e w1 ⟨rfl, rfl⟩
  go_wp2_with fail
  refine (clone_S _ _ _ hs hln).mono ?_
  rintro e w2 ⟨v3, rfl, hown, hx2⟩
  go_wp2_with fail
  go_ret
  exact ⟨_, rfl, hown, hx2⟩
set_option maxRecDepth 100000 in
set_option maxHeartbeats 400000 in
theorem trim_one (v : Value) (l : List ByteArray) (w : World) (hv : SliceOf rStr w v l) (hl : l.length ≤ 1000) (hb : 0 < l.length) :
    Calls Try.prog 28 #[v, .int .i64 0, .int .i64 0] w (RetOwn rStr 9 w (l.take 1)) := by
  go_enter Try.func28, Try.ntmps28
  go_wp2_with fail
  refine (range_to v l 0 _ hv hl hb).mono ?_
  rintro e w2 ⟨v3, rfl, hown, hx2⟩
  go_wp2_with fail
  go_ret
  exact ⟨_, rfl, hown, hx2⟩
end Go.Proofs.Ytlobedanjbcfkaa
