/-
  value.Right, walked.
-/
import Derived.Test.YthclkljdnmokcaaZsetRight
import Derived.Test.YthclkljdnmokcaaBare
import Derived.Test.YthclkljdnmokcaaListRight
import Derived.Test.YthclkljdnmokcaaRight14
set_option linter.unusedVariables false
set_option linter.unusedSimpArgs false
namespace Go.Proofs.Ythclkljdnmokcaa
open Go.RowKit Go.Proofs

set_option maxRecDepth 100000 in
set_option maxHeartbeats 1000000 in
theorem vr_str (s : ByteArray) (P : List (ByteArray × ByteArray)) (T : List ByteArray) (Z : List (Int × ByteArray)) (p t z : Value) (w : World) (hx : Parts w p t z ⟨1, s, P, T, Z⟩) (hts : s.size ≤ maxLen) (hl2 : T.length ≤ 1000000) (hl3 : Z.length ≤ 1000000) :
    Calls Try.prog 31 #[.agg #[.int .i64 1, .string s, p, t, z]] w fun e w' => e = .returned (.bool ((decide (P.length = 0) && (decide (T.length = 0) && decide (Z.length = 0))) && decide (s.size ≤ 4096))) ∧ Ext w w' := by
  obtain ⟨hp, ht, hz⟩ := id hx
  simp only at hp ht hz
  obtain ⟨a1, c1, rfl, hp1, hp2⟩ := len_of' hp
  obtain ⟨a2, c2, rfl, ht1, ht2⟩ := len_of' ht
  obtain ⟨a3, c3, rfl, hz1, hz2⟩ := len_of' hz
  unfold maxLen at hts
  have hx0 : Ext w (w.alloc (.cells #[.int .i64 1, .string s, .slice a1 P.length c1, .slice a2 T.length c2, .slice a3 Z.length c3] 30)) := (Ext.refl w).alloc _
  have HB : Hid (w.heap.size < (w.alloc (.cells #[.int .i64 1, .string s, .slice a1 P.length c1, .slice a2 T.length c2, .slice a3 Z.length c3] 30)).heap.size) := Lib.hid (by simp)
  have HA := Lib.hid (heap_alloc_new w (.cells #[.int .i64 1, .string s, .slice a1 P.length c1, .slice a2 T.length c2, .slice a3 Z.length c3] 30))
  have Hx := Lib.hid hx
  have Hx0 := Lib.hid hx0
  have Hp := Lib.hid hp
  have Ht := Lib.hid ht
  have Hz := Lib.hid hz
  clear hx hp ht hz hx0
  cases hb : (decide (P.length = 0) && (decide (T.length = 0) && decide (Z.length = 0))) with
  | false =>
    have Hb := Lib.hid hb
    rw [Bool.false_and]
    clear hb
    obtain ⟨c0, _⟩ := cells_at (i := 0) (v := .int .i64 1) HA.out rfl
    obtain ⟨c1', _⟩ := cells_at (i := 1) (v := .string s) HA.out rfl
    obtain ⟨c2', _⟩ := cells_at (i := 2) (v := .slice a1 P.length c1) HA.out rfl
    obtain ⟨c3', _⟩ := cells_at (i := 3) (v := .slice a2 T.length c2) HA.out rfl
    obtain ⟨c4', _⟩ := cells_at (i := 4) (v := .slice a3 Z.length c3) HA.out rfl
    go_enter Try.func31, Try.ntmps31
    go_wp2_with fail
    refine (bare_str ⟨1, s, P, T, Z⟩ _ _ _ _ (Hx.out.mono Hx0.out)).mono ?_
    rintro e w1 ⟨rfl, hx1⟩
    simp only
    rw [Hb.out]
    clear c0 c1' c2' c3' c4'
    go_wp2_with fail
    go_ret
    exact ⟨by first | rfl | simp, Hx0.out.then hx1⟩
  | true =>
    have Hb := Lib.hid hb
    rw [Bool.true_and]
    clear hb
    generalize hq : decide (s.size ≤ 4096) = q
    have hd : decide ((s.size : Int) ≤ 4096) = q := by rw [← hq]; exact decide_eq_decide.2 (by omega)
    clear hq
    obtain ⟨c0, _⟩ := cells_at (i := 0) (v := .int .i64 1) HA.out rfl
    obtain ⟨c1', _⟩ := cells_at (i := 1) (v := .string s) HA.out rfl
    obtain ⟨c2', _⟩ := cells_at (i := 2) (v := .slice a1 P.length c1) HA.out rfl
    obtain ⟨c3', _⟩ := cells_at (i := 3) (v := .slice a2 T.length c2) HA.out rfl
    obtain ⟨c4', _⟩ := cells_at (i := 4) (v := .slice a3 Z.length c3) HA.out rfl
    go_enter Try.func31, Try.ntmps31
    go_wp2_with fail
    refine (bare_str ⟨1, s, P, T, Z⟩ _ _ _ _ (Hx.out.mono Hx0.out)).mono ?_
    rintro e w1 ⟨rfl, hx1⟩
    simp only
    rw [Hb.out]
    clear c0 c1' c2' c3' c4'
    obtain ⟨d1, _⟩ := cells_at (i := 1) (v := .string s) ((hx1.block _ HB.out).trans HA.out) rfl
    go_wp2_with fail
    go_ret
    exact ⟨by first | rfl | simp, Hx0.out.then hx1⟩
set_option maxRecDepth 100000 in
set_option maxHeartbeats 1000000 in
theorem vr_hash (s : ByteArray) (P : List (ByteArray × ByteArray)) (T : List ByteArray) (Z : List (Int × ByteArray)) (p t z : Value) (w : World) (hx : Parts w p t z ⟨2, s, P, T, Z⟩) (hts : s.size ≤ maxLen) (hl2 : T.length ≤ 1000000) (hl3 : Z.length ≤ 1000000) :
    Calls Try.prog 31 #[.agg #[.int .i64 2, .string s, p, t, z]] w fun e w' => e = .returned (.bool ((decide (s = ByteArray.empty) && (decide (T.length = 0) && decide (Z.length = 0))) && (decide (0 < P.length) && (decide (P.length ≤ 512) && allN P.length (okP P))))) ∧ Ext w w' := by
  obtain ⟨hp, ht, hz⟩ := id hx
  simp only at hp ht hz
  obtain ⟨a1, c1, rfl, hp1, hp2⟩ := len_of' hp
  obtain ⟨a2, c2, rfl, ht1, ht2⟩ := len_of' ht
  obtain ⟨a3, c3, rfl, hz1, hz2⟩ := len_of' hz
  unfold maxLen at hts
  have hx0 : Ext w (w.alloc (.cells #[.int .i64 2, .string s, .slice a1 P.length c1, .slice a2 T.length c2, .slice a3 Z.length c3] 30)) := (Ext.refl w).alloc _
  have HB : Hid (w.heap.size < (w.alloc (.cells #[.int .i64 2, .string s, .slice a1 P.length c1, .slice a2 T.length c2, .slice a3 Z.length c3] 30)).heap.size) := Lib.hid (by simp)
  have HA := Lib.hid (heap_alloc_new w (.cells #[.int .i64 2, .string s, .slice a1 P.length c1, .slice a2 T.length c2, .slice a3 Z.length c3] 30))
  have Hx := Lib.hid hx
  have Hx0 := Lib.hid hx0
  have Hp := Lib.hid hp
  have Ht := Lib.hid ht
  have Hz := Lib.hid hz
  clear hx hp ht hz hx0
  cases hb : (decide (s = ByteArray.empty) && (decide (T.length = 0) && decide (Z.length = 0))) with
  | false =>
    have Hb := Lib.hid hb
    rw [Bool.false_and]
    clear hb
    obtain ⟨c0, _⟩ := cells_at (i := 0) (v := .int .i64 2) HA.out rfl
    obtain ⟨c1', _⟩ := cells_at (i := 1) (v := .string s) HA.out rfl
    obtain ⟨c2', _⟩ := cells_at (i := 2) (v := .slice a1 P.length c1) HA.out rfl
    obtain ⟨c3', _⟩ := cells_at (i := 3) (v := .slice a2 T.length c2) HA.out rfl
    obtain ⟨c4', _⟩ := cells_at (i := 4) (v := .slice a3 Z.length c3) HA.out rfl
    go_enter Try.func31, Try.ntmps31
    go_wp2_with fail
    refine (bare_hash ⟨2, s, P, T, Z⟩ _ _ _ _ (Hx.out.mono Hx0.out)).mono ?_
    rintro e w1 ⟨rfl, hx1⟩
    simp only
    rw [Hb.out]
    clear c0 c1' c2' c3' c4'
    go_wp2_with fail
    go_ret
    exact ⟨by first | rfl | simp, Hx0.out.then hx1⟩
  | true =>
    have Hb := Lib.hid hb
    rw [Bool.true_and]
    clear hb
    by_cases h0 : 0 < P.length
    · have hd : decide ((0 : Int) < (P.length : Int)) = true := decide_eq_true (by omega)
      rw [decide_eq_true h0, Bool.true_and]
      generalize hq : (decide (P.length ≤ 512) && allN P.length (okP P)) = q
      have Hq := Lib.hid hq
      clear hq
      obtain ⟨c0, _⟩ := cells_at (i := 0) (v := .int .i64 2) HA.out rfl
      obtain ⟨c1', _⟩ := cells_at (i := 1) (v := .string s) HA.out rfl
      obtain ⟨c2', _⟩ := cells_at (i := 2) (v := .slice a1 P.length c1) HA.out rfl
      obtain ⟨c3', _⟩ := cells_at (i := 3) (v := .slice a2 T.length c2) HA.out rfl
      obtain ⟨c4', _⟩ := cells_at (i := 4) (v := .slice a3 Z.length c3) HA.out rfl
      go_enter Try.func31, Try.ntmps31
      go_wp2_with fail
      refine (bare_hash ⟨2, s, P, T, Z⟩ _ _ _ _ (Hx.out.mono Hx0.out)).mono ?_
      rintro e w1 ⟨rfl, hx1⟩
      simp only
      rw [Hb.out]
      clear c0 c1' c2' c3' c4'
      obtain ⟨d2, _⟩ := cells_at (i := 2) (v := .slice a1 P.length c1) ((hx1.block _ HB.out).trans HA.out) rfl
      have hown := Hp.out.mono rPr_mono (Hx0.out.then hx1)
      go_wp2_with fail
      refine (hashright_any _ P _ hown).mono ?_
      rintro e w2 ⟨rfl, hx2⟩
      rw [Hq.out]
      go_wp2_with fail
      go_ret
      exact ⟨by first | rfl | simp, (Hx0.out.then hx1).then hx2⟩
    · have hd : decide ((0 : Int) < (P.length : Int)) = false := decide_eq_false (by omega)
      rw [decide_eq_false h0, Bool.false_and]
      have hd' : decide (0 < P.length) = false := decide_eq_false h0
      clear h0
      obtain ⟨c0, _⟩ := cells_at (i := 0) (v := .int .i64 2) HA.out rfl
      obtain ⟨c1', _⟩ := cells_at (i := 1) (v := .string s) HA.out rfl
      obtain ⟨c2', _⟩ := cells_at (i := 2) (v := .slice a1 P.length c1) HA.out rfl
      obtain ⟨c3', _⟩ := cells_at (i := 3) (v := .slice a2 T.length c2) HA.out rfl
      obtain ⟨c4', _⟩ := cells_at (i := 4) (v := .slice a3 Z.length c3) HA.out rfl
      go_enter Try.func31, Try.ntmps31
      go_wp2_with fail
      refine (bare_hash ⟨2, s, P, T, Z⟩ _ _ _ _ (Hx.out.mono Hx0.out)).mono ?_
      rintro e w1 ⟨rfl, hx1⟩
      simp only
      rw [Hb.out]
      clear c0 c1' c2' c3' c4'
      obtain ⟨d2, _⟩ := cells_at (i := 2) (v := .slice a1 P.length c1) ((hx1.block _ HB.out).trans HA.out) rfl
      go_wp2_with fail
      go_ret
      exact ⟨by first | rfl | simp, Hx0.out.then hx1⟩
set_option maxRecDepth 100000 in
set_option maxHeartbeats 1000000 in
theorem vr_list (s : ByteArray) (P : List (ByteArray × ByteArray)) (T : List ByteArray) (Z : List (Int × ByteArray)) (p t z : Value) (w : World) (hx : Parts w p t z ⟨3, s, P, T, Z⟩) (hts : s.size ≤ maxLen) (hl2 : T.length ≤ 1000000) (hl3 : Z.length ≤ 1000000) :
    Calls Try.prog 31 #[.agg #[.int .i64 3, .string s, p, t, z]] w fun e w' => e = .returned (.bool ((decide (s = ByteArray.empty) && (decide (P.length = 0) && decide (Z.length = 0))) && (decide (0 < T.length) && (decide (T.length ≤ 512) && !T.any longB)))) ∧ Ext w w' := by
  obtain ⟨hp, ht, hz⟩ := id hx
  simp only at hp ht hz
  obtain ⟨a1, c1, rfl, hp1, hp2⟩ := len_of' hp
  obtain ⟨a2, c2, rfl, ht1, ht2⟩ := len_of' ht
  obtain ⟨a3, c3, rfl, hz1, hz2⟩ := len_of' hz
  unfold maxLen at hts
  have hx0 : Ext w (w.alloc (.cells #[.int .i64 3, .string s, .slice a1 P.length c1, .slice a2 T.length c2, .slice a3 Z.length c3] 30)) := (Ext.refl w).alloc _
  have HB : Hid (w.heap.size < (w.alloc (.cells #[.int .i64 3, .string s, .slice a1 P.length c1, .slice a2 T.length c2, .slice a3 Z.length c3] 30)).heap.size) := Lib.hid (by simp)
  have HA := Lib.hid (heap_alloc_new w (.cells #[.int .i64 3, .string s, .slice a1 P.length c1, .slice a2 T.length c2, .slice a3 Z.length c3] 30))
  have Hx := Lib.hid hx
  have Hx0 := Lib.hid hx0
  have Hp := Lib.hid hp
  have Ht := Lib.hid ht
  have Hz := Lib.hid hz
  clear hx hp ht hz hx0
  cases hb : (decide (s = ByteArray.empty) && (decide (P.length = 0) && decide (Z.length = 0))) with
  | false =>
    have Hb := Lib.hid hb
    rw [Bool.false_and]
    clear hb
    obtain ⟨c0, _⟩ := cells_at (i := 0) (v := .int .i64 3) HA.out rfl
    obtain ⟨c1', _⟩ := cells_at (i := 1) (v := .string s) HA.out rfl
    obtain ⟨c2', _⟩ := cells_at (i := 2) (v := .slice a1 P.length c1) HA.out rfl
    obtain ⟨c3', _⟩ := cells_at (i := 3) (v := .slice a2 T.length c2) HA.out rfl
    obtain ⟨c4', _⟩ := cells_at (i := 4) (v := .slice a3 Z.length c3) HA.out rfl
    go_enter Try.func31, Try.ntmps31
    go_wp2_with fail
    refine (bare_list ⟨3, s, P, T, Z⟩ _ _ _ _ (Hx.out.mono Hx0.out)).mono ?_
    rintro e w1 ⟨rfl, hx1⟩
    simp only
    rw [Hb.out]
    clear c0 c1' c2' c3' c4'
    go_wp2_with fail
    go_ret
    exact ⟨by first | rfl | simp, Hx0.out.then hx1⟩
  | true =>
    have Hb := Lib.hid hb
    rw [Bool.true_and]
    clear hb
    by_cases h0 : 0 < T.length
    · have hd : decide ((0 : Int) < (T.length : Int)) = true := decide_eq_true (by omega)
      rw [decide_eq_true h0, Bool.true_and]
      generalize hq : (decide (T.length ≤ 512) && !T.any longB) = q
      have Hq := Lib.hid hq
      clear hq
      obtain ⟨c0, _⟩ := cells_at (i := 0) (v := .int .i64 3) HA.out rfl
      obtain ⟨c1', _⟩ := cells_at (i := 1) (v := .string s) HA.out rfl
      obtain ⟨c2', _⟩ := cells_at (i := 2) (v := .slice a1 P.length c1) HA.out rfl
      obtain ⟨c3', _⟩ := cells_at (i := 3) (v := .slice a2 T.length c2) HA.out rfl
      obtain ⟨c4', _⟩ := cells_at (i := 4) (v := .slice a3 Z.length c3) HA.out rfl
      go_enter Try.func31, Try.ntmps31
      go_wp2_with fail
      refine (bare_list ⟨3, s, P, T, Z⟩ _ _ _ _ (Hx.out.mono Hx0.out)).mono ?_
      rintro e w1 ⟨rfl, hx1⟩
      simp only
      rw [Hb.out]
      clear c0 c1' c2' c3' c4'
      obtain ⟨d3, _⟩ := cells_at (i := 3) (v := .slice a2 T.length c2) ((hx1.block _ HB.out).trans HA.out) rfl
      have hown := Ht.out.mono rStr_mono (Hx0.out.then hx1)
      go_wp2_with fail
      refine (right_any _ T _ hown hl2).mono ?_
      rintro e w2 ⟨rfl, hw2⟩
      rw [Hq.out, hw2]
      go_wp2_with fail
      go_ret
      exact ⟨by first | rfl | simp, Hx0.out.then hx1⟩
    · have hd : decide ((0 : Int) < (T.length : Int)) = false := decide_eq_false (by omega)
      rw [decide_eq_false h0, Bool.false_and]
      have hd' : decide (0 < T.length) = false := decide_eq_false h0
      clear h0
      obtain ⟨c0, _⟩ := cells_at (i := 0) (v := .int .i64 3) HA.out rfl
      obtain ⟨c1', _⟩ := cells_at (i := 1) (v := .string s) HA.out rfl
      obtain ⟨c2', _⟩ := cells_at (i := 2) (v := .slice a1 P.length c1) HA.out rfl
      obtain ⟨c3', _⟩ := cells_at (i := 3) (v := .slice a2 T.length c2) HA.out rfl
      obtain ⟨c4', _⟩ := cells_at (i := 4) (v := .slice a3 Z.length c3) HA.out rfl
      go_enter Try.func31, Try.ntmps31
      go_wp2_with fail
      refine (bare_list ⟨3, s, P, T, Z⟩ _ _ _ _ (Hx.out.mono Hx0.out)).mono ?_
      rintro e w1 ⟨rfl, hx1⟩
      simp only
      rw [Hb.out]
      clear c0 c1' c2' c3' c4'
      obtain ⟨d3, _⟩ := cells_at (i := 3) (v := .slice a2 T.length c2) ((hx1.block _ HB.out).trans HA.out) rfl
      go_wp2_with fail
      go_ret
      exact ⟨by first | rfl | simp, Hx0.out.then hx1⟩
set_option maxRecDepth 100000 in
set_option maxHeartbeats 1000000 in
theorem vr_set (s : ByteArray) (P : List (ByteArray × ByteArray)) (T : List ByteArray) (Z : List (Int × ByteArray)) (p t z : Value) (w : World) (hx : Parts w p t z ⟨4, s, P, T, Z⟩) (hts : s.size ≤ maxLen) (hl2 : T.length ≤ 1000000) (hl3 : Z.length ≤ 1000000) :
    Calls Try.prog 31 #[.agg #[.int .i64 4, .string s, p, t, z]] w fun e w' => e = .returned (.bool ((decide (s = ByteArray.empty) && (decide (P.length = 0) && decide (Z.length = 0))) && (decide (0 < T.length) && rightT T))) ∧ Ext w w' := by
  obtain ⟨hp, ht, hz⟩ := id hx
  simp only at hp ht hz
  obtain ⟨a1, c1, rfl, hp1, hp2⟩ := len_of' hp
  obtain ⟨a2, c2, rfl, ht1, ht2⟩ := len_of' ht
  obtain ⟨a3, c3, rfl, hz1, hz2⟩ := len_of' hz
  unfold maxLen at hts
  have hx0 : Ext w (w.alloc (.cells #[.int .i64 4, .string s, .slice a1 P.length c1, .slice a2 T.length c2, .slice a3 Z.length c3] 30)) := (Ext.refl w).alloc _
  have HB : Hid (w.heap.size < (w.alloc (.cells #[.int .i64 4, .string s, .slice a1 P.length c1, .slice a2 T.length c2, .slice a3 Z.length c3] 30)).heap.size) := Lib.hid (by simp)
  have HA := Lib.hid (heap_alloc_new w (.cells #[.int .i64 4, .string s, .slice a1 P.length c1, .slice a2 T.length c2, .slice a3 Z.length c3] 30))
  have Hx := Lib.hid hx
  have Hx0 := Lib.hid hx0
  have Hp := Lib.hid hp
  have Ht := Lib.hid ht
  have Hz := Lib.hid hz
  clear hx hp ht hz hx0
  cases hb : (decide (s = ByteArray.empty) && (decide (P.length = 0) && decide (Z.length = 0))) with
  | false =>
    have Hb := Lib.hid hb
    rw [Bool.false_and]
    clear hb
    obtain ⟨c0, _⟩ := cells_at (i := 0) (v := .int .i64 4) HA.out rfl
    obtain ⟨c1', _⟩ := cells_at (i := 1) (v := .string s) HA.out rfl
    obtain ⟨c2', _⟩ := cells_at (i := 2) (v := .slice a1 P.length c1) HA.out rfl
    obtain ⟨c3', _⟩ := cells_at (i := 3) (v := .slice a2 T.length c2) HA.out rfl
    obtain ⟨c4', _⟩ := cells_at (i := 4) (v := .slice a3 Z.length c3) HA.out rfl
    go_enter Try.func31, Try.ntmps31
    go_wp2_with fail
    refine (bare_list ⟨4, s, P, T, Z⟩ _ _ _ _ (Hx.out.mono Hx0.out)).mono ?_
    rintro e w1 ⟨rfl, hx1⟩
    simp only
    rw [Hb.out]
    clear c0 c1' c2' c3' c4'
    go_wp2_with fail
    go_ret
    exact ⟨by first | rfl | simp, Hx0.out.then hx1⟩
  | true =>
    have Hb := Lib.hid hb
    rw [Bool.true_and]
    clear hb
    by_cases h0 : 0 < T.length
    · have hd : decide ((0 : Int) < (T.length : Int)) = true := decide_eq_true (by omega)
      rw [decide_eq_true h0, Bool.true_and]
      generalize hq : rightT T = q
      have Hq := Lib.hid hq
      clear hq
      obtain ⟨c0, _⟩ := cells_at (i := 0) (v := .int .i64 4) HA.out rfl
      obtain ⟨c1', _⟩ := cells_at (i := 1) (v := .string s) HA.out rfl
      obtain ⟨c2', _⟩ := cells_at (i := 2) (v := .slice a1 P.length c1) HA.out rfl
      obtain ⟨c3', _⟩ := cells_at (i := 3) (v := .slice a2 T.length c2) HA.out rfl
      obtain ⟨c4', _⟩ := cells_at (i := 4) (v := .slice a3 Z.length c3) HA.out rfl
      go_enter Try.func31, Try.ntmps31
      go_wp2_with fail
      refine (bare_list ⟨4, s, P, T, Z⟩ _ _ _ _ (Hx.out.mono Hx0.out)).mono ?_
      rintro e w1 ⟨rfl, hx1⟩
      simp only
      rw [Hb.out]
      clear c0 c1' c2' c3' c4'
      obtain ⟨d3, _⟩ := cells_at (i := 3) (v := .slice a2 T.length c2) ((hx1.block _ HB.out).trans HA.out) rfl
      have hown := Ht.out.mono rStr_mono (Hx0.out.then hx1)
      go_wp2_with fail
      refine (setright_any _ T _ hown).mono ?_
      rintro e w2 ⟨rfl, hw2⟩
      rw [Hq.out, hw2]
      go_wp2_with fail
      go_ret
      exact ⟨by first | rfl | simp, Hx0.out.then hx1⟩
    · have hd : decide ((0 : Int) < (T.length : Int)) = false := decide_eq_false (by omega)
      rw [decide_eq_false h0, Bool.false_and]
      have hd' : decide (0 < T.length) = false := decide_eq_false h0
      clear h0
      obtain ⟨c0, _⟩ := cells_at (i := 0) (v := .int .i64 4) HA.out rfl
      obtain ⟨c1', _⟩ := cells_at (i := 1) (v := .string s) HA.out rfl
      obtain ⟨c2', _⟩ := cells_at (i := 2) (v := .slice a1 P.length c1) HA.out rfl
      obtain ⟨c3', _⟩ := cells_at (i := 3) (v := .slice a2 T.length c2) HA.out rfl
      obtain ⟨c4', _⟩ := cells_at (i := 4) (v := .slice a3 Z.length c3) HA.out rfl
      go_enter Try.func31, Try.ntmps31
      go_wp2_with fail
      refine (bare_list ⟨4, s, P, T, Z⟩ _ _ _ _ (Hx.out.mono Hx0.out)).mono ?_
      rintro e w1 ⟨rfl, hx1⟩
      simp only
      rw [Hb.out]
      clear c0 c1' c2' c3' c4'
      obtain ⟨d3, _⟩ := cells_at (i := 3) (v := .slice a2 T.length c2) ((hx1.block _ HB.out).trans HA.out) rfl
      go_wp2_with fail
      go_ret
      exact ⟨by first | rfl | simp, Hx0.out.then hx1⟩
set_option maxRecDepth 100000 in
set_option maxHeartbeats 1000000 in
theorem vr_zset (s : ByteArray) (P : List (ByteArray × ByteArray)) (T : List ByteArray) (Z : List (Int × ByteArray)) (p t z : Value) (w : World) (hx : Parts w p t z ⟨5, s, P, T, Z⟩) (hts : s.size ≤ maxLen) (hl2 : T.length ≤ 1000000) (hl3 : Z.length ≤ 1000000) :
    Calls Try.prog 31 #[.agg #[.int .i64 5, .string s, p, t, z]] w fun e w' => e = .returned (.bool ((decide (s = ByteArray.empty) && (decide (P.length = 0) && decide (T.length = 0))) && (decide (0 < Z.length) && rightZ Z))) ∧ Ext w w' := by
  obtain ⟨hp, ht, hz⟩ := id hx
  simp only at hp ht hz
  obtain ⟨a1, c1, rfl, hp1, hp2⟩ := len_of' hp
  obtain ⟨a2, c2, rfl, ht1, ht2⟩ := len_of' ht
  obtain ⟨a3, c3, rfl, hz1, hz2⟩ := len_of' hz
  unfold maxLen at hts
  have hx0 : Ext w (w.alloc (.cells #[.int .i64 5, .string s, .slice a1 P.length c1, .slice a2 T.length c2, .slice a3 Z.length c3] 30)) := (Ext.refl w).alloc _
  have HB : Hid (w.heap.size < (w.alloc (.cells #[.int .i64 5, .string s, .slice a1 P.length c1, .slice a2 T.length c2, .slice a3 Z.length c3] 30)).heap.size) := Lib.hid (by simp)
  have HA := Lib.hid (heap_alloc_new w (.cells #[.int .i64 5, .string s, .slice a1 P.length c1, .slice a2 T.length c2, .slice a3 Z.length c3] 30))
  have Hx := Lib.hid hx
  have Hx0 := Lib.hid hx0
  have Hp := Lib.hid hp
  have Ht := Lib.hid ht
  have Hz := Lib.hid hz
  clear hx hp ht hz hx0
  cases hb : (decide (s = ByteArray.empty) && (decide (P.length = 0) && decide (T.length = 0))) with
  | false =>
    have Hb := Lib.hid hb
    rw [Bool.false_and]
    clear hb
    obtain ⟨c0, _⟩ := cells_at (i := 0) (v := .int .i64 5) HA.out rfl
    obtain ⟨c1', _⟩ := cells_at (i := 1) (v := .string s) HA.out rfl
    obtain ⟨c2', _⟩ := cells_at (i := 2) (v := .slice a1 P.length c1) HA.out rfl
    obtain ⟨c3', _⟩ := cells_at (i := 3) (v := .slice a2 T.length c2) HA.out rfl
    obtain ⟨c4', _⟩ := cells_at (i := 4) (v := .slice a3 Z.length c3) HA.out rfl
    go_enter Try.func31, Try.ntmps31
    go_wp2_with fail
    refine (bare_zset ⟨5, s, P, T, Z⟩ _ _ _ _ (Hx.out.mono Hx0.out)).mono ?_
    rintro e w1 ⟨rfl, hx1⟩
    simp only
    rw [Hb.out]
    clear c0 c1' c2' c3' c4'
    go_wp2_with fail
    go_ret
    exact ⟨by first | rfl | simp, Hx0.out.then hx1⟩
  | true =>
    have Hb := Lib.hid hb
    rw [Bool.true_and]
    clear hb
    by_cases h0 : 0 < Z.length
    · have hd : decide ((0 : Int) < (Z.length : Int)) = true := decide_eq_true (by omega)
      rw [decide_eq_true h0, Bool.true_and]
      generalize hq : rightZ Z = q
      have Hq := Lib.hid hq
      clear hq
      obtain ⟨c0, _⟩ := cells_at (i := 0) (v := .int .i64 5) HA.out rfl
      obtain ⟨c1', _⟩ := cells_at (i := 1) (v := .string s) HA.out rfl
      obtain ⟨c2', _⟩ := cells_at (i := 2) (v := .slice a1 P.length c1) HA.out rfl
      obtain ⟨c3', _⟩ := cells_at (i := 3) (v := .slice a2 T.length c2) HA.out rfl
      obtain ⟨c4', _⟩ := cells_at (i := 4) (v := .slice a3 Z.length c3) HA.out rfl
      go_enter Try.func31, Try.ntmps31
      go_wp2_with fail
      refine (bare_zset ⟨5, s, P, T, Z⟩ _ _ _ _ (Hx.out.mono Hx0.out)).mono ?_
      rintro e w1 ⟨rfl, hx1⟩
      simp only
      rw [Hb.out]
      clear c0 c1' c2' c3' c4'
      obtain ⟨d4, _⟩ := cells_at (i := 4) (v := .slice a3 Z.length c3) ((hx1.block _ HB.out).trans HA.out) rfl
      have hown := Hz.out.mono rMb_mono (Hx0.out.then hx1)
      go_wp2_with fail
      refine (zsetright_any _ Z _ hown hl3).mono ?_
      rintro e w2 ⟨rfl, hx2⟩
      rw [Hq.out]
      go_wp2_with fail
      go_ret
      exact ⟨by first | rfl | simp, (Hx0.out.then hx1).then hx2⟩
    · have hd : decide ((0 : Int) < (Z.length : Int)) = false := decide_eq_false (by omega)
      rw [decide_eq_false h0, Bool.false_and]
      have hd' : decide (0 < Z.length) = false := decide_eq_false h0
      clear h0
      obtain ⟨c0, _⟩ := cells_at (i := 0) (v := .int .i64 5) HA.out rfl
      obtain ⟨c1', _⟩ := cells_at (i := 1) (v := .string s) HA.out rfl
      obtain ⟨c2', _⟩ := cells_at (i := 2) (v := .slice a1 P.length c1) HA.out rfl
      obtain ⟨c3', _⟩ := cells_at (i := 3) (v := .slice a2 T.length c2) HA.out rfl
      obtain ⟨c4', _⟩ := cells_at (i := 4) (v := .slice a3 Z.length c3) HA.out rfl
      go_enter Try.func31, Try.ntmps31
      go_wp2_with fail
      refine (bare_zset ⟨5, s, P, T, Z⟩ _ _ _ _ (Hx.out.mono Hx0.out)).mono ?_
      rintro e w1 ⟨rfl, hx1⟩
      simp only
      rw [Hb.out]
      clear c0 c1' c2' c3' c4'
      obtain ⟨d4, _⟩ := cells_at (i := 4) (v := .slice a3 Z.length c3) ((hx1.block _ HB.out).trans HA.out) rfl
      go_wp2_with fail
      go_ret
      exact ⟨by first | rfl | simp, Hx0.out.then hx1⟩
set_option maxRecDepth 100000 in
set_option maxHeartbeats 1000000 in
theorem vr_odd (k : Int) (s : ByteArray) (p t z : Value) (w : World) (hk : k < 1 ∨ 5 < k) :
    Calls Try.prog 31 #[.agg #[.int .i64 k, .string s, p, t, z]] w fun e w' => e = .returned (.bool false) ∧ Ext w w' := by
  have e1 : (k == 1) = false := beq_eq_false_iff_ne.2 (by omega)
  have e2 : (k == 2) = false := beq_eq_false_iff_ne.2 (by omega)
  have e3 : (k == 3) = false := beq_eq_false_iff_ne.2 (by omega)
  have e4 : (k == 4) = false := beq_eq_false_iff_ne.2 (by omega)
  have e5 : (k == 5) = false := beq_eq_false_iff_ne.2 (by omega)
  obtain ⟨c0, _⟩ := cells_at (i := 0) (v := .int .i64 k) (heap_alloc_new w (.cells #[.int .i64 k, .string s, p, t, z] 30)) rfl
  clear hk
  go_enter Try.func31, Try.ntmps31
  go_wp2
  go_ret
  exact ⟨by first | rfl | simp, (Ext.refl w).alloc _⟩
theorem any_allN (T : List ByteArray) : allN T.length (fun k => match T[k]? with | some s => !decide (4096 < s.size) | none => true) = !T.any longB := by
  cases h : T.any longB with
  | true =>
    obtain ⟨s, hs, hb⟩ := List.any_eq_true.1 h
    obtain ⟨i, hi, e⟩ := List.getElem_of_mem hs
    refine allN_false hi ?_
    simp only [List.getElem?_eq_getElem hi, e]
    unfold longB at hb
    rw [hb]; rfl
  | false =>
    refine allN_true fun k hk => ?_
    simp only [List.getElem?_eq_getElem hk]
    have := List.any_eq_false.1 h _ (List.getElem_mem hk)
    unfold longB at this
    simpa using this
theorem vright_any (x : Val) (p t z : Value) (w : World) (hx : Parts w p t z x) (hts : x.text.size ≤ maxLen) (hl2 : x.texts.length ≤ 1000000) (hl3 : x.zset.length ≤ 1000000) :
    Calls Try.prog 31 #[.agg #[.int .i64 x.kind, .string x.text, p, t, z]] w fun e w' => e = .returned (.bool (rightV x)) ∧ Ext w w' := by
  obtain ⟨k, s, P, T, Z⟩ := x
  simp only at hts hl2 hl3 ⊢
  by_cases hk : k < 1 ∨ 5 < k
  · have e : rightV ⟨k, s, P, T, Z⟩ = false := if_pos (by unfold oddV; simp only; rcases hk with h | h <;> simp [h])
    rw [e]
    exact vr_odd k s p t z w hk
  · have hk5 : k = 1 ∨ k = 2 ∨ k = 3 ∨ k = 4 ∨ k = 5 := by omega
    clear hk
    have n0 : ∀ n : Nat, decide (0 < n) = !decide (n = 0) := fun n => by cases n <;> simp
    have n1 : ∀ s : ByteArray, decide (s ≠ ByteArray.empty) = !decide (s = ByteArray.empty) := fun s => by by_cases h : s = ByteArray.empty <;> simp [h]
    rcases hk5 with rfl | rfl | rfl | rfl | rfl
    · have e : rightV ⟨1, s, P, T, Z⟩ = ((decide (P.length = 0) && (decide (T.length = 0) && decide (Z.length = 0))) && decide (s.size ≤ 4096)) := by
        unfold rightV oddV
        simp only [n0]
        cases decide (P.length = 0) <;> cases decide (T.length = 0) <;> cases decide (Z.length = 0) <;> simp
      rw [e]; exact vr_str s P T Z p t z w hx hts hl2 hl3
    · have e : rightV ⟨2, s, P, T, Z⟩ = ((decide (s = ByteArray.empty) && (decide (T.length = 0) && decide (Z.length = 0))) && (decide (0 < P.length) && rightP P)) := by
        unfold rightV oddV
        simp only [n0, n1]
        cases decide (s = ByteArray.empty) <;> cases decide (P.length = 0) <;> cases decide (T.length = 0) <;> cases decide (Z.length = 0) <;> simp
      rw [e]; exact vr_hash s P T Z p t z w hx hts hl2 hl3
    · have e : rightV ⟨3, s, P, T, Z⟩ = ((decide (s = ByteArray.empty) && (decide (P.length = 0) && decide (Z.length = 0))) && (decide (0 < T.length) && (decide (T.length ≤ 512) && !T.any longB))) := by
        unfold rightV oddV
        simp only [n0, n1]
        cases decide (s = ByteArray.empty) <;> cases decide (P.length = 0) <;> cases decide (T.length = 0) <;> cases decide (Z.length = 0) <;> cases decide (T.length ≤ 512) <;> cases hq : T.any longB <;> simp
        all_goals exact (any_allN T).trans (by rw [hq]; rfl)
      rw [e]; exact vr_list s P T Z p t z w hx hts hl2 hl3
    · have e : rightV ⟨4, s, P, T, Z⟩ = ((decide (s = ByteArray.empty) && (decide (P.length = 0) && decide (Z.length = 0))) && (decide (0 < T.length) && rightT T)) := by
        unfold rightV oddV
        simp only [n0, n1]
        cases decide (s = ByteArray.empty) <;> cases decide (P.length = 0) <;> cases decide (T.length = 0) <;> cases decide (Z.length = 0) <;> simp
      rw [e]; exact vr_set s P T Z p t z w hx hts hl2 hl3
    · have e : rightV ⟨5, s, P, T, Z⟩ = ((decide (s = ByteArray.empty) && (decide (P.length = 0) && decide (T.length = 0))) && (decide (0 < Z.length) && rightZ Z)) := by
        unfold rightV oddV
        simp only [n0, n1]
        cases decide (s = ByteArray.empty) <;> cases decide (P.length = 0) <;> cases decide (T.length = 0) <;> cases decide (Z.length = 0) <;> simp
      rw [e]; exact vr_zset s P T Z p t z w hx hts hl2 hl3
end Go.Proofs.Ythclkljdnmokcaa
