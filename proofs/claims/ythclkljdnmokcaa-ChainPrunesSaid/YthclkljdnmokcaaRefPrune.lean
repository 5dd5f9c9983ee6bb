/-
  The reference's Prune, walked.
-/
import Derived.Test.YthclkljdnmokcaaPrune
set_option linter.unusedVariables false
set_option linter.unusedSimpArgs false
namespace Go.Proofs.Ythclkljdnmokcaa
open Go.RowKit Go.Proofs

set_option maxRecDepth 100000 in
set_option maxHeartbeats 1000000 in
theorem refalive_any (x : Ver) (p t z : Value) (n : Int) (w : World) : Calls Try.prog 58 #[verV x p t z, .int .i64 n] w fun e w' => e = .returned (.bool (aliveB x n)) ∧ Ext w w' := by
  unfold verV aliveB
  have hx0 : Ext w (w.alloc (.cells #[.int .i64 x.stamp, .bool x.gone, .int .i64 x.expire, .int .i64 x.val.kind, .string x.val.text, p, t, z] 32)) := (Ext.refl w).alloc _
  obtain ⟨st, g, ex, v⟩ := x
  simp only at hx0 ⊢
  cases g with
  | true =>
    go_enter Try.func58, Try.ntmps58
    go_wp2
    go_ret
    exact ⟨rfl, hx0⟩
  | false =>
    by_cases he : ex = 0
    · subst he
      go_enter Try.func58, Try.ntmps58
      go_wp2
      go_ret
      exact ⟨by first | rfl | simp, hx0⟩
    · have h1 : (ex == 0) = false := beq_eq_false_iff_ne.2 he
      rw [decide_eq_false he]
      generalize hb : decide (n < ex) = b
      clear he
      go_enter Try.func58, Try.ntmps58
      go_wp2
      all_goals first | (go_ret; exact ⟨by first | rfl | simp, hx0⟩) | (exfalso; simp_all; done)
/-- a version whose slices are read in a world that stands -/
def rVerAt (w0 : World) : Rep Ver := ⟨8, fun _ cs x => rVer.rel w0 cs x⟩
theorem rVerAt_flat (w0 : World) : (rVerAt w0).Flat := fun _ _ _ _ h => h
theorem rVerAt_one (w0 : World) : (rVerAt w0).One := fun w cs x h => by
  obtain ⟨p, t, z, rfl, _, _, _, _, hp⟩ := h
  obtain ⟨_, _, rfl, _⟩ := hp.1
  obtain ⟨_, _, rfl, _⟩ := hp.2.1
  obtain ⟨_, _, rfl, _⟩ := hp.2.2
  exact ⟨rfl, by simp [Value.oneCell']⟩
theorem SliceOf.atToVer {w w0 : World} (hx : Ext w0 w) {v : Value} {l : List Ver} (h : SliceOf (rVerAt w0) w v l) : SliceOf rVer w v l := by
  obtain ⟨a, cap, e, h1, h2, h0, h3⟩ := h
  refine ⟨a, cap, e, h1, h2, h0, fun hl => ?_⟩
  obtain ⟨g, o, ea, hlt, hc⟩ := h3 hl
  exact ⟨g, o, ea, hlt, fun j x hj => by obtain ⟨ecs, el, hcs, hre⟩ := hc j x hj; exact ⟨ecs, el, hcs, rVer_mono _ _ _ _ hx hre⟩⟩
theorem one_verW {G : Nat} (w w0 : World) (hg : G = w.heap.size) {x : Ver} {p t z : Value} (hok : VerOk w0 x p t z) {ty : TypeId} : SliceOf (rVerAt w0) (w.alloc (.cells #[.int .i64 x.stamp, .bool x.gone, .int .i64 x.expire, .int .i64 x.val.kind, .string x.val.text, p, t, z] ty)) (.slice (some ⟨G, 0, none⟩) 1 1) [x] := by
  subst hg
  refine sliceOf_heap (heap_alloc_new w _) [x] rfl (Nat.le_refl _) (by decide) fun j y hy => ?_
  obtain ⟨rfl, rfl⟩ : j = 0 ∧ x = y := by cases j <;> simp_all
  refine ⟨[.int .i64 x.stamp, .bool x.gone, .int .i64 x.expire, .int .i64 x.val.kind, .string x.val.text, p, t, z], rfl, fun i hi => ?_, p, t, z, rfl, hok.stamp, hok.expire, hok.kind, hok.text, hok.parts⟩
  simp
def keepR (l : List Ver) (mark clock : Int) (k : Nat) : Bool :=
  match l[k]? with
  | none => false
  | some x => decide (mark < x.stamp) || ((match l[k + 1]? with | none => true | some y => decide (mark < y.stamp)) && aliveB x clock)
def keptTo (l : List Ver) (mark clock : Int) (k : Nat) : List Ver := (List.range k).filterMap fun i => if keepR l mark clock i = true then l[i]? else none
theorem keptTo_succ (l : List Ver) (mark clock : Int) (k : Nat) {x : Ver} (hx : l[k]? = some x) : keptTo l mark clock (k + 1) = keptTo l mark clock k ++ (if keepR l mark clock k = true then [x] else []) := by
  unfold keptTo
  rw [List.range_succ, List.filterMap_append]
  congr 1
  by_cases h : keepR l mark clock k = true <;> simp [h, hx]
theorem keptTo_le (l : List Ver) (mark clock : Int) (k : Nat) : (keptTo l mark clock k).length ≤ k := by
  unfold keptTo
  exact Nat.le_trans (List.length_filterMap_le _ _) (by simp)
theorem keep_iff {l : List Ver} {mark clock : Int} {m : Nat} (h : PruneAt l mark clock m) {i : Nat} {x : Ver} (hx : l[i]? = some x) : keepR l mark clock i = decide (m ≤ i) := by
  obtain ⟨k, ⟨hk, h1, h2⟩, h3⟩ := h
  unfold keepR
  rw [hx]
  simp only
  by_cases hik : k ≤ i
  · have := h2 i x hx hik
    rw [decide_eq_true this, Bool.true_or, decide_eq_true (by rcases h3 with ⟨e, _⟩ | ⟨e, _⟩ <;> omega)]
  · have hst := h1 i x hx (by omega)
    rw [decide_eq_false (by omega), Bool.false_or]
    by_cases hi1 : i + 1 = k
    · have hlast : (match l[i + 1]? with | none => true | some y => decide (mark < y.stamp)) = true := by
        cases hy : l[i + 1]? with
        | none => rfl
        | some y => exact decide_eq_true (h2 (i + 1) y hy (by omega))
      rw [hlast, Bool.true_and]
      rcases h3 with ⟨e, ha⟩ | ⟨e, y, hy, ha⟩
      · rw [ha i x hi1 hx, decide_eq_false (by omega)]
      · obtain rfl : m = i := by omega
        rw [hx] at hy
        cases hy
        rw [ha, decide_eq_true (Nat.le_refl _)]
    · obtain ⟨y, hy⟩ : ∃ y, l[i + 1]? = some y := ⟨_, List.getElem?_eq_getElem (by omega)⟩
      have := h1 (i + 1) y hy (by omega)
      rw [hy]
      simp only
      rw [decide_eq_false (by omega), Bool.false_and, decide_eq_false (by rcases h3 with ⟨e, _⟩ | ⟨e, _⟩ <;> omega)]
theorem kept_drop {l : List Ver} {mark clock : Int} {m : Nat} (h : PruneAt l mark clock m) : ∀ k, k ≤ l.length → keptTo l mark clock k = (l.take k).drop m
  | 0, _ => by simp [keptTo]
  | k + 1, hk => by
    obtain ⟨x, hx⟩ : ∃ x, l[k]? = some x := ⟨_, List.getElem?_eq_getElem (by omega)⟩
    have hlk : (l.take k).length = k := by rw [List.length_take]; omega
    rw [keptTo_succ l mark clock k hx, kept_drop h k (by omega), keep_iff h hx, List.take_add_one, hx]
    simp only [Option.toList_some]
    by_cases hm : m ≤ k
    · rw [decide_eq_true hm, if_pos rfl, List.drop_append_of_le_length (by omega)]
    · rw [decide_eq_false hm, if_neg (by decide), List.append_nil, List.drop_of_length_le (by omega), List.drop_of_length_le (by rw [List.length_append, hlk]; simp; omega)]
set_option maxRecDepth 100000 in
set_option maxHeartbeats 4000000 in
theorem refprune_any (v : Value) (l : List Ver) (mark clock : Int) (w : World) (hv : SliceOf rVer w v l) (hl : l.length ≤ 1000) :
    Calls Try.prog 27 #[v, .int .i64 mark, .int .i64 clock] w fun e w' => ∃ v', e = .returned v' ∧ SliceOf rVer w' v' (keptTo l mark clock l.length) ∧ Ext w w' := by
  obtain ⟨a, cap, rfl, hle, hm⟩ := len_of' hv
  have Hv := Lib.hid hv
  go_enter Try.func27, Try.ntmps27
  go_wp2_with fail
  go_loopw [7, 8, 9] (fun s i _ wr => ∃ k : Nat, i = .int .i64 (k : Int) ∧ k ≤ l.length ∧ Own (rVerAt w) w.heap.size 32 wr s (keptTo l mark clock k) ∧ Ext w wr) (fun _ i _ _ => l.length - (intOf i).toNat)
  case atStart => exact ⟨0, rfl, by omega, Own.nil _ _ _ _, Ext.refl _⟩
  case round =>
    obtain ⟨k, rfl, hk, hown, hx0⟩ := hrel
    have Hown := Lib.hid hown
    have Hx0 := Lib.hid hx0
    clear hx0
    by_cases hlt : k < l.length
    · obtain ⟨x, hx⟩ : ∃ x, l[k]? = some x := ⟨_, List.getElem?_eq_getElem hlt⟩
      obtain ⟨g, o, p, t, z, rfl, hat, hok⟩ := Hv.out.atVer hx
      obtain ⟨pa, pc, rfl, _⟩ := id hok.parts.1
      obtain ⟨ta, tc, rfl, _⟩ := id hok.parts.2.1
      obtain ⟨za, zc, rfl, _⟩ := id hok.parts.2.2
      have HK := Lib.hid (keptTo_succ l mark clock k hx)
      have hKl := keptTo_le l mark clock k
      obtain ⟨L, hL⟩ : ∃ L, keptTo l mark clock k = L := ⟨_, rfl⟩
      rw [hL] at hown hKl
      have HL := Lib.hid hL
      obtain ⟨sa, sc, rfl, hsl, hsm⟩ := len_of' hown.slice
      have Hown2 := Lib.hid hown
      have HA : Hid (L.length + [x].length ≤ maxLen) := Lib.hid (by unfold maxLen; simp; omega)
      have HB : Hid ((L.length + [x].length) * 120 ≤ 140737488355328) := Lib.hid (by simp; omega)
      have HC : Hid (w.heap.size ≤ wr.heap.size) := Lib.hid Hx0.out.size
      have Hok := Lib.hid hok
      have Hx := Lib.hid hx
      have Hat := Lib.hid hat
      obtain ⟨c0, c1, c2, c3, c4, c5, c6, c7⟩ := hat.mono Hx0.out
      have hw1 : IntKind.i64.wrap ((l.length : Int) - 1) = (l.length : Int) - 1 := IntWalk.i64_in _ (by omega)
      clear hown hL hx hok hat
      by_cases hlast : k + 1 = l.length
      · have hb : ((k : Int) == (l.length : Int) - 1) = true := beq_iff_eq.2 (by omega)
        have Hlast : Hid ((match l[k + 1]? with | none => true | some y => decide (mark < y.stamp)) = true) := Lib.hid (by rw [List.getElem?_eq_none (by omega)])
        by_cases hms : mark < x.stamp
        · have hd : decide (mark < x.stamp) = true := decide_eq_true hms
          have Hkeep : Hid (keepR l mark clock k = true) := Lib.hid (by unfold keepR; rw [Hx.out]; simp only; rw [hd, Bool.true_or])
          go_wp2_with (at_builtin; (refine append_law rfl (.tmp 49) (.tmp 54) rfl el_V (rVerAt_one w) (.slice sa L.length sc) L rfl (Hown2.out.mono (rVerAt_flat w).mono ((Ext.refl _).alloc _)) _ [x] rfl (one_verW _ w rfl Hok.out) (fun _ _ _ _ _ h => h) HA.out HB.out (by have := HC.out; simp; omega) ?_); intro v4 w4 hown4 hg4; obtain ⟨A4, C4, hv4, _, _, _, _⟩ := id hown4.slice; subst hv4)
          have hx4 : Ext w w4 := ((Hx0.out).alloc _).grown hg4 ((Hx0.out).alloc _).size (fun q hq => Hown2.out.lt q hq)
          refine ⟨⟨k + 1, by go_num, by omega, ?_, hx4⟩, by simp [intOf]; omega⟩
          rw [HK.out, HL.out, Hkeep.out, if_pos rfl]
          simpa using hown4
        · have hd : decide (mark < x.stamp) = false := decide_eq_false hms
          have Hkv : Hid (keepR l mark clock k = aliveB x clock) := Lib.hid (by unfold keepR; rw [Hx.out]; simp only; rw [hd, Hlast.out]; rfl)
          go_wp2_with fail
          refine (refalive_any x _ _ _ clock _).mono ?_
          rintro e w2 ⟨rfl, hx2⟩
          have Hx2 := Lib.hid (Hx0.out.then hx2)
          have HC2 : Hid (w.heap.size ≤ w2.heap.size) := Lib.hid Hx2.out.size
          have Hxr := Lib.hid hx2
          clear c0 c1 c2 c3 c4 c5 c6 c7 hx2
          obtain ⟨c0, c1, c2, c3, c4, c5, c6, c7⟩ := Hat.out.mono Hx2.out
          cases ha : aliveB x clock with
          | true =>
            have Hkeep : Hid (keepR l mark clock k = true) := Lib.hid (by rw [Hkv.out, ha])
            clear ha
            go_wp2_with (at_builtin; (refine append_law rfl (.tmp 49) (.tmp 54) rfl el_V (rVerAt_one w) (.slice sa L.length sc) L rfl (Hown2.out.mono (rVerAt_flat w).mono (Hxr.out.alloc _)) _ [x] rfl (one_verW _ w rfl Hok.out) (fun _ _ _ _ _ h => h) HA.out HB.out (by have := HC2.out; simp; omega) ?_); intro v4 w4 hown4 hg4; obtain ⟨A4, C4, hv4, _, _, _, _⟩ := id hown4.slice; subst hv4)
            have hx4 : Ext w w4 := ((Hx2.out).alloc _).grown hg4 ((Hx2.out).alloc _).size (fun q hq => Hown2.out.lt q hq)
            refine ⟨⟨k + 1, by go_num, by omega, ?_, hx4⟩, by simp [intOf]; omega⟩
            rw [HK.out, HL.out, Hkeep.out, if_pos rfl]
            simpa using hown4
          | false =>
            have Hkeep : Hid (keepR l mark clock k = false) := Lib.hid (by rw [Hkv.out, ha])
            clear ha
            go_wp2_with fail
            refine ⟨⟨k + 1, by go_num, by omega, ?_, Hx2.out⟩, by simp [intOf]; omega⟩
            rw [HK.out, HL.out, Hkeep.out, if_neg (by decide), List.append_nil]
            exact Hown2.out.mono (rVerAt_flat w).mono Hxr.out
      · have hb : ((k : Int) == (l.length : Int) - 1) = false := beq_eq_false_iff_ne.2 (by omega)
        obtain ⟨y, hy⟩ : ∃ y, l[k + 1]? = some y := ⟨_, List.getElem?_eq_getElem (by omega)⟩
        obtain ⟨g', o', p', t', z', e', hat', _⟩ := Hv.out.atVer hy
        obtain ⟨rfl, rfl⟩ : g = g' ∧ o = o' := by simpa using e'
        have d0 := Hx0.out.cell hat'.c0
        have Hy := Lib.hid hy
        clear hat' hy e'
        have hkk : ((k + 1 : Nat) : Int) = (k : Int) + 1 := by omega
        by_cases hB : mark < y.stamp
        · have hdB : decide (mark < y.stamp) = true := decide_eq_true hB
          have Hlast : Hid ((match l[k + 1]? with | none => true | some y => decide (mark < y.stamp)) = true) := Lib.hid (by rw [Hy.out]; exact hdB)
          by_cases hms : mark < x.stamp
          · have hd : decide (mark < x.stamp) = true := decide_eq_true hms
            have Hkeep : Hid (keepR l mark clock k = true) := Lib.hid (by unfold keepR; rw [Hx.out]; simp only; rw [hd, Bool.true_or])
            go_wp2_with (at_builtin; (refine append_law rfl (.tmp 49) (.tmp 54) rfl el_V (rVerAt_one w) (.slice sa L.length sc) L rfl (Hown2.out.mono (rVerAt_flat w).mono ((Ext.refl _).alloc _)) _ [x] rfl (one_verW _ w rfl Hok.out) (fun _ _ _ _ _ h => h) HA.out HB.out (by have := HC.out; simp; omega) ?_); intro v4 w4 hown4 hg4; obtain ⟨A4, C4, hv4, _, _, _, _⟩ := id hown4.slice; subst hv4)
            have hx4 : Ext w w4 := ((Hx0.out).alloc _).grown hg4 ((Hx0.out).alloc _).size (fun q hq => Hown2.out.lt q hq)
            refine ⟨⟨k + 1, by go_num, by omega, ?_, hx4⟩, by simp [intOf]; omega⟩
            rw [HK.out, HL.out, Hkeep.out, if_pos rfl]
            simpa using hown4
          · have hd : decide (mark < x.stamp) = false := decide_eq_false hms
            have Hkv : Hid (keepR l mark clock k = aliveB x clock) := Lib.hid (by unfold keepR; rw [Hx.out]; simp only; rw [hd, Hlast.out]; rfl)
            go_wp2_with fail
            refine (refalive_any x _ _ _ clock _).mono ?_
            rintro e w2 ⟨rfl, hx2⟩
            have Hx2 := Lib.hid (Hx0.out.then hx2)
            have HC2 : Hid (w.heap.size ≤ w2.heap.size) := Lib.hid Hx2.out.size
            have Hxr := Lib.hid hx2
            clear c0 c1 c2 c3 c4 c5 c6 c7 hx2
            obtain ⟨c0, c1, c2, c3, c4, c5, c6, c7⟩ := Hat.out.mono Hx2.out
            cases ha : aliveB x clock with
            | true =>
              have Hkeep : Hid (keepR l mark clock k = true) := Lib.hid (by rw [Hkv.out, ha])
              clear ha
              go_wp2_with (at_builtin; (refine append_law rfl (.tmp 49) (.tmp 54) rfl el_V (rVerAt_one w) (.slice sa L.length sc) L rfl (Hown2.out.mono (rVerAt_flat w).mono (Hxr.out.alloc _)) _ [x] rfl (one_verW _ w rfl Hok.out) (fun _ _ _ _ _ h => h) HA.out HB.out (by have := HC2.out; simp; omega) ?_); intro v4 w4 hown4 hg4; obtain ⟨A4, C4, hv4, _, _, _, _⟩ := id hown4.slice; subst hv4)
              have hx4 : Ext w w4 := ((Hx2.out).alloc _).grown hg4 ((Hx2.out).alloc _).size (fun q hq => Hown2.out.lt q hq)
              refine ⟨⟨k + 1, by go_num, by omega, ?_, hx4⟩, by simp [intOf]; omega⟩
              rw [HK.out, HL.out, Hkeep.out, if_pos rfl]
              simpa using hown4
            | false =>
              have Hkeep : Hid (keepR l mark clock k = false) := Lib.hid (by rw [Hkv.out, ha])
              clear ha
              go_wp2_with fail
              refine ⟨⟨k + 1, by go_num, by omega, ?_, Hx2.out⟩, by simp [intOf]; omega⟩
              rw [HK.out, HL.out, Hkeep.out, if_neg (by decide), List.append_nil]
              exact Hown2.out.mono (rVerAt_flat w).mono Hxr.out
        · have hdB : decide (mark < y.stamp) = false := decide_eq_false hB
          have Hlast : Hid ((match l[k + 1]? with | none => true | some y => decide (mark < y.stamp)) = false) := Lib.hid (by rw [Hy.out]; exact hdB)
          by_cases hms : mark < x.stamp
          · have hd : decide (mark < x.stamp) = true := decide_eq_true hms
            have Hkeep : Hid (keepR l mark clock k = true) := Lib.hid (by unfold keepR; rw [Hx.out]; simp only; rw [hd, Bool.true_or])
            go_wp2_with (at_builtin; (refine append_law rfl (.tmp 49) (.tmp 54) rfl el_V (rVerAt_one w) (.slice sa L.length sc) L rfl (Hown2.out.mono (rVerAt_flat w).mono ((Ext.refl _).alloc _)) _ [x] rfl (one_verW _ w rfl Hok.out) (fun _ _ _ _ _ h => h) HA.out HB.out (by have := HC.out; simp; omega) ?_); intro v4 w4 hown4 hg4; obtain ⟨A4, C4, hv4, _, _, _, _⟩ := id hown4.slice; subst hv4)
            have hx4 : Ext w w4 := ((Hx0.out).alloc _).grown hg4 ((Hx0.out).alloc _).size (fun q hq => Hown2.out.lt q hq)
            refine ⟨⟨k + 1, by go_num, by omega, ?_, hx4⟩, by simp [intOf]; omega⟩
            rw [HK.out, HL.out, Hkeep.out, if_pos rfl]
            simpa using hown4
          · have hd : decide (mark < x.stamp) = false := decide_eq_false hms
            have Hkeep : Hid (keepR l mark clock k = false) := Lib.hid (by unfold keepR; rw [Hx.out]; simp only; rw [hd, Hlast.out]; rfl)
            go_wp2_with fail
            refine ⟨⟨k + 1, by go_num, by omega, ?_, Hx0.out⟩, by simp [intOf]; omega⟩
            rw [HK.out, HL.out, Hkeep.out, if_neg (by decide), List.append_nil]
            exact Hown2.out
    · obtain rfl : k = l.length := by omega
      clear hown
      go_wp2_with fail
      go_ret
      exact ⟨_, rfl, Hown.out.slice.atToVer Hx0.out, Hx0.out⟩
end Go.Proofs.Ythclkljdnmokcaa
