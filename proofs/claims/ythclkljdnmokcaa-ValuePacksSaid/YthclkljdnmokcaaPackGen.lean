/-
  value.Pack: walked.
-/
import Derived.Test.YthclkljdnmokcaaValRight
import Derived.Test.YthclkljdnmokcaaParse
set_option linter.unusedVariables false
set_option linter.unusedSimpArgs false
namespace Go.Proofs.Ythclkljdnmokcaa
open Go.RowKit Go.Proofs

/-- what a right value is, kind by kind -/
structure RightStr (x : Val) : Prop where
  k : x.kind = 1
  p : x.pairs = []
  t : x.texts = []
  z : x.zset = []
  s : x.text.size ≤ 4096
structure RightP (x : Val) : Prop where
  k : x.kind = 2
  e : x.text = ByteArray.empty
  t : x.texts = []
  z : x.zset = []
  n : 0 < x.pairs.length
  m : x.pairs.length ≤ 512
  s : ∀ y ∈ x.pairs, y.1.size ≤ 4096 ∧ y.2.size ≤ 4096
structure RightT (x : Val) : Prop where
  k : x.kind = 3 ∨ x.kind = 4
  e : x.text = ByteArray.empty
  p : x.pairs = []
  z : x.zset = []
  n : 0 < x.texts.length
  m : x.texts.length ≤ 512
  s : ∀ y ∈ x.texts, y.size ≤ 4096
structure RightZ (x : Val) : Prop where
  k : x.kind = 5
  e : x.text = ByteArray.empty
  p : x.pairs = []
  t : x.texts = []
  n : 0 < x.zset.length
  m : x.zset.length ≤ 512
  s : ∀ y ∈ x.zset, y.2.size ≤ 4096
theorem allN_at {n : Nat} {f : Nat → Bool} (h : allN n f = true) {k : Nat} (hk : k < n) : f k = true := by
  unfold allN at h
  exact List.all_eq_true.1 h k (List.mem_range.2 hk)
theorem right_kinds {x : Val} (h : rightV x = true) : RightStr x ∨ RightP x ∨ RightT x ∨ RightZ x := by
  unfold rightV at h
  split at h
  · cases h
  · rename_i ho
    have ho : oddV x = false := by simpa using ho
    unfold oddV at ho
    simp only [Bool.or_eq_false_iff, Bool.and_eq_false_iff, decide_eq_false_iff_not] at ho
    obtain ⟨o1, o2, o3, o4, o5, o6⟩ := ho
    have nil : ∀ {α : Type} (l : List α), ¬ 0 < l.length → l = [] := fun l hl => List.length_eq_zero_iff.1 (by omega)
    split at h
    · rename_i hk
      refine .inl ⟨hk, nil _ ?_, nil _ ?_, nil _ ?_, of_decide_eq_true h⟩
      · rcases o4 with o | o
        · exact absurd (by omega) o
        · exact o
      · rcases o5 with (o | o) | o
        · exact absurd (by omega) o
        · exact absurd (by omega) o
        · exact o
      · rcases o6 with o | o
        · exact absurd (by omega) o
        · exact o
    · rename_i hk1
      have he : x.text = ByteArray.empty := by
        rcases o3 with o | o
        · exact absurd hk1 o
        · simpa using o
      split at h
      · rename_i hk
        rw [Bool.and_eq_true] at h
        obtain ⟨h1, h2⟩ := h
        unfold rightP at h2
        rw [Bool.and_eq_true] at h2
        refine .inr (.inl ⟨hk, he, nil _ ?_, nil _ ?_, of_decide_eq_true h1, of_decide_eq_true h2.1, fun y hy => ?_⟩)
        · rcases o5 with (o | o) | o
          · exact absurd (by omega) o
          · exact absurd (by omega) o
          · exact o
        · rcases o6 with o | o
          · exact absurd (by omega) o
          · exact o
        · obtain ⟨i, hi, rfl⟩ := List.getElem_of_mem hy
          have := allN_at h2.2 hi
          unfold okP at this
          simp only [List.getElem?_eq_getElem hi] at this
          simp only [Bool.and_eq_true, Bool.not_eq_true', decide_eq_false_iff_not] at this
          omega
      · rename_i hk2
        split at h
        · rename_i hk
          rw [Bool.and_eq_true] at h
          obtain ⟨h1, h2⟩ := h
          unfold rightT at h2
          rw [Bool.and_eq_true] at h2
          refine .inr (.inr (.inl ⟨.inr hk, he, nil _ ?_, nil _ ?_, of_decide_eq_true h1, of_decide_eq_true h2.2, fun y hy => ?_⟩))
          · rcases o4 with o | o
            · exact absurd (by omega) o
            · exact o
          · rcases o6 with o | o
            · exact absurd (by omega) o
            · exact o
          · obtain ⟨i, hi, rfl⟩ := List.getElem_of_mem hy
            have := allN_at h2.1 hi
            unfold okT at this
            simp only [List.getElem?_eq_getElem hi] at this
            simp only [Bool.and_eq_true, Bool.not_eq_true', decide_eq_false_iff_not] at this
            omega
        · rename_i hk4
          split at h
          · rename_i hk
            rw [Bool.and_eq_true] at h
            obtain ⟨h1, h2⟩ := h
            unfold rightZ at h2
            rw [Bool.and_eq_true] at h2
            refine .inr (.inr (.inr ⟨hk, he, nil _ ?_, nil _ ?_, of_decide_eq_true h1, of_decide_eq_true h2.2, fun y hy => ?_⟩))
            · rcases o4 with o | o
              · exact absurd (by omega) o
              · exact o
            · rcases o5 with (o | o) | o
              · exact absurd (by omega) o
              · exact absurd (by omega) o
              · exact o
            · obtain ⟨i, hi, rfl⟩ := List.getElem_of_mem hy
              have := allN_at h2.1 hi
              unfold okZ at this
              simp only [List.getElem?_eq_getElem hi] at this
              simp only [Bool.and_eq_true, Bool.not_eq_true', decide_eq_false_iff_not] at this
              omega
          · rename_i hk5
            simp only [Bool.and_eq_true] at h
            obtain ⟨h1, h2, h3⟩ := h
            refine .inr (.inr (.inl ⟨.inl (by omega), he, nil _ ?_, nil _ ?_, of_decide_eq_true h2, of_decide_eq_true h3, fun y hy => ?_⟩))
            · rcases o4 with o | o
              · exact absurd (by omega) o
              · exact o
            · rcases o6 with o | o
              · exact absurd (by omega) o
              · exact o
            · obtain ⟨i, hi, rfl⟩ := List.getElem_of_mem hy
              have := allN_at h1 hi
              simp only [List.getElem?_eq_getElem hi] at this
              simp only [Bool.not_eq_true', decide_eq_false_iff_not] at this
              omega
theorem flat_le {α : Type} (f : α → List UInt8) (b : Nat) (l : List α) (h : ∀ x ∈ l, (f x).length ≤ b) : ((l.map f).flatten).length ≤ l.length * b := by
  induction l with
  | nil => simp
  | cons a l ih =>
    have h1 := h a (by simp)
    have h2 := ih (fun x hx => h x (by simp [hx]))
    simp only [List.map_cons, List.flatten_cons, List.length_append, List.length_cons, Nat.add_mul]
    omega
theorem packV_le {x : Val} (h : rightV x = true) : (packV x).length ≤ 4200000 := by
  unfold packV
  rcases right_kinds h with r | r | r | r
  · rw [if_pos r.k, textB_one, List.length_append, encT_length, octets_length]
    have := r.s
    omega
  · rw [if_neg (by rw [r.k]; decide), r.t, r.z]
    have h1 : (pairsB x.pairs).length ≤ x.pairs.length * 8196 := flat_le _ _ _ (fun y hy => by
      have := r.s y hy
      rw [textB_two, List.length_append, encT_length, encT_length]; omega)
    have h2 := r.m
    have : x.pairs.length * 8196 ≤ 512 * 8196 := Nat.mul_le_mul_right _ h2
    simp only [List.length_append, octets_length, textsB, zsetB, List.map_nil, List.flatten_nil, List.length_nil]
    omega
  · rw [if_neg (by rcases r.k with k | k <;> rw [k] <;> decide), r.p, r.z]
    have h1 : (textsB x.texts).length ≤ x.texts.length * 4098 := flat_le _ _ _ (fun y hy => by
      have := r.s y hy
      rw [encT_length]; omega)
    have h2 := r.m
    have : x.texts.length * 4098 ≤ 512 * 4098 := Nat.mul_le_mul_right _ h2
    simp only [List.length_append, octets_length, pairsB, zsetB, List.map_nil, List.flatten_nil, List.length_nil]
    omega
  · rw [if_neg (by rw [r.k]; decide), r.p, r.t]
    have h1 : (zsetB x.zset).length ≤ x.zset.length * 4106 := flat_le _ _ _ (fun y hy => by
      have := r.s y hy
      rw [textB_one, List.length_append, encT_length, octets_length]; omega)
    have h2 := r.m
    have : x.zset.length * 4106 ≤ 512 * 4106 := Nat.mul_le_mul_right _ h2
    simp only [List.length_append, octets_length, pairsB, textsB, List.map_nil, List.flatten_nil, List.length_nil]
    omega
/-- a value's cells, from a place on -/
structure ValAt (w : World) (g o : Nat) (x : Val) (p t z : Value) : Prop where
  c0 : w.cell? ⟨g, o, none⟩ = some (.int .i64 x.kind)
  c1 : w.cell? ⟨g, o + 1, none⟩ = some (.string x.text)
  c2 : w.cell? ⟨g, o + 2, none⟩ = some p
  c3 : w.cell? ⟨g, o + 3, none⟩ = some t
  c4 : w.cell? ⟨g, o + 4, none⟩ = some z
theorem SliceOf.atVal {w : World} {a : Option Addr} {n cap : Nat} {l : List Val} (h : SliceOf rVal w (.slice a n cap) l) {k : Nat} {x : Val} (hx : l[k]? = some x) :
    ∃ g o p t z, a = some ⟨g, o, none⟩ ∧ ValAt w g (o + k * 5) x p t z ∧ (Lit.int .i64 x.kind).wf = true ∧ x.text.size ≤ maxLen ∧ Parts w p t z x := by
  obtain ⟨g, o, ecs, ea, el, hc, p, t, z, rfl, h1, h2, h3⟩ := h.atN hx
  exact ⟨g, o, p, t, z, ea, ⟨hc 0 (by decide), hc 1 (by decide), hc 2 (by decide), hc 3 (by decide), hc 4 (by decide)⟩, h1, h2, h3⟩
/-- how many things a value may have for the walks -/
def Few (x : Val) : Prop := x.pairs.length ≤ 100000 ∧ x.texts.length ≤ 100000 ∧ x.zset.length ≤ 100000
theorem value_one (g : Nat) (l : List UInt8) (v : Value) (x : Val) (p t z : Value) (w0 w : World) (hst : PackSt g w0 w l v) (hx : Parts w0 p t z x) (hk : (Lit.int .i64 x.kind).wf = true) (hs : x.text.size ≤ maxLen) (hf : Few x) (hr : rightV x = true) (hl : l.length ≤ 80000000) :
    Calls Try.prog 43 #[.pointer (some ⟨g, 0, none⟩), .agg #[.int .i64 x.kind, .string x.text, p, t, z]] w fun e w' => (∃ u, e = .returned u) ∧ ∃ v', PackSt g w0 w' (l ++ packV x) v' ∧ FrT g w w' := by
  have hle := packV_le hr
  by_cases hk1 : x.kind = 1
  · have hss : x.text.size ≤ 4096 := by
      rcases right_kinds hr with r | r | r | r
      · exact r.s
      · have := r.k; omega
      · have := r.k; omega
      · have := r.k; omega
    have e : packV x = octets 1 1 ++ textsB [x.text] := if_pos hk1
    rw [e, hk1]
    exact value_str g l v x.text p t z w0 w hst (by omega) (by omega)
  · exact value_any g l v x p t z w0 w hst hx hk hk1 hs hf (by omega)
/-- the octets of the right ones -/
def packAll (l : List Val) : List UInt8 := ((l.filter rightV).map packV).flatten
theorem packAll_snoc (l : List Val) (x : Val) : packAll (l ++ [x]) = packAll l ++ (if rightV x = true then packV x else []) := by
  unfold packAll
  by_cases h : rightV x = true <;> simp [List.filter_append, h]
theorem packAll_take_le (l : List Val) (k : Nat) : (packAll (l.take k)).length ≤ k * 4200000 := by
  unfold packAll
  refine Nat.le_trans (flat_le packV 4200000 _ fun x hx => packV_le (List.mem_filter.1 hx).2) (Nat.mul_le_mul_right _ ?_)
  exact Nat.le_trans (List.length_filter_le _ _) (by rw [List.length_take]; omega)
set_option maxRecDepth 100000 in
set_option maxHeartbeats 4000000 in
theorem pack_any (v : Value) (l : List Val) (w : World) (hv : SliceOf rVal w v l) (hl : l.length ≤ 15) (hf : ∀ x ∈ l, Few x) :
    Calls Try.prog 19 #[v] w fun e w' => ∃ v', e = .returned v' ∧ SliceOf rByte w' v' (packAll l) ∧ Own rByte (w.heap.size + 1) 5 w' v' (packAll l) ∧ Ext w w' := by
  obtain ⟨a, cap, rfl, hle, hm, h0, _⟩ := id hv
  unfold maxLen at hm
  have hst0 : PackSt w.heap.size w (w.alloc (.cells #[.slice none 0 0] 71)) [] (.slice none 0 0) := by
    obtain ⟨q1, q2⟩ := cells_at (i := 0) (v := .slice none 0 0) (heap_alloc_new w (.cells #[.slice none 0 0] 71)) rfl
    exact ⟨q1, q2, Own.nil _ _ _ _, Nat.le_refl _, by simp, (Ext.refl w).alloc _⟩
  have Hst0 := Lib.hid hst0
  clear hst0
  go_enter Try.func19, Try.ntmps19
  go_wp2_with fail
  go_loopw [5, 10] (fun _ i wr => ∃ k : Nat, i = .int .i64 (k : Int) ∧ k ≤ l.length ∧ ∃ v', PackSt w.heap.size w wr (packAll (l.take k)) v') (fun _ i _ => l.length - (intOf i).toNat)
  case atStart => exact ⟨0, rfl, by omega, _, Hst0.out⟩
  case round =>
    obtain ⟨k, rfl, hk, v', hst⟩ := hrel
    by_cases hlt : k < l.length
    · obtain ⟨x, hx⟩ : ∃ x, l[k]? = some x := ⟨_, List.getElem?_eq_getElem hlt⟩
      have hvr := hv.mono rVal_mono hst.ext
      obtain ⟨g, o, p, t, z, rfl, hat, hwf, hsz, hpts⟩ := hvr.atVal hx
      obtain ⟨g0, o0, p0, t0, z0, e0, hat0, _, _, hpts0⟩ := hv.atVal hx
      obtain ⟨rfl, rfl⟩ : g = g0 ∧ o = o0 := by simpa using e0
      have hat1 : ValAt wr g (o + k * 5) x p0 t0 z0 := ⟨hst.ext.cell hat0.c0, hst.ext.cell hat0.c1, hst.ext.cell hat0.c2, hst.ext.cell hat0.c3, hst.ext.cell hat0.c4⟩
      obtain rfl : p = p0 := by have := hat.c2.symm.trans hat1.c2; simpa using this
      obtain rfl : t = t0 := by have := hat.c3.symm.trans hat1.c3; simpa using this
      obtain rfl : z = z0 := by have := hat.c4.symm.trans hat1.c4; simpa using this
      clear hat0 hat1 e0
      obtain ⟨pa, pc, rfl, _, _⟩ := len_of' hpts.1
      obtain ⟨ta, tc, rfl, _, _⟩ := len_of' hpts.2.1
      obtain ⟨za, zc, rfl, _, _⟩ := len_of' hpts.2.2
      have hfx := hf x (List.mem_of_getElem? hx)
      have htk : l.take (k + 1) = l.take k ++ [x] := by
        obtain ⟨h1, h2⟩ := List.getElem?_eq_some_iff.1 hx
        rw [← h2]; exact (List.take_append_getElem h1).symm
      have HN : Hid (∀ b : Bool, packAll (l.take (k + 1)) = packAll (l.take k) ++ (if rightV x = true then packV x else [])) := Lib.hid (fun _ => by rw [htk, packAll_snoc])
      have HL : Hid ((packAll (l.take k)).length ≤ 80000000) := Lib.hid (by have := packAll_take_le l k; omega)
      obtain ⟨c0, c1, c2, c3, c4⟩ := hat
      have hgl := hst.lt
      have Hnew := Lib.hid (heap_alloc_new wr (.cells #[.int .i64 x.kind, .string x.text, .slice pa x.pairs.length pc, .slice ta x.texts.length tc, .slice za x.zset.length zc] 30))
      have Hst1 := Lib.hid (hst.alloc (.cells #[.int .i64 x.kind, .string x.text, .slice pa x.pairs.length pc, .slice ta x.texts.length tc, .slice za x.zset.length zc] 30))
      have Hpts := Lib.hid hpts0
      have HptsR := Lib.hid (hpts.mono ((Ext.refl wr).alloc (.cells #[.int .i64 x.kind, .string x.text, .slice pa x.pairs.length pc, .slice ta x.texts.length tc, .slice za x.zset.length zc] 30)))
      obtain ⟨d0, _⟩ := cells_at (i := 0) (v := .int .i64 x.kind) Hnew.out rfl
      obtain ⟨d1, _⟩ := cells_at (i := 1) (v := .string x.text) Hnew.out rfl
      obtain ⟨d2, _⟩ := cells_at (i := 2) (v := .slice pa x.pairs.length pc) Hnew.out rfl
      obtain ⟨d3, _⟩ := cells_at (i := 3) (v := .slice ta x.texts.length tc) Hnew.out rfl
      obtain ⟨d4, _⟩ := cells_at (i := 4) (v := .slice za x.zset.length zc) Hnew.out rfl
      have HS : Hid (wr.heap.size < (wr.alloc (.cells #[.int .i64 x.kind, .string x.text, .slice pa x.pairs.length pc, .slice ta x.texts.length tc, .slice za x.zset.length zc] 30)).heap.size) := Lib.hid (by simp)
      obtain ⟨hf1, hf2, hf3⟩ := id hfx
      have Hf := Lib.hid hfx
      clear hst hpts hpts0 hx htk hfx hvr
      cases hr : rightV x with
      | true =>
        have Hr := Lib.hid hr
        clear hr
        go_wp2_with fail
        refine (vright_any x _ _ _ _ HptsR.out hsz (by omega) (by omega)).mono ?_
        rintro e w1 ⟨rfl, hx1⟩
        rw [Hr.out]
        have hb1 := (hx1.block _ HS.out).trans Hnew.out
        obtain ⟨d0', _⟩ := cells_at (i := 0) (v := .int .i64 x.kind) hb1 rfl
        obtain ⟨d1', _⟩ := cells_at (i := 1) (v := .string x.text) hb1 rfl
        obtain ⟨d2', _⟩ := cells_at (i := 2) (v := .slice pa x.pairs.length pc) hb1 rfl
        obtain ⟨d3', _⟩ := cells_at (i := 3) (v := .slice ta x.texts.length tc) hb1 rfl
        obtain ⟨d4', _⟩ := cells_at (i := 4) (v := .slice za x.zset.length zc) hb1 rfl
        have Hst2 := Lib.hid (Hst1.out.later hx1)
        clear hb1 d0 d1 d2 d3 d4 c0 c1 c2 c3 c4 hx1
        go_wp2_with fail
        refine (value_one w.heap.size _ v' x _ _ _ w _ Hst2.out Hpts.out hwf hsz Hf.out Hr.out HL.out).mono ?_
        rintro e w2 ⟨⟨u, rfl⟩, v2, hst3, _⟩
        have Hst3 : Hid (PackSt w.heap.size w w2 (packAll (l.take (k + 1))) v2) := Lib.hid (by rw [HN.out true, if_pos Hr.out]; exact hst3)
        clear hst3 d0' d1' d2' d3' d4'
        go_wp2_with fail
        exact ⟨⟨k + 1, by go_num, by omega, v2, Hst3.out⟩, by simp [intOf]; omega⟩
      | false =>
        have Hr := Lib.hid hr
        clear hr
        go_wp2_with fail
        refine (vright_any x _ _ _ _ HptsR.out hsz (by omega) (by omega)).mono ?_
        rintro e w1 ⟨rfl, hx1⟩
        rw [Hr.out]
        have Hst3 : Hid (PackSt w.heap.size w w1 (packAll (l.take (k + 1))) v') := Lib.hid (by rw [HN.out true, if_neg (by rw [Hr.out]; decide), List.append_nil]; exact Hst1.out.later hx1)
        clear d0 d1 d2 d3 d4 c0 c1 c2 c3 c4 hx1
        go_wp2_with fail
        exact ⟨⟨k + 1, by go_num, by omega, v', Hst3.out⟩, by simp [intOf]; omega⟩
    · obtain rfl : k = l.length := by omega
      have c0 := hst.cell
      have Hst := Lib.hid hst
      have HT := Lib.hid (List.take_length (l := l))
      clear hst
      go_wp2_with fail
      go_ret
      have hst := Hst.out
      rw [HT.out] at hst
      exact ⟨_, rfl, hst.own.slice, hst.own, hst.ext⟩
end Go.Proofs.Ythclkljdnmokcaa
