/-
  Versions of plain texts: copied all, pruned; the statements' example (layer 15).
-/
import Derived.Test.YthclkljdnmokcaaAt
set_option linter.unusedVariables false
set_option linter.unusedSimpArgs false
namespace Go.Proofs.Ythclkljdnmokcaa
open Go.RowKit Go.Proofs

def Plain (x : Ver) : Prop := x.val.pairs = [] ∧ x.val.texts = [] ∧ x.val.zset = []
def rVer0 : Rep Ver := ⟨8, fun w cs x => rVer.rel w cs x ∧ Plain x⟩
theorem nil_any {α : Type} {r : Rep α} {w w' : World} {v : Value} (h : SliceOf r w v []) : SliceOf r w' v [] := by
  obtain ⟨a, cap, e, h1, h2, h0, _⟩ := h
  exact ⟨a, cap, e, h1, h2, h0, fun h => absurd rfl h⟩
theorem rVer0_flat : rVer0.Flat := by
  rintro w w' cs x ⟨⟨p, t, z, e, h1, h2, h3, h4, h5, h6, h7⟩, hp⟩
  obtain ⟨e1, e2, e3⟩ := hp
  rw [e1] at h5
  rw [e2] at h6
  rw [e3] at h7
  exact ⟨⟨p, t, z, e, h1, h2, h3, h4, by rw [e1]; exact nil_any h5, by rw [e2]; exact nil_any h6, by rw [e3]; exact nil_any h7⟩, e1, e2, e3⟩
theorem rVer0_one : rVer0.One := by
  rintro w cs x ⟨⟨p, t, z, rfl, h1, h2, h3, h4, h5, h6, h7⟩, hp⟩
  obtain ⟨a1, c1, rfl, _⟩ := h5
  obtain ⟨a2, c2, rfl, _⟩ := h6
  obtain ⟨a3, c3, rfl, _⟩ := h7
  exact ⟨rfl, by simp [Value.oneCell']⟩
theorem SliceOf.plain {w : World} {v : Value} {l : List Ver} (h : SliceOf rVer0 w v l) : SliceOf rVer w v l := by
  obtain ⟨a, cap, e, h1, h2, h0, h3⟩ := h
  refine ⟨a, cap, e, h1, h2, h0, fun hl => ?_⟩
  obtain ⟨g, o, ea, hg, hc⟩ := h3 hl
  exact ⟨g, o, ea, hg, fun j x hx => by obtain ⟨ecs, el, hcs, hr⟩ := hc j x hx; exact ⟨ecs, el, hcs, hr.1⟩⟩
theorem SliceOf.plainAt {w : World} {v : Value} {l : List Ver} (h : SliceOf rVer0 w v l) {k : Nat} {x : Ver} (hx : l[k]? = some x) : Plain x := by
  obtain ⟨a, cap, e, h1, h2, h0, h3⟩ := h
  obtain ⟨g, o, ea, hg, hc⟩ := h3 (by rintro rfl; simp at hx)
  obtain ⟨ecs, el, hcs, hr⟩ := hc k x hx
  exact hr.2
theorem Plain.small {x : Ver} (h : Plain x) : x.val.pairs.length ≤ 1000000 ∧ x.val.texts.length ≤ 1000000 ∧ x.val.zset.length ≤ 1000000 := by
  obtain ⟨h1, h2, h3⟩ := h
  rw [h1, h2, h3]; simp
theorem el_V : El Try.prog 22 32 8 120 := El.mk' (z := .agg #[.int .i64 0, .bool false, .int .i64 0, .int .i64 0, .string ByteArray.empty, .slice none 0 0, .slice none 0 0, .slice none 0 0]) Try.underlying22 (by kernel_rfl) rfl (by decide)
theorem SliceOf.dropN {α : Type} {r : Rep α} {w : World} {g o n cap : Nat} {l : List α} (h : SliceOf r w (.slice (some ⟨g, o, none⟩) n cap) l) (k : Nat) (hk : k ≤ n) (o' : Nat) (ho : o' = if cap = k then o else o + k * r.size) : SliceOf r w (.slice (some ⟨g, o', none⟩) (n - k) (cap - k)) (l.drop k) := by
  have hn := h.len
  obtain ⟨a', cap', e, h1, h2, h0, h3⟩ := h
  injection e with e1 e2 e3
  subst e1; subst e3
  refine ⟨_, _, by rw [List.length_drop, ← hn.1], by rw [List.length_drop]; omega, by omega, by simp, fun hne => ?_⟩
  have hlen : k < l.length := by
    rcases Nat.lt_or_ge k l.length with h | h
    · exact h
    · exact absurd (List.drop_of_length_le h) hne
  obtain ⟨g2, o2, ea, hg, hc⟩ := h3 (by rintro rfl; simp at hlen)
  simp only [Option.some.injEq, Addr.mk.injEq, and_true] at ea
  obtain ⟨rfl, rfl⟩ := ea
  rw [if_neg (by omega)] at ho
  subst ho
  refine ⟨g, _, rfl, hg, fun j x hj => ?_⟩
  rw [List.getElem?_drop] at hj
  obtain ⟨ecs, el, hcs, hr⟩ := hc (k + j) x hj
  refine ⟨ecs, el, fun i hi => ?_, hr⟩
  rw [← hcs i hi]
  congr 2
  rw [Nat.add_mul]; omega
/-- one version in a block of its own -/
theorem one_slice {g : Nat} (w : World) (hg : g = w.heap.size) (x : Ver) (p t z : Value) (ty : TypeId) (hok : VerOk w x p t z) (hp : Plain x) :
    SliceOf rVer0 (w.alloc (.cells #[.int .i64 x.stamp, .bool x.gone, .int .i64 x.expire, .int .i64 x.val.kind, .string x.val.text, p, t, z] ty)) (.slice (some ⟨g, 0, none⟩) 1 1) [x] := by
  subst hg
  refine sliceOf_heap (heap_alloc_new w _) [x] rfl (Nat.le_refl _) (by decide) fun j y hy => ?_
  obtain ⟨rfl, rfl⟩ : j = 0 ∧ x = y := by cases j <;> simp_all
  refine ⟨[.int .i64 x.stamp, .bool x.gone, .int .i64 x.expire, .int .i64 x.val.kind, .string x.val.text, p, t, z], rfl, fun i hi => ?_, ?_⟩
  · have hi' : i < 8 := hi
    match i, hi' with
    | 0, _ | 1, _ | 2, _ | 3, _ | 4, _ | 5, _ | 6, _ | 7, _ => rfl
  · have h2 := hok.mono ((Ext.refl w).alloc (.cells #[.int .i64 x.stamp, .bool x.gone, .int .i64 x.expire, .int .i64 x.val.kind, .string x.val.text, p, t, z] ty))
    exact ⟨⟨p, t, z, rfl, h2.stamp, h2.expire, h2.kind, h2.text, h2.parts⟩, hp⟩
set_option maxRecDepth 100000 in
set_option maxHeartbeats 2000000 in
theorem all0_any (v : Value) (l : List Ver) (w : World) (hv : SliceOf rVer0 w v l) (hl : l.length ≤ 1000) :
    Calls Try.prog 57 #[v] w (RetOwn rVer0 32 w l) := by
  obtain ⟨a, cap, rfl, hle, hm, h0, _⟩ := id hv
  unfold maxLen at hm
  go_enter Try.func57, Try.ntmps57
  go_wp2_with fail
  go_loopw [3, 5, 8] (fun ov _ i wr => ∃ k : Nat, i = .int .i64 (k : Int) ∧ k ≤ l.length ∧ Own rVer0 w.heap.size 32 wr ov (l.take k) ∧ Ext w wr) (fun _ _ i _ => l.length - (intOf i).toNat)
  case atStart => exact ⟨0, rfl, by omega, Own.nil _ _ _ _, Ext.refl _⟩
  case round =>
    obtain ⟨k, rfl, hk, hown, hx0⟩ := hrel
    have Hx0 := Lib.hid hx0
    have hv0 := hv.mono rVer0_flat.mono hx0
    clear hx0
    by_cases hlt : k < l.length
    · obtain ⟨x, hx⟩ : ∃ x, l[k]? = some x := ⟨_, List.getElem?_eq_getElem hlt⟩
      have hpl := hv0.plainAt hx
      obtain ⟨g, o, p, t, z, rfl, hat, hok⟩ := hv0.plain.atVer hx
      obtain ⟨c0, c1, c2, c3, c4, c5, c6, c7⟩ := hat
      have htk : l.take (k + 1) = l.take k ++ [x] := by rw [List.take_add_one, hx]; rfl
      have Htk := Lib.hid htk
      have Hpl := Lib.hid hpl
      have Hok := Lib.hid hok
      obtain ⟨pa, pc, rfl, _⟩ := id hok.parts.1
      obtain ⟨ta, tc, rfl, _⟩ := id hok.parts.2.1
      obtain ⟨za, zc, rfl, _⟩ := id hok.parts.2.2
      have hlk : (l.take k).length = k := by rw [List.length_take]; omega
      have hA : (l.take k).length + [x].length ≤ maxLen := by rw [hlk]; unfold maxLen; simp; omega
      have hB : ((l.take k).length + [x].length) * 120 ≤ 140737488355328 := by rw [hlk]; simp; omega
      have HA := Lib.hid hA
      have HB := Lib.hid hB
      have Hown := Lib.hid hown
      clear htk hpl hok hx hlk hA hB hown
      go_wp2_with fail
      refine (copied_any x _ _ _ wr _ ((Ext.refl _).alloc _) Hok.out Hpl.out.small.1 Hpl.out.small.2.1 Hpl.out.small.2.2).mono ?_
      rintro e w1 ⟨p', t', z', rfl, hok1, _, hx1⟩
      have hx11 := ((Ext.refl wr).alloc _).then hx1
      have hxw := Hx0.out.then hx11
      have hown1 := Hown.out.mono rVer0_flat.mono hx11
      obtain ⟨pa', pc', rfl, _⟩ := id hok1.parts.1
      obtain ⟨ta', tc', rfl, _⟩ := id hok1.parts.2.1
      obtain ⟨za', zc', rfl, _⟩ := id hok1.parts.2.2
      have Hok1 := Lib.hid hok1
      have hbase : w.heap.size ≤ w1.heap.size := hxw.size
      clear hok1 hx1 hx11 c0 c1 c2 c3 c4 c5 c6 c7
      unfold verV
      go_wp2_with (at_builtin; (refine append_ext (w0 := w) rfl (.tmp 12) (.tmp 15) rfl el_V rVer0_one rVer0_flat _ _ rfl (hown1.mono rVer0_flat.mono ((Ext.refl _).alloc _)) _ [x] rfl (one_slice _ rfl x _ _ _ _ Hok1.out Hpl.out) HA.out HB.out (by simp; omega) (hxw.alloc _) (Nat.le_refl _) ?_); intro v1 w2 hown2 hx2 hb2 hg2)
      exact ⟨⟨k + 1, by go_num, by omega, by rw [Htk.out]; exact hown2, hx2⟩, by simp [intOf]; omega⟩
    · obtain rfl : k = l.length := by omega
      rw [List.take_length] at hown
      have Hown := Lib.hid hown
      clear hown
      go_wp2_with fail
      go_ret
      exact ⟨_, rfl, Hown.out, Hx0.out⟩
def bX : ByteArray := ⟨#[120]⟩
def oneVer (n : Int) : Ver := ⟨n, false, 0, ⟨1, bX, [], [], []⟩⟩
theorem oneVer_plain (n : Int) : Plain (oneVer n) := ⟨rfl, rfl, rfl⟩
theorem oneVer_ok (n : Int) (hn : (Lit.int .i64 n).wf = true) (w : World) : VerOk w (oneVer n) (.slice none 0 0) (.slice none 0 0) (.slice none 0 0) := ⟨hn, (by decide : (Lit.int .i64 0).wf = true), (by decide : (Lit.int .i64 1).wf = true), by show bX.size ≤ maxLen; decide, ⟨sliceOf_nil _ _, sliceOf_nil _ _, sliceOf_nil _ _⟩⟩
set_option maxRecDepth 100000 in
set_option maxHeartbeats 2000000 in
theorem one_new (n : Int) (w : World) : Calls Try.prog 36 #[.int .i64 n] w fun e w' => e = .returned (.agg #[.int .i64 n, .bool false, .int .i64 0, .int .i64 1, .string bX, .slice none 0 0, .slice none 0 0, .slice none 0 0]) ∧ Ext w w' := by
  go_enter Try.func36, Try.ntmps36
  go_wp2
  have c0 := box1 w #[.int .i64 n, .bool false, .int .i64 0, .int .i64 1, .string ⟨#[120]⟩, .slice none 0 0, .slice none 0 0, .slice none 0 0] 32 (g := w.heap.size) (i := 0) (v := .int .i64 n) rfl rfl
  have c1 := box1 w #[.int .i64 n, .bool false, .int .i64 0, .int .i64 1, .string ⟨#[120]⟩, .slice none 0 0, .slice none 0 0, .slice none 0 0] 32 (g := w.heap.size) (i := 1) (v := .bool false) rfl rfl
  have c2 := box1 w #[.int .i64 n, .bool false, .int .i64 0, .int .i64 1, .string ⟨#[120]⟩, .slice none 0 0, .slice none 0 0, .slice none 0 0] 32 (g := w.heap.size) (i := 2) (v := .int .i64 0) rfl rfl
  have c3 := box1 w #[.int .i64 n, .bool false, .int .i64 0, .int .i64 1, .string ⟨#[120]⟩, .slice none 0 0, .slice none 0 0, .slice none 0 0] 32 (g := w.heap.size) (i := 3) (v := .int .i64 1) rfl rfl
  have c4 := box1 w #[.int .i64 n, .bool false, .int .i64 0, .int .i64 1, .string ⟨#[120]⟩, .slice none 0 0, .slice none 0 0, .slice none 0 0] 32 (g := w.heap.size) (i := 4) (v := .string ⟨#[120]⟩) rfl rfl
  have c5 := box1 w #[.int .i64 n, .bool false, .int .i64 0, .int .i64 1, .string ⟨#[120]⟩, .slice none 0 0, .slice none 0 0, .slice none 0 0] 32 (g := w.heap.size) (i := 5) (v := .slice none 0 0) rfl rfl
  have c6 := box1 w #[.int .i64 n, .bool false, .int .i64 0, .int .i64 1, .string ⟨#[120]⟩, .slice none 0 0, .slice none 0 0, .slice none 0 0] 32 (g := w.heap.size) (i := 6) (v := .slice none 0 0) rfl rfl
  have c7 := box1 w #[.int .i64 n, .bool false, .int .i64 0, .int .i64 1, .string ⟨#[120]⟩, .slice none 0 0, .slice none 0 0, .slice none 0 0] 32 (g := w.heap.size) (i := 7) (v := .slice none 0 0) rfl rfl
  exact bodyPost_ret (v := .agg #[.int .i64 n, .bool false, .int .i64 0, .int .i64 1, .string ⟨#[120]⟩, .slice none 0 0, .slice none 0 0, .slice none 0 0]) (by simp [results, Try.results36, go_sem, c0, c1, c2, c3, c4, c5, c6, c7]) rfl ⟨rfl, (Ext.refl w).alloc _⟩
theorem three {g : Nat} (w : World) (hg : g = w.heap.size) (a b c : Int) (ha : (Lit.int .i64 a).wf = true) (hb : (Lit.int .i64 b).wf = true) (hc : (Lit.int .i64 c).wf = true) (ty : TypeId) :
    SliceOf rVer0 (w.alloc (.cells #[.int .i64 a, .bool false, .int .i64 0, .int .i64 1, .string bX, .slice none 0 0, .slice none 0 0, .slice none 0 0, .int .i64 b, .bool false, .int .i64 0, .int .i64 1, .string bX, .slice none 0 0, .slice none 0 0, .slice none 0 0, .int .i64 c, .bool false, .int .i64 0, .int .i64 1, .string bX, .slice none 0 0, .slice none 0 0, .slice none 0 0] ty)) (.slice (some ⟨g, 0, none⟩) 3 3) [oneVer a, oneVer b, oneVer c] := by
  subst hg
  refine sliceOf_heap (heap_alloc_new w _) _ rfl (Nat.le_refl _) (by decide) fun j y hy => ?_
  have key : ∀ n, (Lit.int .i64 n).wf = true → ∀ w' : World, rVer0.rel w' [.int .i64 n, .bool false, .int .i64 0, .int .i64 1, .string bX, .slice none 0 0, .slice none 0 0, .slice none 0 0] (oneVer n) := fun n hn w' => by
    have h := oneVer_ok n hn w'
    exact ⟨⟨_, _, _, rfl, h.stamp, h.expire, h.kind, h.text, h.parts⟩, oneVer_plain n⟩
  match j, hy with
  | 0, hy =>
    cases hy
    refine ⟨_, rfl, fun i hi => ?_, key a ha _⟩
    have hi' : i < 8 := hi
    match i, hi' with
    | 0, _ | 1, _ | 2, _ | 3, _ | 4, _ | 5, _ | 6, _ | 7, _ => rfl
  | 1, hy =>
    cases hy
    refine ⟨_, rfl, fun i hi => ?_, key b hb _⟩
    have hi' : i < 8 := hi
    match i, hi' with
    | 0, _ | 1, _ | 2, _ | 3, _ | 4, _ | 5, _ | 6, _ | 7, _ => rfl
  | 2, hy =>
    cases hy
    refine ⟨_, rfl, fun i hi => ?_, key c hc _⟩
    have hi' : i < 8 := hi
    match i, hi' with
    | 0, _ | 1, _ | 2, _ | 3, _ | 4, _ | 5, _ | 6, _ | 7, _ => rfl
theorem rising3 : Rising [oneVer 1, oneVer 4, oneVer 9] := by
  intro i j x y hx hy hij
  have hj := (List.getElem?_eq_some_iff.1 hy).1
  simp only [List.length_cons, List.length_nil] at hj
  match i, j, hij, hj with
  | 0, 1, _, _ => cases hx; cases hy; decide
  | 0, 2, _, _ => cases hx; cases hy; decide
  | 1, 2, _, _ => cases hx; cases hy; decide
  | 0, 0, h, _ => omega
  | 1, 0, h, _ => omega
  | 1, 1, h, _ => omega
  | i + 2, j, h, h2 => omega
theorem upTo3 {k : Nat} (h : UpTo [oneVer 1, oneVer 4, oneVer 9] 5 k) : k = 2 := by
  obtain ⟨h1, h2, h3⟩ := h
  simp only [List.length_cons, List.length_nil] at h1
  match k, h1 with
  | 0, _ => have := h3 1 _ rfl (by omega); simp [oneVer] at this
  | 1, _ => have := h3 1 _ rfl (by omega); simp [oneVer] at this
  | 2, _ => rfl
  | 3, _ => have := h2 2 _ rfl (by omega); simp [oneVer] at this
set_option maxRecDepth 100000 in
set_option maxHeartbeats 2000000 in
theorem prune3 (v : Value) (w : World) (hv : SliceOf rVer0 w v [oneVer 1, oneVer 4, oneVer 9]) :
    Calls Try.prog 25 #[v, .int .i64 5, .int .i64 0] w fun e w' => ∃ v', e = .returned v' ∧ SliceOf rVer0 w' v' [oneVer 4, oneVer 9] ∧ Ext w w' := by
  obtain ⟨a, cap, rfl, hle, hm, h0, _⟩ := id hv
  unfold maxLen at hm
  simp only [List.length_cons, List.length_nil] at hle
  go_enter Try.func25, Try.ntmps25
  go_wp2_with fail
  refine (upTo_any _ _ 5 _ hv.plain (by decide) rising3).mono ?_
  rintro e w1 ⟨k, rfl, hup, hx1⟩
  obtain rfl := upTo3 hup
  have hv1 := hv.mono rVer0_flat.mono hx1
  obtain ⟨g, o, p, t, z, rfl, hat, hok⟩ := hv1.plain.atVer (k := 1) (x := oneVer 4) rfl
  obtain ⟨c0, c1, c2, c3, c4, c5, c6, c7⟩ := hat
  have hcap : ¬ cap = 1 := by omega
  have hs := hv1.dropN 1 (by decide) (o + 1 * 8) (by rw [if_neg hcap]; rfl)
  have hs2 : SliceOf rVer0 w1 (.slice (some ⟨g, o + 8, none⟩) 2 (cap - 1)) [oneVer 4, oneVer 9] := hs
  have Hs2 := Lib.hid hs2
  clear hs hs2 hup hok
  go_wp2_with fail
  refine (alive_any (oneVer 4) p t z 0 _).mono ?_
  rintro e w2 ⟨rfl, hx2⟩
  rw [show (!(oneVer 4).gone && (decide ((oneVer 4).expire = 0) || decide (0 < (oneVer 4).expire))) = true from rfl]
  have Hs3 := Lib.hid (Hs2.out.mono rVer0_flat.mono hx2)
  clear c0 c1 c2 c3 c4 c5 c6 c7
  go_wp2_with fail
  refine (all0_any _ [oneVer 4, oneVer 9] _ Hs3.out (by decide)).mono ?_
  rintro e w3 ⟨v3, rfl, hown, hx3⟩
  go_wp2_with fail
  go_ret
  exact ⟨_, rfl, hown.slice, (hx1.then hx2).then hx3⟩
set_option maxRecDepth 100000 in
set_option maxHeartbeats 2000000 in
theorem awake15 (w : World) :
    Calls Try.prog 10 #[] w fun e w' => e = .returned (.bool true) ∧ Ext w w' := by
  go_enter Try.func10, Try.ntmps10
  go_wp2_with fail
  refine (one_new 1 _).mono ?_
  rintro e w1 ⟨rfl, hx1⟩
  go_wp2_with fail
  refine (one_new 4 _).mono ?_
  rintro e w2 ⟨rfl, hx2⟩
  go_wp2_with fail
  refine (one_new 9 _).mono ?_
  rintro e w3 ⟨rfl, hx3⟩
  have hxw := (hx1.then hx2).then hx3
  clear hx1 hx2 hx3
  have H3 := Lib.hid (three (g := w3.heap.size) w3 rfl 1 4 9 (by decide) (by decide) (by decide) 32)
  go_wp2_with fail
  refine (prune3 _ _ H3.out).mono ?_
  rintro e w4 ⟨v4, rfl, hs4, hx4⟩
  have hxw4 := hxw.then (((Ext.refl w3).alloc _).then hx4)
  obtain ⟨a, cap, rfl, hle, hm, h0, _⟩ := id hs4
  unfold maxLen at hm
  simp only [List.length_cons, List.length_nil] at hle
  obtain ⟨g, o, p, t, z, rfl, hat, _⟩ := hs4.plain.atVer (k := 0) (x := oneVer 4) rfl
  obtain ⟨g2, o2, p2, t2, z2, e2, hat2, _⟩ := hs4.plain.atVer (k := 1) (x := oneVer 9) rfl
  obtain ⟨rfl, rfl⟩ : g = g2 ∧ o = o2 := by
    have h := e2
    simp at h
    exact h
  have c0 : w4.cell? ⟨g, o, none⟩ = some (.int .i64 4) := by simpa [oneVer] using hat.c0
  have c1 : w4.cell? ⟨g, o + 8, none⟩ = some (.int .i64 9) := by simpa [oneVer] using hat2.c0
  clear hat hat2 e2 H3 hs4
  go_wp2_with fail
  go_ret
  exact ⟨rfl, hxw4⟩
end Go.Proofs.Ythclkljdnmokcaa
