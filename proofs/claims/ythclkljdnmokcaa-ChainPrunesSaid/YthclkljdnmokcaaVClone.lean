/-
  value.Clone, walked.
-/
import Derived.Test.YthclkljdnmokcaaClone
import Derived.Test.YthclkljdnmokcaaRely
set_option linter.unusedVariables false
set_option linter.unusedSimpArgs false
namespace Go.Proofs.Ythclkljdnmokcaa
open Go.RowKit Go.Proofs

/-- all blocks but one are as they were -/
def KeptBut (g : Nat) (w1 w2 : World) : Prop := w1.heap.size ≤ w2.heap.size ∧ ∀ b, b < w1.heap.size → b ≠ g → w2.heap[b]? = w1.heap[b]?
theorem KeptBut.refl (g : Nat) (w : World) : KeptBut g w w := ⟨Nat.le_refl _, fun _ _ _ => rfl⟩
theorem KeptBut.trans {g : Nat} {w1 w2 w3 : World} (h : KeptBut g w1 w2) (k : KeptBut g w2 w3) : KeptBut g w1 w3 :=
  ⟨Nat.le_trans h.1 k.1, fun b hb hg => by rw [k.2 b (Nat.lt_of_lt_of_le hb h.1) hg, h.2 b hb hg]⟩
theorem KeptBut.ext {g : Nat} {w1 w2 : World} (h : Ext w1 w2) : KeptBut g w1 w2 := ⟨h.size, fun b hb _ => h.block b hb⟩
theorem KeptBut.set (g i : Nat) (w : World) (v : Value) : KeptBut g w (w.setCell ⟨g, i, none⟩ v) :=
  ⟨by simp, fun b _ hb => Below.heap_setCell _ _ _ _ hb⟩
theorem KeptBut.drew (g : Nat) (w : World) : KeptBut g w w.drew := ⟨Nat.le_refl _, fun _ _ _ => rfl⟩
/-- a slice whose elements lie below lo, or from hi on -/
def FarS {α : Type} (r : Rep α) (lo hi : Nat) (w : World) (v : Value) (l : List α) : Prop :=
  SliceOf r w v l ∧ (l ≠ [] → ∃ b o n c, v = .slice (some ⟨b, o, none⟩) n c ∧ (b < lo ∨ hi ≤ b))
theorem FarS.kept {α : Type} {r : Rep α} (hr : r.Flat) {lo hi G : Nat} {w1 w2 : World} {v : Value} {l : List α} (h : FarS r lo hi w1 v l) (hk : KeptBut G w1 w2) (hG : lo ≤ G ∧ G < hi) : FarS r lo hi w2 v l := by
  obtain ⟨⟨a, cap, e, h1, h2, h0, h3⟩, hf⟩ := h
  refine ⟨⟨a, cap, e, h1, h2, h0, fun hl => ?_⟩, hf⟩
  obtain ⟨g', o, ea, hg, hc⟩ := h3 hl
  obtain ⟨b, o', n, c, e2, hb⟩ := hf hl
  have hbg : g' ≠ G := by
    rw [e, ea] at e2
    simp only [Value.slice.injEq, Option.some.injEq, Addr.mk.injEq] at e2
    rw [e2.1.1]
    omega
  refine ⟨g', o, ea, Nat.lt_of_lt_of_le hg hk.1, fun j x hj => ?_⟩
  obtain ⟨ecs, el, hcs, hre⟩ := hc j x hj
  refine ⟨ecs, el, fun i hi => ?_, hr _ _ _ _ hre⟩
  rw [← hcs i hi]
  unfold World.cell?
  rw [hk.2 g' hg hbg]
theorem FarS.ext {α : Type} {r : Rep α} (hr : r.Mono) {lo hi : Nat} {w1 w2 : World} {v : Value} {l : List α} (h : FarS r lo hi w1 v l) (hx : Ext w1 w2) : FarS r lo hi w2 v l := ⟨h.1.mono hr hx, h.2⟩
theorem FarS.old {α : Type} {r : Rep α} {lo hi : Nat} {w : World} {v : Value} {l : List α} (h : SliceOf r w v l) (hg : w.heap.size ≤ lo) : FarS r lo hi w v l :=
  ⟨h, fun hl => by
    obtain ⟨a, cap, e, h1, h2, h0, h3⟩ := h
    obtain ⟨g', o, ea, hgl, _⟩ := h3 hl
    exact ⟨g', o, _, _, by rw [e, ea], .inl (by omega)⟩⟩
theorem FarS.own {α : Type} {r : Rep α} {lo hi base : Nat} {e : TypeId} {w : World} {v : Value} {l : List α} (h : Own r base e w v l) (hg : hi ≤ base) : FarS r lo hi w v l :=
  ⟨h.slice, fun hl => by
    obtain ⟨g', cap, e1, hb, _⟩ := h.form hl
    exact ⟨g', 0, _, _, e1, .inr (by omega)⟩⟩
/-- a value's three slices, elsewhere -/
def FarP (lo hi : Nat) (w : World) (p t z : Value) (x : Val) : Prop := FarS rPr lo hi w p x.pairs ∧ FarS rStr lo hi w t x.texts ∧ FarS rMb lo hi w z x.zset
theorem FarP.parts {lo hi : Nat} {w : World} {p t z : Value} {x : Val} (h : FarP lo hi w p t z x) : Parts w p t z x := ⟨h.1.1, h.2.1.1, h.2.2.1⟩
theorem FarP.kept {lo hi G : Nat} {w1 w2 : World} {p t z : Value} {x : Val} (h : FarP lo hi w1 p t z x) (hk : KeptBut G w1 w2) (hG : lo ≤ G ∧ G < hi) : FarP lo hi w2 p t z x := ⟨h.1.kept rPr_flat hk hG, h.2.1.kept rStr_flat hk hG, h.2.2.kept rMb_flat hk hG⟩
/-- the box of the value that is cloned -/
def BoxV (lo g : Nat) (w : World) (x : Val) : Prop :=
  ∃ p t z, w.heap[g]? = some (.cells #[.int .i64 x.kind, .string x.text, p, t, z] 30 (0, 0)) ∧ FarS rPr lo (g + 2) w p x.pairs ∧ FarS rStr lo (g + 2) w t x.texts ∧ FarS rMb lo (g + 2) w z x.zset
theorem BoxV.ext {lo g : Nat} {w w' : World} {x : Val} (h : BoxV lo g w x) (hx : Ext w w') : BoxV lo g w' x := by
  obtain ⟨p, t, z, hb, h1, h2, h3⟩ := h
  have hg : g < w.heap.size := (Array.getElem?_eq_some_iff.1 hb).1
  exact ⟨p, t, z, by rw [hx.block g hg, hb], h1.ext rPr_mono hx, h2.ext rStr_mono hx, h3.ext rMb_mono hx⟩
theorem heap_set {w : World} {g i : Nat} {cs : Array Value} {ty : TypeId} {fr : Nat × Nat} (h : w.heap[g]? = some (.cells cs ty fr)) (v : Value) : (w.setCell ⟨g, i, none⟩ v).heap[g]? = some (.cells (cs.setIfInBounds i v) ty fr) := by
  have hg := (Array.getElem?_eq_some_iff.1 h).1
  simp [World.setCell, Array.getElem?_modify, h]
/-- what the operations of Clone leave -/
def VC (lo g : Nat) (x : Val) (i : Nat) (w' : World) (v : Value) : Prop :=
  match i with
  | 0 => v = .pointer (some ⟨g, 2, none⟩)
  | 1 => FarS rPr lo (g + 2) w' v x.pairs
  | 2 => FarS rPr lo (g + 2) w' v x.pairs
  | 3 => v = .pointer (some ⟨g, 3, none⟩)
  | 4 => FarS rStr lo (g + 2) w' v x.texts
  | 5 => FarS rStr lo (g + 2) w' v x.texts
  | 6 => v = .pointer (some ⟨g, 4, none⟩)
  | 7 => FarS rMb lo (g + 2) w' v x.zset
  | 8 => FarS rMb lo (g + 2) w' v x.zset
  | 9 => v = .pointer (some ⟨g, 2, none⟩)
  | 11 => v = .pointer (some ⟨g, 3, none⟩)
  | 13 => v = .pointer (some ⟨g, 4, none⟩)
  | _ => True
theorem VC_kept (lo g : Nat) (hlo : lo ≤ g) (x : Val) (i : Nat) (w1 w2 : World) (v : Value) (hk : KeptBut g w1 w2) (h : VC lo g x i w1 v) : VC lo g x i w2 v := by
  unfold VC at h ⊢
  split at h
  case h_2 => exact FarS.kept rPr_flat h hk ⟨hlo, by omega⟩
  case h_3 => exact FarS.kept rPr_flat h hk ⟨hlo, by omega⟩
  case h_5 => exact FarS.kept rStr_flat h hk ⟨hlo, by omega⟩
  case h_6 => exact FarS.kept rStr_flat h hk ⟨hlo, by omega⟩
  case h_8 => exact FarS.kept rMb_flat h hk ⟨hlo, by omega⟩
  case h_9 => exact FarS.kept rMb_flat h hk ⟨hlo, by omega⟩
  all_goals exact h
theorem cells_at {w : World} {g i : Nat} {cs : Array Value} {ty : TypeId} {v : Value} (h : w.heap[g]? = some (.cells cs ty (0, 0))) (hv : cs[i]? = some v) : w.cell? ⟨g, i, none⟩ = some v ∧ w.frozen? ⟨g, i, none⟩ = false := by
  constructor
  · simp [World.cell?, h, hv]
  · simp [World.frozen?, h]
theorem BoxV.set2 {lo g : Nat} (hlo : lo ≤ g) {w : World} {x : Val} (h : BoxV lo g w x) {v : Value} (hv : FarS rPr lo (g + 2) w v x.pairs) : BoxV lo g (w.setCell ⟨g, 2, none⟩ v) x := by
  obtain ⟨p, t, z, hb, h1, h2, h3⟩ := h
  exact ⟨v, t, z, by rw [heap_set hb]; rfl, hv.kept rPr_flat (.set _ _ _ _) ⟨hlo, by omega⟩, h2.kept rStr_flat (.set _ _ _ _) ⟨hlo, by omega⟩, h3.kept rMb_flat (.set _ _ _ _) ⟨hlo, by omega⟩⟩
theorem BoxV.set3 {lo g : Nat} (hlo : lo ≤ g) {w : World} {x : Val} (h : BoxV lo g w x) {v : Value} (hv : FarS rStr lo (g + 2) w v x.texts) : BoxV lo g (w.setCell ⟨g, 3, none⟩ v) x := by
  obtain ⟨p, t, z, hb, h1, h2, h3⟩ := h
  exact ⟨p, v, z, by rw [heap_set hb]; rfl, h1.kept rPr_flat (.set _ _ _ _) ⟨hlo, by omega⟩, hv.kept rStr_flat (.set _ _ _ _) ⟨hlo, by omega⟩, h3.kept rMb_flat (.set _ _ _ _) ⟨hlo, by omega⟩⟩
theorem BoxV.set4 {lo g : Nat} (hlo : lo ≤ g) {w : World} {x : Val} (h : BoxV lo g w x) {v : Value} (hv : FarS rMb lo (g + 2) w v x.zset) : BoxV lo g (w.setCell ⟨g, 4, none⟩ v) x := by
  obtain ⟨p, t, z, hb, h1, h2, h3⟩ := h
  exact ⟨p, t, v, by rw [heap_set hb]; rfl, h1.kept rPr_flat (.set _ _ _ _) ⟨hlo, by omega⟩, h2.kept rStr_flat (.set _ _ _ _) ⟨hlo, by omega⟩, hv.kept rMb_flat (.set _ _ _ _) ⟨hlo, by omega⟩⟩
/-- what holds all the while -/
def InvC (lo : Nat) (w W : World) (x : Val) (w' : World) : Prop := KeptBut w.heap.size W w' ∧ Ext w w' ∧ w.heap.size + 1 < w'.heap.size ∧ BoxV lo w.heap.size w' x
theorem InvC.ext {lo : Nat} {w W w' w'' : World} {x : Val} (h : InvC lo w W x w') (hx : Ext w' w'') : InvC lo w W x w'' :=
  ⟨h.1.trans (.ext hx), h.2.1.then hx, Nat.lt_of_lt_of_le h.2.2.1 hx.size, h.2.2.2.ext hx⟩
theorem InvC.cell {lo : Nat} {w W w' : World} {x : Val} (h : InvC lo w W x w') {i : Nat} {v : Value} (hb : BoxV lo w.heap.size (w'.setCell ⟨w.heap.size, i, none⟩ v) x) : InvC lo w W x (w'.setCell ⟨w.heap.size, i, none⟩ v) :=
  ⟨h.1.trans (.set _ _ _ _), Below.setCell h.2.1 (p := ⟨w.heap.size, i, none⟩) (Nat.le_refl _) _, by simpa using h.2.2.1, hb⟩
set_option maxRecDepth 100000 in
set_option maxHeartbeats 4000000 in
theorem vclone_any (x : Val) (p t z : Value) (w0 w : World) (hx0 : Ext w0 w) (hk : (Lit.int .i64 x.kind).wf = true) (hs : x.text.size ≤ maxLen) (hx : Parts w0 p t z x) (hlp : x.pairs.length ≤ 1000000) (hlt : x.texts.length ≤ 1000000) (hlz : x.zset.length ≤ 1000000) :
    Calls Try.prog 21 #[.agg #[.int .i64 x.kind, .string x.text, p, t, z]] w fun e w' => ∃ p' t' z', e = .returned (.agg #[.int .i64 x.kind, .string x.text, p', t', z']) ∧ FarP w0.heap.size (w.heap.size + 2) w' p' t' z' x ∧ Ext w w' := by
  obtain ⟨hxp, hxt, hxz⟩ := hx
  have hlo : w0.heap.size ≤ w.heap.size := hx0.size
  have HX0 := Lib.hid hx0
  clear hx0
  go_enter Try.func21, Try.ntmps21
  go_wp2_with fail
  refine wp_region_rely_lit rfl [some 3, some 4, some 5, some 6, some 7, some 8, some 9, some 10, some 11, some 12, none, some 13, none, some 14, none] rfl [[], [0], [1], [], [3], [4], [], [6], [7], [], [2, 9], [], [5, 11], [], [8, 13]] (by kernel_rfl) (InvC w0.heap.size w ((w.alloc (.cells #[.int .i64 x.kind, .string x.text, p, t, z] 30)).alloc (.cells #[.int .i64 0, .string ByteArray.empty, .slice none 0 0, .slice none 0 0, .slice none 0 0] 30)) x) (KeptBut w.heap.size)
    (VC w0.heap.size w.heap.size x) (fun i w1 w2 v hR h => VC_kept _ _ hlo _ i w1 w2 v hR h) ?_ ?_ ?_
  · refine ⟨.drew _ _, (((Ext.refl w).alloc _).alloc _).drew, by simp, ?_⟩
    refine ⟨p, t, z, ?_, ?_, ?_, ?_⟩
    · have h1 := heap_alloc_new w (.cells #[.int .i64 x.kind, .string x.text, p, t, z] 30)
      have h2 := (Ext.refl (w.alloc (.cells #[.int .i64 x.kind, .string x.text, p, t, z] 30))).alloc (.cells #[.int .i64 0, .string ByteArray.empty, .slice none 0 0, .slice none 0 0, .slice none 0 0] 30)
      exact (h2.block w.heap.size (by simp)).trans h1
    · exact (FarS.old hxp (Nat.le_refl _)).ext rPr_mono (HX0.out.then ((((Ext.refl w).alloc _).alloc _).drew))
    · exact (FarS.old hxt (Nat.le_refl _)).ext rStr_mono (HX0.out.then ((((Ext.refl w).alloc _).alloc _).drew))
    · exact (FarS.old hxz (Nat.le_refl _)).ext rMb_mono (HX0.out.then ((((Ext.refl w).alloc _).alloc _).drew))
  · refine ⟨?_, ?_, ?_, ?_, ?_, ?_, ?_, ?_, ?_, ?_, ?_, ?_, ?_, ?_, ?_, trivial⟩
    all_goals (intro vs w' hI hd)
    all_goals have HI := Lib.hid hI
    all_goals obtain ⟨_, _, hsz, p1, t1, z1, hb, hp1, ht1, hz1⟩ := id hI
    all_goals obtain ⟨hc2, hf2⟩ := cells_at (i := 2) hb rfl
    all_goals obtain ⟨hc3, hf3⟩ := cells_at (i := 3) hb rfl
    all_goals obtain ⟨hc4, hf4⟩ := cells_at (i := 4) hb rfl
    all_goals clear hb hI
    all_goals simp only [VC, opsFor, actD, List.getD_cons_zero, List.getD_cons_succ, List.foldl_cons, List.foldl_nil, List.mem_cons, List.not_mem_nil, or_false, forall_eq_or_imp, forall_eq] at hd ⊢
    · go_wp2
      exact ⟨rfl, rfl, .refl _ _, HI.out⟩
    · go_wp2
      exact ⟨rfl, hp1, .refl _ _, HI.out⟩
    · go_wp2_with fail
      refine (clone_P _ x.pairs _ hd.1 hlp).mono ?_
      rintro e w3 ⟨v3, rfl, hown, hx3⟩
      go_wp2
      exact ⟨rfl, FarS.own hown (by omega), .ext hx3, HI.out.ext hx3⟩
    · go_wp2
      exact ⟨rfl, rfl, .refl _ _, HI.out⟩
    · go_wp2
      exact ⟨rfl, ht1, .refl _ _, HI.out⟩
    · go_wp2_with fail
      refine (clone_S (vs 4) x.texts _ hd.1 hlt).mono ?_
      rintro e w3 ⟨v3, rfl, hown, hx3⟩
      go_wp2
      exact ⟨rfl, FarS.own hown (by omega), .ext hx3, HI.out.ext hx3⟩
    · go_wp2
      exact ⟨rfl, rfl, .refl _ _, HI.out⟩
    · go_wp2
      exact ⟨rfl, hz1, .refl _ _, HI.out⟩
    · go_wp2_with fail
      refine (clone_M (vs 7) x.zset _ hd.1 hlz).mono ?_
      rintro e w3 ⟨v3, rfl, hown, hx3⟩
      go_wp2
      exact ⟨rfl, FarS.own hown (by omega), .ext hx3, HI.out.ext hx3⟩
    · go_wp2
      exact ⟨rfl, rfl, .refl _ _, HI.out⟩
    · obtain ⟨a1, cap1, hv1, _⟩ := id hd.1.1
      have hfar := hd.1
      obtain ⟨hd1, hd2⟩ := hd
      rw [hv1] at hfar ⊢
      have HF := Lib.hid hfar
      clear hd1 hfar hv1
      go_wp2
      exact ⟨rfl, trivial, .set _ _ _ _, HI.out.cell (HI.out.2.2.2.set2 hlo HF.out)⟩
    · go_wp2
      exact ⟨rfl, rfl, .refl _ _, HI.out⟩
    · obtain ⟨a1, cap1, hv1, _⟩ := id hd.1.1
      have hfar := hd.1
      obtain ⟨hd1, hd2⟩ := hd
      rw [hv1] at hfar ⊢
      have HF := Lib.hid hfar
      clear hd1 hfar hv1
      go_wp2
      exact ⟨rfl, trivial, .set _ _ _ _, HI.out.cell (HI.out.2.2.2.set3 hlo HF.out)⟩
    · go_wp2
      exact ⟨rfl, rfl, .refl _ _, HI.out⟩
    · obtain ⟨a1, cap1, hv1, _⟩ := id hd.1.1
      have hfar := hd.1
      obtain ⟨hd1, hd2⟩ := hd
      rw [hv1] at hfar ⊢
      have HF := Lib.hid hfar
      clear hd1 hfar hv1
      go_wp2
      exact ⟨rfl, trivial, .set _ _ _ _, HI.out.cell (HI.out.2.2.2.set4 hlo HF.out)⟩
  · intro vs w' hI hd
    obtain ⟨hkb, hxw, hsz, p1, t1, z1, hb, hp1, ht1, hz1⟩ := hI
    obtain ⟨hc0, hf0⟩ := cells_at (i := 0) (v := Value.int .i64 x.kind) hb rfl
    obtain ⟨hc1, hf1⟩ := cells_at (i := 1) (v := Value.string x.text) hb rfl
    obtain ⟨hc2, hf2⟩ := cells_at (i := 2) (v := p1) hb rfl
    obtain ⟨hc3, hf3⟩ := cells_at (i := 3) (v := t1) hb rfl
    obtain ⟨hc4, hf4⟩ := cells_at (i := 4) (v := z1) hb rfl
    have hb2 : w'.heap[w.heap.size + 1]? = some (.cells #[.int .i64 0, .string ByteArray.empty, .slice none 0 0, .slice none 0 0, .slice none 0 0] 30 (0, 0)) := by
      rw [hkb.2 (w.heap.size + 1) (by simp) (by omega)]
      have h1 := heap_alloc_new (w.alloc (.cells #[.int .i64 x.kind, .string x.text, p, t, z] 30)) (.cells #[.int .i64 0, .string ByteArray.empty, .slice none 0 0, .slice none 0 0, .slice none 0 0] 30)
      simpa using h1
    obtain ⟨e0, ef0⟩ := cells_at (i := 0) (v := Value.int .i64 0) hb2 rfl
    obtain ⟨e1, ef1⟩ := cells_at (i := 1) (v := Value.string ByteArray.empty) hb2 rfl
    obtain ⟨e2, ef2⟩ := cells_at (i := 2) (v := Value.slice none 0 0) hb2 rfl
    obtain ⟨e3, ef3⟩ := cells_at (i := 3) (v := Value.slice none 0 0) hb2 rfl
    obtain ⟨e4, ef4⟩ := cells_at (i := 4) (v := Value.slice none 0 0) hb2 rfl
    obtain ⟨pa, pc, rfl, _⟩ := id hp1.1
    obtain ⟨ta, tc, rfl, _⟩ := id ht1.1
    obtain ⟨za, zc, rfl, _⟩ := id hz1.1
    have Hb2 := Lib.hid hb2
    have Hxw := Lib.hid hxw
    have Hp1 := Lib.hid hp1
    have Ht1 := Lib.hid ht1
    have Hz1 := Lib.hid hz1
    clear hd hkb hb hb2 hxw hp1 ht1 hz1 hxp hxt hxz
    simp only [actD, List.range, List.range.loop, List.foldl_cons, List.foldl_nil, List.length_cons, List.length_nil, List.getD_cons_zero, List.getD_cons_succ]
    generalize vs 0 = q0
    generalize vs 1 = q1
    generalize vs 2 = q2
    generalize vs 3 = q3
    generalize vs 4 = q4
    generalize vs 5 = q5
    generalize vs 6 = q6
    generalize vs 7 = q7
    generalize vs 8 = q8
    generalize vs 9 = q9
    generalize vs 11 = q11
    generalize vs 13 = q13
    go_simp
    go_wp2_with fail
    clear hc0 hc1 hc2 hc3 hc4 hf0 hf1 hf2 hf3 hf4 e0 e1 e2 e3 e4 ef0 ef1 ef2 ef3 ef4
    have hfin := heap_set (i := 4) (heap_set (i := 3) (heap_set (i := 2) (heap_set (i := 1) (heap_set (i := 0) Hb2.out (.int .i64 x.kind)) (.string x.text)) (.slice pa x.pairs.length pc)) (.slice ta x.texts.length tc)) (.slice za x.zset.length zc)
    have hkf : KeptBut (w.heap.size + 1) w' (((((w'.setCell ⟨w.heap.size + 1, 0, none⟩ (.int .i64 x.kind)).setCell ⟨w.heap.size + 1, 1, none⟩ (.string x.text)).setCell ⟨w.heap.size + 1, 2, none⟩ (.slice pa x.pairs.length pc)).setCell ⟨w.heap.size + 1, 3, none⟩ (.slice ta x.texts.length tc)).setCell ⟨w.heap.size + 1, 4, none⟩ (.slice za x.zset.length zc)) :=
      ((((KeptBut.set _ _ _ _).trans (.set _ _ _ _)).trans (.set _ _ _ _)).trans (.set _ _ _ _)).trans (.set _ _ _ _)
    have hxf : Ext w (((((w'.setCell ⟨w.heap.size + 1, 0, none⟩ (.int .i64 x.kind)).setCell ⟨w.heap.size + 1, 1, none⟩ (.string x.text)).setCell ⟨w.heap.size + 1, 2, none⟩ (.slice pa x.pairs.length pc)).setCell ⟨w.heap.size + 1, 3, none⟩ (.slice ta x.texts.length tc)).setCell ⟨w.heap.size + 1, 4, none⟩ (.slice za x.zset.length zc)) :=
      Below.setCell (Below.setCell (Below.setCell (Below.setCell (Below.setCell Hxw.out (p := ⟨w.heap.size + 1, 0, none⟩) (Nat.le_succ _) _) (p := ⟨w.heap.size + 1, 1, none⟩) (Nat.le_succ _) _) (p := ⟨w.heap.size + 1, 2, none⟩) (Nat.le_succ _) _) (p := ⟨w.heap.size + 1, 3, none⟩) (Nat.le_succ _) _) (p := ⟨w.heap.size + 1, 4, none⟩) (Nat.le_succ _) _
    generalize (((((w'.setCell ⟨w.heap.size + 1, 0, none⟩ (.int .i64 x.kind)).setCell ⟨w.heap.size + 1, 1, none⟩ (.string x.text)).setCell ⟨w.heap.size + 1, 2, none⟩ (.slice pa x.pairs.length pc)).setCell ⟨w.heap.size + 1, 3, none⟩ (.slice ta x.texts.length tc)).setCell ⟨w.heap.size + 1, 4, none⟩ (.slice za x.zset.length zc)) = wf at *
    have c0 := (cells_at (i := 0) (v := .int .i64 x.kind) hfin rfl).1
    have c1 := (cells_at (i := 1) (v := .string x.text) hfin rfl).1
    have c2 := (cells_at (i := 2) (v := .slice pa x.pairs.length pc) hfin rfl).1
    have c3 := (cells_at (i := 3) (v := .slice ta x.texts.length tc) hfin rfl).1
    have c4 := (cells_at (i := 4) (v := .slice za x.zset.length zc) hfin rfl).1
    refine bodyPost_ret (v := .agg #[.int .i64 x.kind, .string x.text, .slice pa x.pairs.length pc, .slice ta x.texts.length tc, .slice za x.zset.length zc]) (by simp [results, Try.results21, go_sem, c0, c1, c2, c3, c4]) rfl ⟨_, _, _, rfl, ?_, hxf⟩
    exact ⟨Hp1.out.kept rPr_flat hkf ⟨by omega, by omega⟩, Ht1.out.kept rStr_flat hkf ⟨by omega, by omega⟩, Hz1.out.kept rMb_flat hkf ⟨by omega, by omega⟩⟩
end Go.Proofs.Ythclkljdnmokcaa
