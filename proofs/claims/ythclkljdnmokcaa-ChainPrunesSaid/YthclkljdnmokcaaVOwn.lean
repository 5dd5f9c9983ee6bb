/-
  value.Clone once more: its slices are the call's own.
-/
import Derived.Test.YthclkljdnmokcaaVClone
set_option linter.unusedVariables false
set_option linter.unusedSimpArgs false
namespace Go.Proofs.Ythclkljdnmokcaa
open Go.RowKit Go.Proofs

/-- a cell of the box holds a slice of the call's own -/
def OwnC {α : Type} (r : Rep α) (hi : Nat) (e : TypeId) (l : List α) (g i : Nat) (w : World) : Prop := ∃ v, w.cell? ⟨g, i, none⟩ = some v ∧ Own r hi e w v l
theorem Own.grow {α : Type} {r : Rep α} (hf : r.Flat) {hi : Nat} {e : TypeId} {w w' : World} {v : Value} {l : List α} (h : Own r hi e w v l) {g : Nat} (hg : w.grownBy w' (some g)) (hlt : g < hi) : Own r hi e w' v l := by
  have hb := h.lt
  obtain ⟨cells, ho, hr⟩ := h
  exact ⟨cells, ho.kept hg (.inr fun e => by have := hb g e; omega), hr.1, fun j x hx => hf _ _ _ _ (hr.2 j x hx)⟩
theorem OwnC.ext {α : Type} {r : Rep α} (hf : r.Flat) {hi : Nat} {e : TypeId} {l : List α} {g i : Nat} {w w' : World} (h : OwnC r hi e l g i w) (hx : Ext w w') : OwnC r hi e l g i w' := by
  obtain ⟨v, hc, ho⟩ := h
  exact ⟨v, hx.cell hc, ho.mono hf.mono hx⟩
theorem grown_set (g i : Nat) (v : Value) (w : World) : w.grownBy (w.setCell ⟨g, i, none⟩ v) (some g) := ⟨rfl, rfl, rfl, by simp, fun k _ hk => Below.heap_setCell _ _ _ _ (fun e => hk (by rw [e]))⟩
theorem grown_ext {g : Nat} {w w' : World} (hx : Ext w w') : w.grownBy w' (some g) := ⟨hx.os, hx.tape, hx.output, hx.size, fun k hk _ => hx.block k hk⟩
theorem cell_set_other {w : World} {g i j : Nat} {u v : Value} (h : w.cell? ⟨g, j, none⟩ = some u) (hij : i ≠ j) : (w.setCell ⟨g, i, none⟩ v).cell? ⟨g, j, none⟩ = some u := by
  cases hb : w.heap[g]? with
  | none => simp [World.cell?, hb] at h
  | some o =>
    cases o with
    | cells cs ty fr =>
      have h2 := heap_set (i := i) hb v
      simp only [World.cell?, hb] at h
      simp only [World.cell?, h2]
      rw [Array.getElem?_setIfInBounds]
      simpa [hij] using h
    | _ => simp [World.cell?, hb] at h
theorem OwnC.setOther {α : Type} {r : Rep α} (hf : r.Flat) {hi : Nat} {e : TypeId} {l : List α} {g i j : Nat} {w : World} (h : OwnC r hi e l g j w) (hlt : g < hi) (hij : i ≠ j) (v : Value) : OwnC r hi e l g j (w.setCell ⟨g, i, none⟩ v) := by
  obtain ⟨u, hc, ho⟩ := h
  exact ⟨u, cell_set_other hc hij, ho.grow hf (grown_set _ _ _ _) hlt⟩
theorem OwnC.setThis {α : Type} {r : Rep α} (hf : r.Flat) {hi : Nat} {e : TypeId} {l : List α} {g i : Nat} {w : World} {u v : Value} (hc : w.cell? ⟨g, i, none⟩ = some u) (ho : Own r hi e w v l) (hlt : g < hi) : OwnC r hi e l g i (w.setCell ⟨g, i, none⟩ v) :=
  ⟨v, World.cell?_setCell_same' _ _ _ (by rw [hc]; rfl), ho.grow hf (grown_set _ _ _ _) hlt⟩
/-- what one step leaves of what the others did -/
def RelC (g : Nat) (x : Val) (w1 w2 : World) : Prop :=
  w1.grownBy w2 (some g) ∧ (OwnC rPr (g + 2) 43 x.pairs g 2 w1 → OwnC rPr (g + 2) 43 x.pairs g 2 w2) ∧ (OwnC rStr (g + 2) 9 x.texts g 3 w1 → OwnC rStr (g + 2) 9 x.texts g 3 w2) ∧ (OwnC rMb (g + 2) 45 x.zset g 4 w1 → OwnC rMb (g + 2) 45 x.zset g 4 w2)
theorem RelC.refl (g : Nat) (x : Val) (w : World) : RelC g x w w := ⟨⟨rfl, rfl, rfl, Nat.le_refl _, fun _ _ _ => rfl⟩, id, id, id⟩
theorem RelC.ext {g : Nat} {x : Val} {w w' : World} (hx : Ext w w') : RelC g x w w' := ⟨grown_ext hx, fun h => h.ext rPr_flat hx, fun h => h.ext rStr_flat hx, fun h => h.ext rMb_flat hx⟩
theorem RelC.kept {g : Nat} {x : Val} {w w' : World} (h : RelC g x w w') : KeptBut g w w' := ⟨h.1.size, fun b hb hg => h.1.block b hb (fun e => hg (Option.some.inj e))⟩
/-- what the operations of Clone leave -/
def VO (lo g : Nat) (x : Val) (i : Nat) (w' : World) (v : Value) : Prop :=
  match i with
  | 2 => Own rPr (g + 2) 43 w' v x.pairs
  | 5 => Own rStr (g + 2) 9 w' v x.texts
  | 8 => Own rMb (g + 2) 45 w' v x.zset
  | 10 => OwnC rPr (g + 2) 43 x.pairs g 2 w'
  | 12 => OwnC rStr (g + 2) 9 x.texts g 3 w'
  | 14 => OwnC rMb (g + 2) 45 x.zset g 4 w'
  | i => VC lo g x i w' v
theorem VO_kept (lo g : Nat) (hlo : lo ≤ g) (x : Val) (i : Nat) (w1 w2 : World) (v : Value) (hk : RelC g x w1 w2) (h : VO lo g x i w1 v) : VO lo g x i w2 v := by
  unfold VO at h ⊢
  split at h
  case h_1 => exact Own.grow rPr_flat h hk.1 (by omega)
  case h_2 => exact Own.grow rStr_flat h hk.1 (by omega)
  case h_3 => exact Own.grow rMb_flat h hk.1 (by omega)
  case h_4 => exact hk.2.1 h
  case h_5 => exact hk.2.2.1 h
  case h_6 => exact hk.2.2.2 h
  case h_7 => exact VC_kept lo g hlo x _ w1 w2 v hk.kept h
set_option maxRecDepth 100000 in
set_option maxHeartbeats 4000000 in
theorem vclone_own (x : Val) (p t z : Value) (w0 w : World) (hx0 : Ext w0 w) (hk : (Lit.int .i64 x.kind).wf = true) (hs : x.text.size ≤ maxLen) (hx : Parts w0 p t z x) (hlp : x.pairs.length ≤ 1000000) (hlt : x.texts.length ≤ 1000000) (hlz : x.zset.length ≤ 1000000) :
    Calls Try.prog 21 #[.agg #[.int .i64 x.kind, .string x.text, p, t, z]] w fun e w' => ∃ p' t' z', e = .returned (.agg #[.int .i64 x.kind, .string x.text, p', t', z']) ∧ Own rPr (w.heap.size + 2) 43 w' p' x.pairs ∧ Own rStr (w.heap.size + 2) 9 w' t' x.texts ∧ Own rMb (w.heap.size + 2) 45 w' z' x.zset ∧ Ext w w' := by
  obtain ⟨hxp, hxt, hxz⟩ := hx
  have hlo : w0.heap.size ≤ w.heap.size := hx0.size
  have HX0 := Lib.hid hx0
  clear hx0
  go_enter Try.func21, Try.ntmps21
  go_wp2_with fail
  refine wp_region_rely_lit rfl [some 3, some 4, some 5, some 6, some 7, some 8, some 9, some 10, some 11, some 12, none, some 13, none, some 14, none] rfl [[], [0], [1], [], [3], [4], [], [6], [7], [], [2, 9], [], [5, 11], [], [8, 13]] (by kernel_rfl) (InvC w0.heap.size w ((w.alloc (.cells #[.int .i64 x.kind, .string x.text, p, t, z] 30)).alloc (.cells #[.int .i64 0, .string ByteArray.empty, .slice none 0 0, .slice none 0 0, .slice none 0 0] 30)) x) (RelC w.heap.size x)
    (VO w0.heap.size w.heap.size x) (fun i w1 w2 v hR h => VO_kept _ _ hlo _ i w1 w2 v hR h) ?_ ?_ ?_
  · refine ⟨.drew _ _, (((Ext.refl w).alloc _).alloc _).drew, by simp, ?_⟩
    refine ⟨p, t, z, ?_, ?_, ?_, ?_⟩
    · have h1 := heap_alloc_new w (.cells #[.int .i64 x.kind, .string x.text, p, t, z] 30)
      have h2 := (Ext.refl (w.alloc (.cells #[.int .i64 x.kind, .string x.text, p, t, z] 30))).alloc (.cells #[.int .i64 0, .string ByteArray.empty, .slice none 0 0, .slice none 0 0, .slice none 0 0] 30)
      exact (h2.block w.heap.size (by simp)).trans h1
    · exact (FarS.old hxp (Nat.le_refl _)).ext rPr_mono (HX0.out.then ((((Ext.refl w).alloc _).alloc _).drew))
    · exact (FarS.old hxt (Nat.le_refl _)).ext rStr_mono (HX0.out.then ((((Ext.refl w).alloc _).alloc _).drew))
    · exact (FarS.old hxz (Nat.le_refl _)).ext rMb_mono (HX0.out.then ((((Ext.refl w).alloc _).alloc _).drew))
  · refine ⟨?_, ?_, ?_, ?_, ?_, ?_, ?_, ?_, ?_, ?_, ?_, ?_, ?_, ?_, ?_, trivial⟩
    all_goals (intro vs w' hI hd)
    all_goals have HI := Lib.hid hI
    all_goals obtain ⟨_, _, hsz, p1, t1, z1, hb, hp1, ht1, hz1⟩ := id hI
    all_goals obtain ⟨hc2, hf2⟩ := cells_at (i := 2) hb rfl
    all_goals obtain ⟨hc3, hf3⟩ := cells_at (i := 3) hb rfl
    all_goals obtain ⟨hc4, hf4⟩ := cells_at (i := 4) hb rfl
    all_goals clear hb hI
    all_goals simp only [VO, VC, opsFor, actD, List.getD_cons_zero, List.getD_cons_succ, List.foldl_cons, List.foldl_nil, List.mem_cons, List.not_mem_nil, or_false, forall_eq_or_imp, forall_eq] at hd ⊢
    · go_wp2
      exact ⟨rfl, rfl, .refl _ _ _, HI.out⟩
    · go_wp2
      exact ⟨rfl, hp1, .refl _ _ _, HI.out⟩
    · go_wp2_with fail
      refine (clone_P _ x.pairs _ hd.1 hlp).mono ?_
      rintro e w3 ⟨v3, rfl, hown, hx3⟩
      go_wp2
      exact ⟨rfl, hown.base (by omega), .ext hx3, HI.out.ext hx3⟩
    · go_wp2
      exact ⟨rfl, rfl, .refl _ _ _, HI.out⟩
    · go_wp2
      exact ⟨rfl, ht1, .refl _ _ _, HI.out⟩
    · go_wp2_with fail
      refine (clone_S (vs 4) x.texts _ hd.1 hlt).mono ?_
      rintro e w3 ⟨v3, rfl, hown, hx3⟩
      go_wp2
      exact ⟨rfl, hown.base (by omega), .ext hx3, HI.out.ext hx3⟩
    · go_wp2
      exact ⟨rfl, rfl, .refl _ _ _, HI.out⟩
    · go_wp2
      exact ⟨rfl, hz1, .refl _ _ _, HI.out⟩
    · go_wp2_with fail
      refine (clone_M (vs 7) x.zset _ hd.1 hlz).mono ?_
      rintro e w3 ⟨v3, rfl, hown, hx3⟩
      go_wp2
      exact ⟨rfl, hown.base (by omega), .ext hx3, HI.out.ext hx3⟩
    · go_wp2
      exact ⟨rfl, rfl, .refl _ _ _, HI.out⟩
    · obtain ⟨a1, cap1, hv1, _⟩ := id hd.1.slice
      have hfar := hd.1
      obtain ⟨hd1, hd2⟩ := hd
      rw [hv1] at hfar ⊢
      have HF := Lib.hid hfar
      clear hd1 hfar hv1
      go_wp2
      exact ⟨rfl, OwnC.setThis rPr_flat hc2 HF.out (by omega), ⟨grown_set _ _ _ _, fun h => OwnC.setThis rPr_flat hc2 HF.out (by omega), fun h => h.setOther rStr_flat (by omega) (by omega) _, fun h => h.setOther rMb_flat (by omega) (by omega) _⟩, HI.out.cell (HI.out.2.2.2.set2 hlo (FarS.own HF.out (Nat.le_refl _)))⟩
    · go_wp2
      exact ⟨rfl, rfl, .refl _ _ _, HI.out⟩
    · obtain ⟨a1, cap1, hv1, _⟩ := id hd.1.slice
      have hfar := hd.1
      obtain ⟨hd1, hd2⟩ := hd
      rw [hv1] at hfar ⊢
      have HF := Lib.hid hfar
      clear hd1 hfar hv1
      go_wp2
      exact ⟨rfl, OwnC.setThis rStr_flat hc3 HF.out (by omega), ⟨grown_set _ _ _ _, fun h => h.setOther rPr_flat (by omega) (by omega) _, fun h => OwnC.setThis rStr_flat hc3 HF.out (by omega), fun h => h.setOther rMb_flat (by omega) (by omega) _⟩, HI.out.cell (HI.out.2.2.2.set3 hlo (FarS.own HF.out (Nat.le_refl _)))⟩
    · go_wp2
      exact ⟨rfl, rfl, .refl _ _ _, HI.out⟩
    · obtain ⟨a1, cap1, hv1, _⟩ := id hd.1.slice
      have hfar := hd.1
      obtain ⟨hd1, hd2⟩ := hd
      rw [hv1] at hfar ⊢
      have HF := Lib.hid hfar
      clear hd1 hfar hv1
      go_wp2
      exact ⟨rfl, OwnC.setThis rMb_flat hc4 HF.out (by omega), ⟨grown_set _ _ _ _, fun h => h.setOther rPr_flat (by omega) (by omega) _, fun h => h.setOther rStr_flat (by omega) (by omega) _, fun h => OwnC.setThis rMb_flat hc4 HF.out (by omega)⟩, HI.out.cell (HI.out.2.2.2.set4 hlo (FarS.own HF.out (Nat.le_refl _)))⟩
  · intro vs w' hI hd
    obtain ⟨hkb, hxw, hsz, p1, t1, z1, hb, hp1, ht1, hz1⟩ := hI
    obtain ⟨hc0, hf0⟩ := cells_at (i := 0) (v := Value.int .i64 x.kind) hb rfl
    obtain ⟨hc1, hf1⟩ := cells_at (i := 1) (v := Value.string x.text) hb rfl
    obtain ⟨hc2, hf2⟩ := cells_at (i := 2) (v := p1) hb rfl
    obtain ⟨hc3, hf3⟩ := cells_at (i := 3) (v := t1) hb rfl
    obtain ⟨hc4, hf4⟩ := cells_at (i := 4) (v := z1) hb rfl
    have hb2 : w'.heap[w.heap.size + 1]? = some (.cells #[.int .i64 0, .string ByteArray.empty, .slice none 0 0, .slice none 0 0, .slice none 0 0] 30 (0, 0)) := by
      rw [hkb.2 (w.heap.size + 1) (by simp) (by omega)]
      have h1 := heap_alloc_new (w.alloc (.cells #[.int .i64 x.kind, .string x.text, p, t, z] 30)) (.cells #[.int .i64 0, .string ByteArray.empty, .slice none 0 0, .slice none 0 0, .slice none 0 0] 30)
      simpa using h1
    obtain ⟨e0, ef0⟩ := cells_at (i := 0) (v := Value.int .i64 0) hb2 rfl
    obtain ⟨e1, ef1⟩ := cells_at (i := 1) (v := Value.string ByteArray.empty) hb2 rfl
    obtain ⟨e2, ef2⟩ := cells_at (i := 2) (v := Value.slice none 0 0) hb2 rfl
    obtain ⟨e3, ef3⟩ := cells_at (i := 3) (v := Value.slice none 0 0) hb2 rfl
    obtain ⟨e4, ef4⟩ := cells_at (i := 4) (v := Value.slice none 0 0) hb2 rfl
    obtain ⟨pa, pc, rfl, _⟩ := id hp1.1
    obtain ⟨ta, tc, rfl, _⟩ := id ht1.1
    obtain ⟨za, zc, rfl, _⟩ := id hz1.1
    have Hb2 := Lib.hid hb2
    have Hxw := Lib.hid hxw
    have Hp1 := Lib.hid hp1
    have Ht1 := Lib.hid ht1
    have Hz1 := Lib.hid hz1
    obtain ⟨u2, k2, ho2⟩ : OwnC rPr (w.heap.size + 2) 43 x.pairs w.heap.size 2 w' := hd 10 (by decide)
    obtain ⟨u3, k3, ho3⟩ : OwnC rStr (w.heap.size + 2) 9 x.texts w.heap.size 3 w' := hd 12 (by decide)
    obtain ⟨u4, k4, ho4⟩ : OwnC rMb (w.heap.size + 2) 45 x.zset w.heap.size 4 w' := hd 14 (by decide)
    rw [hc2] at k2
    rw [hc3] at k3
    rw [hc4] at k4
    cases k2
    cases k3
    cases k4
    have Ho2 := Lib.hid ho2
    have Ho3 := Lib.hid ho3
    have Ho4 := Lib.hid ho4
    clear ho2 ho3 ho4
    clear hd hkb hb hb2 hxw hp1 ht1 hz1 hxp hxt hxz
    simp only [actD, List.range, List.range.loop, List.foldl_cons, List.foldl_nil, List.length_cons, List.length_nil, List.getD_cons_zero, List.getD_cons_succ]
    generalize vs 0 = q0
    generalize vs 1 = q1
    generalize vs 2 = q2
    generalize vs 3 = q3
    generalize vs 4 = q4
    generalize vs 5 = q5
    generalize vs 6 = q6
    generalize vs 7 = q7
    generalize vs 8 = q8
    generalize vs 9 = q9
    generalize vs 11 = q11
    generalize vs 13 = q13
    go_simp
    go_wp2_with fail
    clear hc0 hc1 hc2 hc3 hc4 hf0 hf1 hf2 hf3 hf4 e0 e1 e2 e3 e4 ef0 ef1 ef2 ef3 ef4
    have hfin := heap_set (i := 4) (heap_set (i := 3) (heap_set (i := 2) (heap_set (i := 1) (heap_set (i := 0) Hb2.out (.int .i64 x.kind)) (.string x.text)) (.slice pa x.pairs.length pc)) (.slice ta x.texts.length tc)) (.slice za x.zset.length zc)
    have hkf : w'.grownBy (((((w'.setCell ⟨w.heap.size + 1, 0, none⟩ (.int .i64 x.kind)).setCell ⟨w.heap.size + 1, 1, none⟩ (.string x.text)).setCell ⟨w.heap.size + 1, 2, none⟩ (.slice pa x.pairs.length pc)).setCell ⟨w.heap.size + 1, 3, none⟩ (.slice ta x.texts.length tc)).setCell ⟨w.heap.size + 1, 4, none⟩ (.slice za x.zset.length zc)) (some (w.heap.size + 1)) :=
      ((((grown_set _ _ _ _).trans (grown_set _ _ _ _)).trans (grown_set _ _ _ _)).trans (grown_set _ _ _ _)).trans (grown_set _ _ _ _)
    have hxf : Ext w (((((w'.setCell ⟨w.heap.size + 1, 0, none⟩ (.int .i64 x.kind)).setCell ⟨w.heap.size + 1, 1, none⟩ (.string x.text)).setCell ⟨w.heap.size + 1, 2, none⟩ (.slice pa x.pairs.length pc)).setCell ⟨w.heap.size + 1, 3, none⟩ (.slice ta x.texts.length tc)).setCell ⟨w.heap.size + 1, 4, none⟩ (.slice za x.zset.length zc)) :=
      Below.setCell (Below.setCell (Below.setCell (Below.setCell (Below.setCell Hxw.out (p := ⟨w.heap.size + 1, 0, none⟩) (Nat.le_succ _) _) (p := ⟨w.heap.size + 1, 1, none⟩) (Nat.le_succ _) _) (p := ⟨w.heap.size + 1, 2, none⟩) (Nat.le_succ _) _) (p := ⟨w.heap.size + 1, 3, none⟩) (Nat.le_succ _) _) (p := ⟨w.heap.size + 1, 4, none⟩) (Nat.le_succ _) _
    generalize (((((w'.setCell ⟨w.heap.size + 1, 0, none⟩ (.int .i64 x.kind)).setCell ⟨w.heap.size + 1, 1, none⟩ (.string x.text)).setCell ⟨w.heap.size + 1, 2, none⟩ (.slice pa x.pairs.length pc)).setCell ⟨w.heap.size + 1, 3, none⟩ (.slice ta x.texts.length tc)).setCell ⟨w.heap.size + 1, 4, none⟩ (.slice za x.zset.length zc)) = wf at *
    have c0 := (cells_at (i := 0) (v := .int .i64 x.kind) hfin rfl).1
    have c1 := (cells_at (i := 1) (v := .string x.text) hfin rfl).1
    have c2 := (cells_at (i := 2) (v := .slice pa x.pairs.length pc) hfin rfl).1
    have c3 := (cells_at (i := 3) (v := .slice ta x.texts.length tc) hfin rfl).1
    have c4 := (cells_at (i := 4) (v := .slice za x.zset.length zc) hfin rfl).1
    refine bodyPost_ret (v := .agg #[.int .i64 x.kind, .string x.text, .slice pa x.pairs.length pc, .slice ta x.texts.length tc, .slice za x.zset.length zc]) (by simp [results, Try.results21, go_sem, c0, c1, c2, c3, c4]) rfl ⟨_, _, _, rfl, Ho2.out.grow rPr_flat hkf (by omega), Ho3.out.grow rStr_flat hkf (by omega), Ho4.out.grow rMb_flat hkf (by omega), hxf⟩
end Go.Proofs.Ythclkljdnmokcaa
