/-
  A version copied: its slices are the copy's own; walked.
-/
import Derived.Test.YthclkljdnmokcaaVOwn
import Derived.Test.YthclkljdnmokcaaCopied
set_option linter.unusedVariables false
set_option linter.unusedSimpArgs false
namespace Go.Proofs.Ythclkljdnmokcaa
open Go.RowKit Go.Proofs

theorem Own.keptB {α : Type} {r : Rep α} (hf : r.Flat) {B : Nat} {e : TypeId} {w w' : World} {v : Value} {l : List α} (h : Own r B e w v l) {G : Nat} (hk : KeptBut G w w') (hG : G < B) : Own r B e w' v l := by
  obtain ⟨cells, ⟨h1, h2⟩, h3⟩ := h
  refine ⟨cells, ⟨h1, ?_⟩, h3.1, fun j x hx => hf _ _ _ _ (h3.2 j x hx)⟩
  rcases h2 with hn | ⟨g, cap, cur, hv, hb, hg, rest⟩
  · exact .inl hn
  · exact .inr ⟨g, cap, cur, hv, hb, by rw [hk.2 g (Array.getElem?_eq_some_iff.1 hg).1 (by omega)]; exact hg, rest⟩
/-- a value whose slices are the call's own -/
structure OwnP (B : Nat) (w : World) (p t z : Value) (x : Val) : Prop where
  p : Own rPr B 43 w p x.pairs
  t : Own rStr B 9 w t x.texts
  z : Own rMb B 45 w z x.zset
theorem OwnP.kept {B : Nat} {w w' : World} {p t z : Value} {x : Val} (h : OwnP B w p t z x) {G : Nat} (hk : KeptBut G w w') (hG : G < B) : OwnP B w' p t z x := ⟨h.p.keptB rPr_flat hk hG, h.t.keptB rStr_flat hk hG, h.z.keptB rMb_flat hk hG⟩
theorem OwnP.parts {B : Nat} {w : World} {p t z : Value} {x : Val} (h : OwnP B w p t z x) : Parts w p t z x := ⟨h.p.slice, h.t.slice, h.z.slice⟩
set_option maxRecDepth 100000 in
set_option maxHeartbeats 1000000 in
theorem copiedO_fin {w wf : World} {x : Ver} {pa ta za : Option Addr} {pn pc tn tc zn zc : Nat} {t0 t1 t3 t4 t5 t6 t7 : Value} (hfin : wf.heap[w.heap.size + 1]? = some (.cells #[.int .i64 x.stamp, .bool x.gone, .int .i64 x.expire, .int .i64 x.val.kind, .string x.val.text, .slice pa pn pc, .slice ta tn tc, .slice za zn zc] 32 (0, 0))) (hxf : Ext w wf) (hok : VerOk wf x (.slice pa pn pc) (.slice ta tn tc) (.slice za zn zc)) (hfar : OwnP (w.heap.size + 2) wf (.slice pa pn pc) (.slice ta tn tc) (.slice za zn zc) x.val) :
    bodyPost Try.prog Try.f39 (fun e w' => ∃ p' t' z', e = .returned (.agg #[.int .i64 x.stamp, .bool x.gone, .int .i64 x.expire, .int .i64 x.val.kind, .string x.val.text, p', t', z']) ∧ VerOk w' x p' t' z' ∧ OwnP (w.heap.size + 2) w' p' t' z' x.val ∧ Ext w w') Exit.ret { tmps := #[t0, t1, .pointer (some ⟨w.heap.size + 1, 0, none⟩), t3, t4, t5, t6, t7], defers := [] } wf := by
  have c0 := (cells_at (i := 0) (v := .int .i64 x.stamp) hfin rfl).1
  have c1 := (cells_at (i := 1) (v := .bool x.gone) hfin rfl).1
  have c2 := (cells_at (i := 2) (v := .int .i64 x.expire) hfin rfl).1
  have c3 := (cells_at (i := 3) (v := .int .i64 x.val.kind) hfin rfl).1
  have c4 := (cells_at (i := 4) (v := .string x.val.text) hfin rfl).1
  have c5 := (cells_at (i := 5) (v := .slice pa pn pc) hfin rfl).1
  have c6 := (cells_at (i := 6) (v := .slice ta tn tc) hfin rfl).1
  have c7 := (cells_at (i := 7) (v := .slice za zn zc) hfin rfl).1
  exact bodyPost_ret (v := .agg #[.int .i64 x.stamp, .bool x.gone, .int .i64 x.expire, .int .i64 x.val.kind, .string x.val.text, .slice pa pn pc, .slice ta tn tc, .slice za zn zc]) (by simp [results, Try.results39, go_sem, c0, c1, c2, c3, c4, c5, c6, c7]) rfl ⟨_, _, _, rfl, hok, hfar, hxf⟩
set_option maxRecDepth 100000 in
set_option maxHeartbeats 4000000 in
theorem copied_own (x : Ver) (p t z : Value) (w0 w : World) (hx0 : Ext w0 w) (hok : VerOk w0 x p t z) (hlp : x.val.pairs.length ≤ 1000000) (hlt : x.val.texts.length ≤ 1000000) (hlz : x.val.zset.length ≤ 1000000) :
    Calls Try.prog 39 #[verV x p t z] w fun e w' => ∃ p' t' z', e = .returned (verV x p' t' z') ∧ VerOk w' x p' t' z' ∧ OwnP (w.heap.size + 2) w' p' t' z' x.val ∧ Ext w w' := by
  have Hok := Lib.hid hok
  have Hx0 := Lib.hid hx0
  have hlo := hx0.size
  clear hok hx0
  unfold verV
  have hW := Lib.hid (heap_alloc_new (w.alloc (.cells #[.int .i64 x.stamp, .bool x.gone, .int .i64 x.expire, .int .i64 x.val.kind, .string x.val.text, p, t, z] 32)) (.cells #[.int .i64 0, .bool false, .int .i64 0, .int .i64 0, .string ⟨#[]⟩, .slice none 0 0, .slice none 0 0, .slice none 0 0] 32))
  have hW0 := Lib.hid (heap_alloc_new w (.cells #[.int .i64 x.stamp, .bool x.gone, .int .i64 x.expire, .int .i64 x.val.kind, .string x.val.text, p, t, z] 32))
  go_enter Try.func39, Try.ntmps39
  go_wp2_with fail
  refine (vclone_own x.val p t z w0 _ ((Hx0.out.alloc _).alloc _) Hok.out.kind Hok.out.text Hok.out.parts hlp hlt hlz).mono ?_
  rintro e w3 ⟨p', t', z', rfl, ho1, ho2, ho3, hx3⟩
  have hfar : OwnP (w.heap.size + 2) w3 p' t' z' x.val := ⟨ho1.base (by simp), ho2.base (by simp), ho3.base (by simp)⟩
  clear ho1 ho2 ho3
  have hg1 : w3.heap[w.heap.size]? = some (.cells #[.int .i64 x.stamp, .bool x.gone, .int .i64 x.expire, .int .i64 x.val.kind, .string x.val.text, p, t, z] 32 (0, 0)) := by
    rw [hx3.block w.heap.size (by simp; omega)]
    exact ((Ext.refl (w.alloc (.cells #[.int .i64 x.stamp, .bool x.gone, .int .i64 x.expire, .int .i64 x.val.kind, .string x.val.text, p, t, z] 32))).alloc (.cells #[.int .i64 0, .bool false, .int .i64 0, .int .i64 0, .string ⟨#[]⟩, .slice none 0 0, .slice none 0 0, .slice none 0 0] 32)).block w.heap.size (by simp) |>.trans hW0.out
  have hg2 : w3.heap[w.heap.size + 1]? = some (.cells #[.int .i64 0, .bool false, .int .i64 0, .int .i64 0, .string ⟨#[]⟩, .slice none 0 0, .slice none 0 0, .slice none 0 0] 32 (0, 0)) := by
    rw [hx3.block (w.heap.size + 1) (by simp)]
    have h := hW.out
    have e : (w.alloc (.cells #[.int .i64 x.stamp, .bool x.gone, .int .i64 x.expire, .int .i64 x.val.kind, .string x.val.text, p, t, z] 32)).heap.size = w.heap.size + 1 := by simp
    rw [e] at h
    exact h
  have hxw : Ext w w3 := (((Ext.refl w).alloc _).alloc _).then hx3
  have Hxw := Lib.hid hxw
  obtain ⟨pa, pc, rfl, _⟩ := id hfar.p.slice
  obtain ⟨ta, tc, rfl, _⟩ := id hfar.t.slice
  obtain ⟨za, zc, rfl, _⟩ := id hfar.z.slice
  have hsz := hx3.size
  have Hfar := Lib.hid hfar
  clear hfar hx3 hxw hW hW0
  obtain ⟨a0, af0⟩ := cells_at (i := 0) (v := .int .i64 x.stamp) hg1 rfl
  obtain ⟨a1, af1⟩ := cells_at (i := 1) (v := .bool x.gone) hg1 rfl
  obtain ⟨a2, af2⟩ := cells_at (i := 2) (v := .int .i64 x.expire) hg1 rfl
  obtain ⟨a3, af3⟩ := cells_at (i := 3) (v := .int .i64 x.val.kind) hg1 rfl
  obtain ⟨a4, af4⟩ := cells_at (i := 4) (v := .string x.val.text) hg1 rfl
  obtain ⟨a5, af5⟩ := cells_at (i := 5) (v := p) hg1 rfl
  obtain ⟨a6, af6⟩ := cells_at (i := 6) (v := t) hg1 rfl
  obtain ⟨a7, af7⟩ := cells_at (i := 7) (v := z) hg1 rfl
  obtain ⟨b0, bf0⟩ := cells_at (i := 0) (v := .int .i64 0) hg2 rfl
  obtain ⟨b1, bf1⟩ := cells_at (i := 1) (v := .bool false) hg2 rfl
  obtain ⟨b2, bf2⟩ := cells_at (i := 2) (v := .int .i64 0) hg2 rfl
  obtain ⟨b3, bf3⟩ := cells_at (i := 3) (v := .int .i64 0) hg2 rfl
  obtain ⟨b4, bf4⟩ := cells_at (i := 4) (v := .string ⟨#[]⟩) hg2 rfl
  obtain ⟨b5, bf5⟩ := cells_at (i := 5) (v := .slice none 0 0) hg2 rfl
  obtain ⟨b6, bf6⟩ := cells_at (i := 6) (v := .slice none 0 0) hg2 rfl
  obtain ⟨b7, bf7⟩ := cells_at (i := 7) (v := .slice none 0 0) hg2 rfl
  have Hg1 := Lib.hid hg1
  have Hg2 := Lib.hid hg2
  clear hg1 hg2
  go_wp2_with fail
  clear a0 af0 b0 bf0 a1 af1 b1 bf1 a2 af2 b2 bf2 a3 af3 b3 bf3 a4 af4 b4 bf4 a5 af5 b5 bf5 a6 af6 b6 bf6 a7 af7 b7 bf7
  have hk1 : KeptBut w.heap.size w3 (((((w3.setCell ⟨w.heap.size, 3, none⟩ (.int .i64 x.val.kind)).setCell ⟨w.heap.size, 4, none⟩ (.string x.val.text)).setCell ⟨w.heap.size, 5, none⟩ (.slice pa x.val.pairs.length pc)).setCell ⟨w.heap.size, 6, none⟩ (.slice ta x.val.texts.length tc)).setCell ⟨w.heap.size, 7, none⟩ (.slice za x.val.zset.length zc)) := ((((KeptBut.set _ _ _ _).trans (.set _ _ _ _)).trans (.set _ _ _ _)).trans (.set _ _ _ _)).trans (.set _ _ _ _)
  have hk2 : KeptBut (w.heap.size + 1) (((((w3.setCell ⟨w.heap.size, 3, none⟩ (.int .i64 x.val.kind)).setCell ⟨w.heap.size, 4, none⟩ (.string x.val.text)).setCell ⟨w.heap.size, 5, none⟩ (.slice pa x.val.pairs.length pc)).setCell ⟨w.heap.size, 6, none⟩ (.slice ta x.val.texts.length tc)).setCell ⟨w.heap.size, 7, none⟩ (.slice za x.val.zset.length zc)) (((((((((((((w3.setCell ⟨w.heap.size, 3, none⟩ (.int .i64 x.val.kind)).setCell ⟨w.heap.size, 4, none⟩ (.string x.val.text)).setCell ⟨w.heap.size, 5, none⟩ (.slice pa x.val.pairs.length pc)).setCell ⟨w.heap.size, 6, none⟩ (.slice ta x.val.texts.length tc)).setCell ⟨w.heap.size, 7, none⟩ (.slice za x.val.zset.length zc)).setCell ⟨w.heap.size + 1, 0, none⟩ (.int .i64 x.stamp)).setCell ⟨w.heap.size + 1, 1, none⟩ (.bool x.gone)).setCell ⟨w.heap.size + 1, 2, none⟩ (.int .i64 x.expire)).setCell ⟨w.heap.size + 1, 3, none⟩ (.int .i64 x.val.kind)).setCell ⟨w.heap.size + 1, 4, none⟩ (.string x.val.text)).setCell ⟨w.heap.size + 1, 5, none⟩ (.slice pa x.val.pairs.length pc)).setCell ⟨w.heap.size + 1, 6, none⟩ (.slice ta x.val.texts.length tc)).setCell ⟨w.heap.size + 1, 7, none⟩ (.slice za x.val.zset.length zc)) := ((((((((KeptBut.set _ _ _ _).trans (.set _ _ _ _)).trans (.set _ _ _ _)).trans (.set _ _ _ _)).trans (.set _ _ _ _)).trans (.set _ _ _ _)).trans (.set _ _ _ _)).trans (.set _ _ _ _))
  have hf1 := hk1.2 (w.heap.size + 1) (by simp at hsz; omega) (by omega)
  rw [Hg2.out] at hf1
  have hfar2 := (Hfar.out.kept hk1 (by omega)).kept hk2 (by omega)
  have hfin := (heap_set (i := 7) (heap_set (i := 6) (heap_set (i := 5) (heap_set (i := 4) (heap_set (i := 3) (heap_set (i := 2) (heap_set (i := 1) (heap_set (i := 0) hf1 (.int .i64 x.stamp)) (.bool x.gone)) (.int .i64 x.expire)) (.int .i64 x.val.kind)) (.string x.val.text)) (.slice pa x.val.pairs.length pc)) (.slice ta x.val.texts.length tc)) (.slice za x.val.zset.length zc))
  exact copiedO_fin hfin ((Below.setCell (Below.setCell (Below.setCell (Below.setCell (Below.setCell (Below.setCell (Below.setCell (Below.setCell (Below.setCell (Below.setCell (Below.setCell (Below.setCell (Below.setCell Hxw.out (p := ⟨w.heap.size, 3, none⟩) (by first | exact Nat.le_refl _ | exact Nat.le_succ _) (.int .i64 x.val.kind)) (p := ⟨w.heap.size, 4, none⟩) (by first | exact Nat.le_refl _ | exact Nat.le_succ _) (.string x.val.text)) (p := ⟨w.heap.size, 5, none⟩) (by first | exact Nat.le_refl _ | exact Nat.le_succ _) (.slice pa x.val.pairs.length pc)) (p := ⟨w.heap.size, 6, none⟩) (by first | exact Nat.le_refl _ | exact Nat.le_succ _) (.slice ta x.val.texts.length tc)) (p := ⟨w.heap.size, 7, none⟩) (by first | exact Nat.le_refl _ | exact Nat.le_succ _) (.slice za x.val.zset.length zc)) (p := ⟨w.heap.size + 1, 0, none⟩) (by first | exact Nat.le_refl _ | exact Nat.le_succ _) (.int .i64 x.stamp)) (p := ⟨w.heap.size + 1, 1, none⟩) (by first | exact Nat.le_refl _ | exact Nat.le_succ _) (.bool x.gone)) (p := ⟨w.heap.size + 1, 2, none⟩) (by first | exact Nat.le_refl _ | exact Nat.le_succ _) (.int .i64 x.expire)) (p := ⟨w.heap.size + 1, 3, none⟩) (by first | exact Nat.le_refl _ | exact Nat.le_succ _) (.int .i64 x.val.kind)) (p := ⟨w.heap.size + 1, 4, none⟩) (by first | exact Nat.le_refl _ | exact Nat.le_succ _) (.string x.val.text)) (p := ⟨w.heap.size + 1, 5, none⟩) (by first | exact Nat.le_refl _ | exact Nat.le_succ _) (.slice pa x.val.pairs.length pc)) (p := ⟨w.heap.size + 1, 6, none⟩) (by first | exact Nat.le_refl _ | exact Nat.le_succ _) (.slice ta x.val.texts.length tc)) (p := ⟨w.heap.size + 1, 7, none⟩) (by first | exact Nat.le_refl _ | exact Nat.le_succ _) (.slice za x.val.zset.length zc))) ⟨Hok.out.stamp, Hok.out.expire, Hok.out.kind, Hok.out.text, hfar2.parts⟩ hfar2
end Go.Proofs.Ythclkljdnmokcaa
