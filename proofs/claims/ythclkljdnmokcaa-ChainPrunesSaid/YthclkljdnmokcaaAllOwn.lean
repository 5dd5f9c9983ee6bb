/-
  chain.all, walked: any versions.
-/
import Derived.Test.YthclkljdnmokcaaCopiedO
import Derived.Test.YthclkljdnmokcaaAll0
set_option linter.unusedVariables false
set_option linter.unusedSimpArgs false
namespace Go.Proofs.Ythclkljdnmokcaa
open Go.RowKit Go.Proofs

/-- a slice whose block is of a type -/
def TS {α : Type} (r : Rep α) (e : TypeId) (w : World) (v : Value) (l : List α) : Prop :=
  SliceOf r w v l ∧ ∀ b o n c, v = .slice (some ⟨b, o, none⟩) n c → ∃ cs, w.heap[b]? = some (.cells cs e (0, 0))
theorem TS.keep {α : Type} {r : Rep α} (hr : r.Flat) {e e2 : TypeId} (he : e ≠ e2) {w w' : World} {v : Value} {l : List α} (h : TS r e w v l) {row : Option Nat} (hg : w.grownBy w' row) (hrow : ∀ g, row = some g → ∃ cs fr, w.heap[g]? = some (.cells cs e2 fr)) : TS r e w' v l := by
  obtain ⟨⟨a, cap, ev, h1, h2, h0, h3⟩, ht⟩ := h
  have hsame : ∀ b o n c, v = .slice (some ⟨b, o, none⟩) n c → w'.heap[b]? = w.heap[b]? := by
    intro b o n c e1
    obtain ⟨cs, hb⟩ := ht b o n c e1
    refine hg.block b (Array.getElem?_eq_some_iff.1 hb).1 (fun e3 => ?_)
    obtain ⟨cs2, fr2, hb2⟩ := hrow b e3.symm
    rw [hb] at hb2
    injection hb2 with hb2
    injection hb2 with _ h4 _
    exact he h4
  refine ⟨⟨a, cap, ev, h1, h2, h0, fun hl => ?_⟩, fun b o n c e1 => ?_⟩
  · obtain ⟨g, o, ea, hlt, hc⟩ := h3 hl
    refine ⟨g, o, ea, Nat.lt_of_lt_of_le hlt hg.size, fun j x hj => ?_⟩
    obtain ⟨ecs, el, hcs, hre⟩ := hc j x hj
    refine ⟨ecs, el, fun i hi => ?_, hr _ _ _ _ hre⟩
    rw [← hcs i hi]
    exact World.cell?_of_block (hsame g o _ _ (by rw [ev, ea]))
  · obtain ⟨cs, hb⟩ := ht b o n c e1
    exact ⟨cs, by rw [hsame b o n c e1]; exact hb⟩
theorem Own.ts {α : Type} {r : Rep α} {B : Nat} {e : TypeId} {w : World} {v : Value} {l : List α} (h : Own r B e w v l) : TS r e w v l := by
  refine ⟨h.slice, fun b o n c e1 => ?_⟩
  obtain ⟨cells, ⟨_, h2⟩, _⟩ := h
  rcases h2 with ⟨hn, _⟩ | ⟨g, cap, cur, hv, _, hg, _⟩
  · rw [hn] at e1; cases e1
  · rw [hv] at e1
    injection e1 with e2 e3 e4
    injection e2 with e2
    injection e2 with e5 e6 e7
    exact ⟨cur, by rw [← e5]; exact hg⟩
/-- versions whose slices lie apart from versions -/
def PartsT (w : World) (p t z : Value) (x : Val) : Prop := TS rPr 43 w p x.pairs ∧ TS rStr 9 w t x.texts ∧ TS rMb 45 w z x.zset
theorem PartsT.parts {w : World} {p t z : Value} {x : Val} (h : PartsT w p t z x) : Parts w p t z x := ⟨h.1.1, h.2.1.1, h.2.2.1⟩
theorem PartsT.keep {w w' : World} {p t z : Value} {x : Val} (h : PartsT w p t z x) {row : Option Nat} (hg : w.grownBy w' row) (hrow : ∀ g, row = some g → ∃ cs fr, w.heap[g]? = some (.cells cs 32 fr)) : PartsT w' p t z x :=
  ⟨h.1.keep rPr_flat (by decide) hg hrow, h.2.1.keep rStr_flat (by decide) hg hrow, h.2.2.keep rMb_flat (by decide) hg hrow⟩
theorem PartsT.mono {w w' : World} {p t z : Value} {x : Val} (h : PartsT w p t z x) (hx : Ext w w') : PartsT w' p t z x :=
  h.keep (row := none) ⟨hx.os, hx.tape, hx.output, hx.size, fun k hk _ => hx.block k hk⟩ (fun g e => by cases e)
theorem OwnP.partsT {B : Nat} {w : World} {p t z : Value} {x : Val} (h : OwnP B w p t z x) : PartsT w p t z x := ⟨h.p.ts, h.t.ts, h.z.ts⟩
def rVerT : Rep Ver := ⟨8, fun w cs x => ∃ p t z, cs = [.int .i64 x.stamp, .bool x.gone, .int .i64 x.expire, .int .i64 x.val.kind, .string x.val.text, p, t, z] ∧ VerOk w x p t z ∧ PartsT w p t z x.val⟩
theorem rVerT_rel {w : World} {cs : List Value} {x : Ver} (h : rVerT.rel w cs x) : rVer.rel w cs x := by
  obtain ⟨p, t, z, e, hok, _⟩ := h
  exact ⟨p, t, z, e, hok.stamp, hok.expire, hok.kind, hok.text, hok.parts⟩
theorem rVerT_keep {w w' : World} {cs : List Value} {x : Ver} (h : rVerT.rel w cs x) {row : Option Nat} (hg : w.grownBy w' row) (hrow : ∀ g, row = some g → ∃ cs fr, w.heap[g]? = some (.cells cs 32 fr)) : rVerT.rel w' cs x := by
  obtain ⟨p, t, z, e, hok, hp⟩ := h
  have hp2 := hp.keep hg hrow
  exact ⟨p, t, z, e, ⟨hok.stamp, hok.expire, hok.kind, hok.text, hp2.parts⟩, hp2⟩
theorem rVerT_mono : rVerT.Mono := fun w w' cs x hx h => rVerT_keep (row := none) h ⟨hx.os, hx.tape, hx.output, hx.size, fun k hk _ => hx.block k hk⟩ (fun g e => by cases e)
theorem rVerT_one : rVerT.One := fun w cs x h => by
  obtain ⟨p, t, z, rfl, hok, _⟩ := h
  obtain ⟨_, _, rfl, _⟩ := hok.parts.1
  obtain ⟨_, _, rfl, _⟩ := hok.parts.2.1
  obtain ⟨_, _, rfl, _⟩ := hok.parts.2.2
  exact ⟨rfl, by simp [Value.oneCell']⟩
theorem SliceOf.toVer {w : World} {v : Value} {l : List Ver} (h : SliceOf rVerT w v l) : SliceOf rVer w v l := by
  obtain ⟨a, cap, e, h1, h2, h0, h3⟩ := h
  refine ⟨a, cap, e, h1, h2, h0, fun hl => ?_⟩
  obtain ⟨g, o, ea, hlt, hc⟩ := h3 hl
  exact ⟨g, o, ea, hlt, fun j x hj => by obtain ⟨ecs, el, hcs, hre⟩ := hc j x hj; exact ⟨ecs, el, hcs, rVerT_rel hre⟩⟩
theorem one_verT {G : Nat} (w : World) (hg : G = w.heap.size) {x : Ver} {p t z : Value} (hok : VerOk w x p t z) (hp : PartsT w p t z x.val) {ty : TypeId} : SliceOf rVerT (w.alloc (.cells #[.int .i64 x.stamp, .bool x.gone, .int .i64 x.expire, .int .i64 x.val.kind, .string x.val.text, p, t, z] ty)) (.slice (some ⟨G, 0, none⟩) 1 1) [x] := by
  subst hg
  refine sliceOf_heap (heap_alloc_new w _) [x] rfl (Nat.le_refl _) (by decide) fun j y hy => ?_
  obtain ⟨rfl, rfl⟩ : j = 0 ∧ x = y := by cases j <;> simp_all
  refine ⟨[.int .i64 x.stamp, .bool x.gone, .int .i64 x.expire, .int .i64 x.val.kind, .string x.val.text, p, t, z], rfl, fun i hi => ?_, p, t, z, rfl, hok.mono ((Ext.refl w).alloc _), hp.mono ((Ext.refl w).alloc _)⟩
  simp
theorem Own.row {α : Type} {r : Rep α} {B : Nat} {e : TypeId} {w : World} {v : Value} {l : List α} (h : Own r B e w v l) : ∀ g, v.ownBlock = some g → ∃ cs fr, w.heap[g]? = some (.cells cs e fr) := by
  obtain ⟨cells, ⟨_, h2⟩, _⟩ := h
  intro g hg
  rcases h2 with ⟨rfl, _⟩ | ⟨g', cap, cur, rfl, _, hb, _⟩
  · cases hg
  · simp [Value.ownBlock] at hg
    subst hg
    exact ⟨cur, _, hb⟩
set_option maxRecDepth 100000 in
set_option maxHeartbeats 4000000 in
theorem all_any (v : Value) (l : List Ver) (w : World) (hv : SliceOf rVer w v l) (hl : l.length ≤ 1000) (hsm : SmallL l) :
    Calls Try.prog 57 #[v] w (fun e w' => ∃ v', e = .returned v' ∧ Own rVerT w.heap.size 32 w' v' l ∧ Ext w w') := by
  obtain ⟨a, cap, rfl, hle, hm, h0, _⟩ := id hv
  unfold maxLen at hm
  have Hsm := Lib.hid hsm
  go_enter Try.func57, Try.ntmps57
  go_wp2_with fail
  go_loopw [3, 5, 8] (fun ov _ i wr => ∃ k : Nat, i = .int .i64 (k : Int) ∧ k ≤ l.length ∧ Own rVerT w.heap.size 32 wr ov (l.take k) ∧ Ext w wr) (fun _ _ i _ => l.length - (intOf i).toNat)
  case atStart => exact ⟨0, rfl, by omega, Own.nil _ _ _ _, Ext.refl _⟩
  case round =>
    obtain ⟨k, rfl, hk, hown, hx0⟩ := hrel
    have Hx0 := Lib.hid hx0
    have hv0 := hv.mono rVer_mono hx0
    clear hx0
    by_cases hlt : k < l.length
    · obtain ⟨x, hx⟩ : ∃ x, l[k]? = some x := ⟨_, List.getElem?_eq_getElem hlt⟩
      obtain ⟨g, o, p, t, z, rfl, hat, hok⟩ := hv0.atVer hx
      obtain ⟨c0, c1, c2, c3, c4, c5, c6, c7⟩ := hat
      have htk : l.take (k + 1) = l.take k ++ [x] := by rw [List.take_add_one, hx]; rfl
      have Htk := Lib.hid htk
      have Hok := Lib.hid hok
      have hsx := Hsm.out k x hx
      obtain ⟨pa, pc, rfl, _⟩ := id hok.parts.1
      obtain ⟨ta, tc, rfl, _⟩ := id hok.parts.2.1
      obtain ⟨za, zc, rfl, _⟩ := id hok.parts.2.2
      have hlk : (l.take k).length = k := by rw [List.length_take]; omega
      have hA : (l.take k).length + [x].length ≤ maxLen := by rw [hlk]; unfold maxLen; simp; omega
      have hB : ((l.take k).length + [x].length) * 120 ≤ 140737488355328 := by rw [hlk]; simp; omega
      have HA := Lib.hid hA
      have HB := Lib.hid hB
      have Hown := Lib.hid hown
      clear htk hok hx hlk hA hB hown
      go_wp2_with fail
      refine (copied_own x _ _ _ wr _ ((Ext.refl _).alloc _) Hok.out hsx.1 hsx.2.1 hsx.2.2).mono ?_
      rintro e w1 ⟨p', t', z', rfl, hok1, hop, hx1⟩
      have hx11 := ((Ext.refl wr).alloc _).then hx1
      have hxw := Hx0.out.then hx11
      have hown1 := Hown.out.mono rVerT_mono hx11
      obtain ⟨pa', pc', rfl, _⟩ := id hok1.parts.1
      obtain ⟨ta', tc', rfl, _⟩ := id hok1.parts.2.1
      obtain ⟨za', zc', rfl, _⟩ := id hok1.parts.2.2
      have Hok1 := Lib.hid hok1
      have Hop := Lib.hid hop.partsT
      have hbase : w.heap.size ≤ w1.heap.size := hxw.size
      clear hok1 hx1 hx11 c0 c1 c2 c3 c4 c5 c6 c7 hop
      unfold verV
      go_wp2_with (at_builtin; (refine append_law rfl (.tmp 12) (.tmp 15) rfl el_V rVerT_one _ _ rfl (hown1.mono rVerT_mono ((Ext.refl _).alloc _)) _ [x] rfl (one_verT _ rfl Hok1.out Hop.out) (fun w' hg cs y _ hr => rVerT_keep hr hg (Own.row (hown1.mono rVerT_mono ((Ext.refl _).alloc _)))) HA.out HB.out (by simp; omega) ?_); intro v1 w2 hown2 hg2)
      have hx2 : Ext w w2 := (hxw.alloc _).grown hg2 (hxw.alloc _).size (fun q hq => hown1.lt q hq)
      exact ⟨⟨k + 1, by go_num, by omega, by rw [Htk.out]; exact hown2, hx2⟩, by simp [intOf]; omega⟩
    · obtain rfl : k = l.length := by omega
      rw [List.take_length] at hown
      have Hown := Lib.hid hown
      clear hown
      go_wp2_with fail
      go_ret
      exact ⟨_, rfl, Hown.out, Hx0.out⟩
end Go.Proofs.Ythclkljdnmokcaa
