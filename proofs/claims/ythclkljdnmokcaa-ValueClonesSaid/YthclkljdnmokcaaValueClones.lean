/-
  The law ValueClones, walked.
-/
import Derived.Test.YthclkljdnmokcaaVOwn
import Derived.Test.YthclkljdnmokcaaVSame
import Derived.Test.YthclkljdnmokcaaAwake14
import Derived.Test.YthclkljdnmokcaaSmall15
set_option linter.unusedVariables false
set_option linter.unusedSimpArgs false
namespace Go.Proofs.Ythclkljdnmokcaa
open Go.RowKit Go.Proofs

theorem rows_apart {w : World} {b1 b2 : Nat} {e1 e2 : TypeId} {s1 s2 : Nat} {v1 v2 : Value} {n1 n2 : Nat} {c1 c2 : List Value} (h1 : w.ownsRow b1 e1 s1 v1 n1 c1) (h2 : w.ownsRow b2 e2 s2 v2 n2 c2) (he : e1 ≠ e2) : ∀ b, v1.ownBlock = some b → v2.ownBlock ≠ some b := by
  intro b hb hb2
  rcases h1.2 with ⟨e, _⟩ | ⟨g, cap, cur, e, _, hg, _⟩
  · rw [e] at hb; cases hb
  · rcases h2.2 with ⟨e', _⟩ | ⟨g', cap', cur', e', _, hg', _⟩
    · rw [e'] at hb2; cases hb2
    · rw [e] at hb; rw [e'] at hb2
      cases hb; cases hb2
      rw [hg] at hg'
      injection hg' with h; injection h with h3 h4
      exact he h4
/-- while a clone is overwritten -/
structure CSt (w W1 : World) (B1 B2 : Nat) (x : Val) (cp ct cz dp dt dz : Value) (wr : World) : Prop where
  op : ∃ cells, wr.ownsRow B1 43 2 cp x.pairs.length cells
  ot : ∃ cells, wr.ownsRow B1 9 1 ct x.texts.length cells
  oz : ∃ cells, wr.ownsRow B1 45 2 cz x.zset.length cells
  dp : Own rPr B2 43 wr dp x.pairs
  dt : Own rStr B2 9 wr dt x.texts
  dz : Own rMb B2 45 wr dz x.zset
  box : ∀ b cs ty, (b < B1 ∨ B2 ≤ b) → W1.heap[b]? = some (.cells cs ty (0, 0)) → wr.heap[b]? = some (.cells cs ty (0, 0))
  ext : Ext w wr
theorem CSt.stored {w W1 : World} {B1 B2 : Nat} {x : Val} {cp ct cz dp dt dz : Value} {wr : World} (h : CSt w W1 B1 B2 x cp ct cz dp dt dz wr) (hw : w.heap.size ≤ B1) {g : Nat} (hg1 : B1 ≤ g) (hg2 : g < B2) (j : Nat) (u : Value)
    (op : ∃ cells, (wr.setCell ⟨g, j, none⟩ u).ownsRow B1 43 2 cp x.pairs.length cells) (ot : ∃ cells, (wr.setCell ⟨g, j, none⟩ u).ownsRow B1 9 1 ct x.texts.length cells) (oz : ∃ cells, (wr.setCell ⟨g, j, none⟩ u).ownsRow B1 45 2 cz x.zset.length cells) : CSt w W1 B1 B2 x cp ct cz dp dt dz (wr.setCell ⟨g, j, none⟩ u) :=
  ⟨op, ot, oz, h.dp.grow rPr_flat (grown_set _ _ _ _) hg2, h.dt.grow rStr_flat (grown_set _ _ _ _) hg2, h.dz.grow rMb_flat (grown_set _ _ _ _) hg2,
    fun b cs ty hb hc => by rw [Below.heap_setCell _ _ _ _ (show b ≠ g by omega)]; exact h.box b cs ty hb hc, Below.setCell h.ext (p := ⟨g, j, none⟩) (Nat.le_trans hw hg1) _⟩
theorem CSt.storeP {w W1 : World} {B1 B2 : Nat} {x : Val} {ct cz dp dt dz : Value} {wr : World} {g cap : Nat} (h : CSt w W1 B1 B2 x (.slice (some ⟨g, 0, none⟩) x.pairs.length cap) ct cz dp dt dz wr) (hw : w.heap.size ≤ B1) (hg2 : g < B2) (j : Nat) (u : Value) : CSt w W1 B1 B2 x (.slice (some ⟨g, 0, none⟩) x.pairs.length cap) ct cz dp dt dz (wr.setCell ⟨g, j, none⟩ u) := by
  obtain ⟨c1, h1⟩ := h.op
  obtain ⟨c2, h2⟩ := h.ot
  obtain ⟨c3, h3⟩ := h.oz
  exact h.stored hw (World.ownsRow.lt h1 g rfl).1 hg2 j u ⟨_, (World.ownsRow.stored h1 j u).1⟩ ⟨_, h2.kept (grown_set g j u wr) (.inr fun e => rows_apart h1 h2 (by decide) g rfl e)⟩ ⟨_, h3.kept (grown_set g j u wr) (.inr fun e => rows_apart h1 h3 (by decide) g rfl e)⟩
theorem CSt.storeT {w W1 : World} {B1 B2 : Nat} {x : Val} {cp cz dp dt dz : Value} {wr : World} {g cap : Nat} (h : CSt w W1 B1 B2 x cp (.slice (some ⟨g, 0, none⟩) x.texts.length cap) cz dp dt dz wr) (hw : w.heap.size ≤ B1) (hg2 : g < B2) (j : Nat) (u : Value) : CSt w W1 B1 B2 x cp (.slice (some ⟨g, 0, none⟩) x.texts.length cap) cz dp dt dz (wr.setCell ⟨g, j, none⟩ u) := by
  obtain ⟨c1, h1⟩ := h.op
  obtain ⟨c2, h2⟩ := h.ot
  obtain ⟨c3, h3⟩ := h.oz
  exact h.stored hw (World.ownsRow.lt h2 g rfl).1 hg2 j u ⟨_, h1.kept (grown_set g j u wr) (.inr fun e => rows_apart h2 h1 (by decide) g rfl e)⟩ ⟨_, (World.ownsRow.stored h2 j u).1⟩ ⟨_, h3.kept (grown_set g j u wr) (.inr fun e => rows_apart h2 h3 (by decide) g rfl e)⟩
theorem CSt.storeZ {w W1 : World} {B1 B2 : Nat} {x : Val} {cp ct dp dt dz : Value} {wr : World} {g cap : Nat} (h : CSt w W1 B1 B2 x cp ct (.slice (some ⟨g, 0, none⟩) x.zset.length cap) dp dt dz wr) (hw : w.heap.size ≤ B1) (hg2 : g < B2) (j : Nat) (u : Value) : CSt w W1 B1 B2 x cp ct (.slice (some ⟨g, 0, none⟩) x.zset.length cap) dp dt dz (wr.setCell ⟨g, j, none⟩ u) := by
  obtain ⟨c1, h1⟩ := h.op
  obtain ⟨c2, h2⟩ := h.ot
  obtain ⟨c3, h3⟩ := h.oz
  exact h.stored hw (World.ownsRow.lt h3 g rfl).1 hg2 j u ⟨_, h1.kept (grown_set g j u wr) (.inr fun e => rows_apart h3 h1 (by decide) g rfl e)⟩ ⟨_, h2.kept (grown_set g j u wr) (.inr fun e => rows_apart h3 h2 (by decide) g rfl e)⟩ ⟨_, (World.ownsRow.stored h3 j u).1⟩
/-- where a row of the call's own lies -/
theorem row_form {w : World} {base n : Nat} {e : TypeId} {s : Nat} {v : Value} {cells : List Value} (h : w.ownsRow base e s v n cells) : ∃ a cap, v = .slice a n cap ∧ n ≤ cap ∧ cap ≤ 9223372036854775807 := by
  rcases h.2 with ⟨h1, h2⟩ | ⟨g, cap, cur, h1, _, _, h2, h3, _⟩
  · exact ⟨none, 0, by rw [h1, h2], by omega, by omega⟩
  · unfold maxLen at h3; exact ⟨_, cap, h1, h2, by omega⟩
theorem row_at {w : World} {base n : Nat} {e : TypeId} {s cap : Nat} {a : Option Addr} {cells : List Value} (h : w.ownsRow base e s (.slice a n cap) n cells) {j : Nat} (hj : j < n * s) : ∃ g u, a = some ⟨g, 0, none⟩ ∧ w.cell? ⟨g, j, none⟩ = some u ∧ w.frozen? ⟨g, j, none⟩ = false := by
  rcases h.2 with ⟨h1, h2⟩ | ⟨g, cap', cur, h1, _⟩
  · rw [h2, Nat.zero_mul] at hj; omega
  · injection h1 with h3
    subst h3
    have hc := World.ownsRow.cellAt h j hj
    rw [List.getElem?_eq_getElem (by rw [h.1]; exact hj)] at hc
    exact ⟨g, _, rfl, hc, World.ownsRow.frozenAt h j⟩
set_option maxRecDepth 100000 in
set_option maxHeartbeats 4000000 in
theorem valueClones_walk (w : World) (x : Val) (p t z : Value) (hx : Parts w p t z x) (hk : (Lit.int .i64 x.kind).wf = true) (hts : x.text.size ≤ maxLen) :
    Calls Try.prog 5 #[.agg #[.int .i64 x.kind, .string x.text, p, t, z]] w fun e w' => e = .returned (.bool true) ∧ Ext w w' := by
  obtain ⟨pa, pc, rfl, hp1, hp2⟩ := len_of hx.1
  obtain ⟨ta, tc, rfl, ht1, ht2⟩ := len_of hx.2.1
  obtain ⟨za, zc, rfl, hz1, hz2⟩ := len_of hx.2.2
  have Hx := Lib.hid hx
  have HA := Lib.hid (heap_alloc_new w (.cells #[.int .i64 x.kind, .string x.text, .slice pa x.pairs.length pc, .slice ta x.texts.length tc, .slice za x.zset.length zc] 30))
  clear hx
  go_enter Try.func5, Try.ntmps5
  go_wp2_with fail
  refine (awake14 _).mono ?_
  rintro e w1 ⟨rfl, hx1⟩
  have hxw1 := ((Ext.refl w).alloc (.cells #[.int .i64 x.kind, .string x.text, .slice pa x.pairs.length pc, .slice ta x.texts.length tc, .slice za x.zset.length zc] 30)).then hx1
  have hs1 := hx1.size
  have hb1 := (hx1.block w.heap.size (by simp)).trans HA.out
  have Hb1 := Lib.hid hb1
  obtain ⟨c0, _⟩ := cells_at (i := 0) (v := .int .i64 x.kind) hb1 rfl
  obtain ⟨c1, _⟩ := cells_at (i := 1) (v := .string x.text) hb1 rfl
  obtain ⟨c2, _⟩ := cells_at (i := 2) (v := .slice pa x.pairs.length pc) hb1 rfl
  obtain ⟨c3, _⟩ := cells_at (i := 3) (v := .slice ta x.texts.length tc) hb1 rfl
  obtain ⟨c4, _⟩ := cells_at (i := 4) (v := .slice za x.zset.length zc) hb1 rfl
  clear hb1 hx1
  go_wp2_with fail
  refine (small14_any x _ _ _ _ (Hx.out.mono hxw1) hts).mono ?_
  rintro e w2 ⟨b, rfl, hb, hx2⟩
  have hxw2 := hxw1.then hx2
  cases b with
  | false =>
    clear hb c0 c1 c2 c3 c4
    go_wp2_with fail
    refine (awake14 _).mono ?_
    rintro e w3 ⟨rfl, hx3⟩
    go_wp2
    go_ret
    exact ⟨rfl, hxw2.then hx3⟩
  | true =>
    obtain ⟨hn1, hn2, hn3⟩ := hb rfl
    have hlt1 : w.heap.size < w1.heap.size := by simp at hs1; omega
    have hs2 := hx2.size
    have hb2 := (hx2.block w.heap.size hlt1).trans Hb1.out
    have Hb2 := Lib.hid hb2
    clear hb c0 c1 c2 c3 c4 hs1
    obtain ⟨c0, _⟩ := cells_at (i := 0) (v := .int .i64 x.kind) hb2 rfl
    obtain ⟨c1, _⟩ := cells_at (i := 1) (v := .string x.text) hb2 rfl
    obtain ⟨c2, _⟩ := cells_at (i := 2) (v := .slice pa x.pairs.length pc) hb2 rfl
    obtain ⟨c3, _⟩ := cells_at (i := 3) (v := .slice ta x.texts.length tc) hb2 rfl
    obtain ⟨c4, _⟩ := cells_at (i := 4) (v := .slice za x.zset.length zc) hb2 rfl
    clear hb2
    go_wp2_with fail
    refine (vclone_own x _ _ _ w w2 hxw2 hk hts Hx.out (by omega) (by omega) (by omega)).mono ?_
    rintro e w3 ⟨cp, ct, cz, rfl, hop, hot, hoz, hx3⟩
    obtain ⟨pa1, pc1, rfl, hq1, hq2⟩ := len_of hop.slice
    obtain ⟨ta1, tc1, rfl, hq3, hq4⟩ := len_of hot.slice
    obtain ⟨za1, zc1, rfl, hq5, hq6⟩ := len_of hoz.slice
    have hxw3 := hxw2.then hx3
    have hs3 := hx3.size
    have HC := Lib.hid (heap_alloc_new w3 (.cells #[.int .i64 x.kind, .string x.text, .slice pa1 x.pairs.length pc1, .slice ta1 x.texts.length tc1, .slice za1 x.zset.length zc1] 30))
    have hb3 := (((Ext.refl w3).alloc (.cells #[.int .i64 x.kind, .string x.text, .slice pa1 x.pairs.length pc1, .slice ta1 x.texts.length tc1, .slice za1 x.zset.length zc1] 30)).block w.heap.size (by omega)).trans ((hx3.block w.heap.size (by omega)).trans Hb2.out)
    have Hb3 := Lib.hid hb3
    have Hop := Lib.hid hop
    have Hot := Lib.hid hot
    have Hoz := Lib.hid hoz
    clear c0 c1 c2 c3 c4 hop hot hoz
    obtain ⟨c0, _⟩ := cells_at (i := 0) (v := .int .i64 x.kind) hb3 rfl
    obtain ⟨c1, _⟩ := cells_at (i := 1) (v := .string x.text) hb3 rfl
    obtain ⟨c2, _⟩ := cells_at (i := 2) (v := .slice pa x.pairs.length pc) hb3 rfl
    obtain ⟨c3, _⟩ := cells_at (i := 3) (v := .slice ta x.texts.length tc) hb3 rfl
    obtain ⟨c4, _⟩ := cells_at (i := 4) (v := .slice za x.zset.length zc) hb3 rfl
    clear hb3
    go_wp2_with fail
    refine (vclone_own x _ _ _ w _ (hxw3.alloc _) hk hts Hx.out (by omega) (by omega) (by omega)).mono ?_
    rintro e w4 ⟨dp, dt, dz, rfl, hdp, hdt, hdz, hx4⟩
    obtain ⟨pa2, pc2, rfl, hr1, hr2⟩ := len_of hdp.slice
    obtain ⟨ta2, tc2, rfl, hr3, hr4⟩ := len_of hdt.slice
    obtain ⟨za2, zc2, rfl, hr5, hr6⟩ := len_of hdz.slice
    have hs4 := hx4.size
    have e3 : (w3.alloc (.cells #[.int .i64 x.kind, .string x.text, .slice pa1 x.pairs.length pc1, .slice ta1 x.texts.length tc1, .slice za1 x.zset.length zc1] 30)).heap.size = w3.heap.size + 1 := by simp
    rw [e3] at hdp hdt hdz hs4
    have hx34 := ((Ext.refl w3).alloc (.cells #[.int .i64 x.kind, .string x.text, .slice pa1 x.pairs.length pc1, .slice ta1 x.texts.length tc1, .slice za1 x.zset.length zc1] 30)).then hx4
    have hx4D := (Ext.refl w4).alloc (.cells #[.int .i64 x.kind, .string x.text, .slice pa2 x.pairs.length pc2, .slice ta2 x.texts.length tc2, .slice za2 x.zset.length zc2] 30)
    have hx3D := hx34.then hx4D
    have hgd := heap_alloc_new w4 (.cells #[.int .i64 x.kind, .string x.text, .slice pa2 x.pairs.length pc2, .slice ta2 x.texts.length tc2, .slice za2 x.zset.length zc2] 30)
    have hgc : (w4.alloc (.cells #[.int .i64 x.kind, .string x.text, .slice pa2 x.pairs.length pc2, .slice ta2 x.texts.length tc2, .slice za2 x.zset.length zc2] 30)).heap[w3.heap.size]? = some (.cells #[.int .i64 x.kind, .string x.text, .slice pa1 x.pairs.length pc1, .slice ta1 x.texts.length tc1, .slice za1 x.zset.length zc1] 30 (0, 0)) := (hx4D.block w3.heap.size (by omega)).trans ((hx4.block w3.heap.size (by omega)).trans HC.out)
    have hg0 : (w4.alloc (.cells #[.int .i64 x.kind, .string x.text, .slice pa2 x.pairs.length pc2, .slice ta2 x.texts.length tc2, .slice za2 x.zset.length zc2] 30)).heap[w.heap.size]? = some (.cells #[.int .i64 x.kind, .string x.text, .slice pa x.pairs.length pc, .slice ta x.texts.length tc, .slice za x.zset.length zc] 30 (0, 0)) := (hx4D.block w.heap.size (by omega)).trans ((hx4.block w.heap.size (by omega)).trans Hb3.out)
    have hcst : CSt w (w4.alloc (.cells #[.int .i64 x.kind, .string x.text, .slice pa2 x.pairs.length pc2, .slice ta2 x.texts.length tc2, .slice za2 x.zset.length zc2] 30)) (w2.heap.size + 2) w3.heap.size x (.slice pa1 x.pairs.length pc1) (.slice ta1 x.texts.length tc1) (.slice za1 x.zset.length zc1) (.slice pa2 x.pairs.length pc2) (.slice ta2 x.texts.length tc2) (.slice za2 x.zset.length zc2) (w4.alloc (.cells #[.int .i64 x.kind, .string x.text, .slice pa2 x.pairs.length pc2, .slice ta2 x.texts.length tc2, .slice za2 x.zset.length zc2] 30)) := by
      refine ⟨?_, ?_, ?_, ?_, ?_, ?_, fun _ _ _ _ h => h, hxw3.then hx3D⟩
      · obtain ⟨c, h, _⟩ := Hop.out.mono rPr_mono hx3D; exact ⟨c, h⟩
      · obtain ⟨c, h, _⟩ := Hot.out.mono rStr_mono hx3D; exact ⟨c, h⟩
      · obtain ⟨c, h, _⟩ := Hoz.out.mono rMb_mono hx3D; exact ⟨c, h⟩
      · exact (hdp.base (by omega)).mono rPr_mono hx4D
      · exact (hdt.base (by omega)).mono rStr_mono hx4D
      · exact (hdz.base (by omega)).mono rMb_mono hx4D
    have hw2 : w.heap.size ≤ w2.heap.size + 2 := by omega
    have hw3 : w3.heap.size ≤ w4.heap.size := by omega
    have hg0B : w.heap.size < w2.heap.size + 2 := by omega
    have hlp := Lib.hid (fun b e => Hop.out.lt2 b e)
    have hlt' := Lib.hid (fun b e => Hot.out.lt2 b e)
    have hlz := Lib.hid (fun b e => Hoz.out.lt2 b e)
    clear c0 c1 c2 c3 c4 hx2 hx3 hdp hdt hdz hx4 hx34 hx4D hx3D HA HC hxw1 hxw2 hxw3
    go_wp2_with fail
    generalize w4.alloc (.cells #[.int .i64 x.kind, .string x.text, .slice pa2 x.pairs.length pc2, .slice ta2 x.texts.length tc2, .slice za2 x.zset.length zc2] 30) = W at hcst hgd hgc hg0 ⊢
    have Hgd := Lib.hid hgd
    have Hgc := Lib.hid hgc
    have Hg0 := Lib.hid hg0
    clear hgd hgc hg0
    go_loopw [5] (fun i wr => ∃ k : Nat, i = .int .i64 (k : Int) ∧ k ≤ x.pairs.length ∧ CSt w W (w2.heap.size + 2) w3.heap.size x (.slice pa1 x.pairs.length pc1) (.slice ta1 x.texts.length tc1) (.slice za1 x.zset.length zc1) (.slice pa2 x.pairs.length pc2) (.slice ta2 x.texts.length tc2) (.slice za2 x.zset.length zc2) wr) (fun i _ => x.pairs.length - (intOf i).toNat)
    case atStart => exact ⟨0, rfl, by omega, hcst⟩
    case round =>
      obtain ⟨k, rfl, hkk, hcs⟩ := hrel
      have hbc := hcs.box w3.heap.size _ _ (.inr (Nat.le_refl _)) Hgc.out
      obtain ⟨f2, _⟩ := cells_at (i := 2) (v := .slice pa1 x.pairs.length pc1) hbc rfl
      have Hcs := Lib.hid hcs
      clear hbc
      by_cases hlk : k < x.pairs.length
      · obtain ⟨cells, hrow⟩ := hcs.op
        obtain ⟨g, u, rfl, q1, q2⟩ := row_at hrow (j := k * 2 + 1) (by omega)
        have hgB : g < w3.heap.size := hlp.out g rfl
        have Hcs2 := Lib.hid (Hcs.out.storeP hw2 hgB (k * 2 + 1) (.string ⟨#[116, 117, 114, 110, 101, 100]⟩))
        clear hcs hrow
        go_wp2_with fail
        exact ⟨⟨k + 1, by go_num, by omega, Hcs2.out⟩, by simp [intOf]; omega⟩
      · obtain rfl : k = x.pairs.length := by omega
        clear hcs
        go_wp2_with fail
        go_loopw [6] (fun i wr => ∃ k : Nat, i = .int .i64 (k : Int) ∧ k ≤ x.texts.length ∧ CSt w W (w2.heap.size + 2) w3.heap.size x (.slice pa1 x.pairs.length pc1) (.slice ta1 x.texts.length tc1) (.slice za1 x.zset.length zc1) (.slice pa2 x.pairs.length pc2) (.slice ta2 x.texts.length tc2) (.slice za2 x.zset.length zc2) wr) (fun i _ => x.texts.length - (intOf i).toNat)
        case atStart => exact ⟨0, rfl, by omega, Hcs.out⟩
        case round =>
          obtain ⟨k, rfl, hkk, hcs⟩ := hrel
          have hbc := hcs.box w3.heap.size _ _ (.inr (Nat.le_refl _)) Hgc.out
          obtain ⟨f3, _⟩ := cells_at (i := 3) (v := .slice ta1 x.texts.length tc1) hbc rfl
          have Hcs := Lib.hid hcs
          clear hbc
          by_cases hlk : k < x.texts.length
          · obtain ⟨cells, hrow⟩ := hcs.ot
            obtain ⟨g, u, rfl, q1, q2⟩ := row_at hrow (j := k) (by omega)
            have hgB : g < w3.heap.size := hlt'.out g rfl
            have Hcs2 := Lib.hid (Hcs.out.storeT hw2 hgB (k) (.string ⟨#[116, 117, 114, 110, 101, 100]⟩))
            clear hcs hrow
            go_wp2_with fail
            exact ⟨⟨k + 1, by go_num, by omega, Hcs2.out⟩, by simp [intOf]; omega⟩
          · obtain rfl : k = x.texts.length := by omega
            clear hcs
            go_wp2_with fail
            go_loopw [7] (fun i wr => ∃ k : Nat, i = .int .i64 (k : Int) ∧ k ≤ x.zset.length ∧ CSt w W (w2.heap.size + 2) w3.heap.size x (.slice pa1 x.pairs.length pc1) (.slice ta1 x.texts.length tc1) (.slice za1 x.zset.length zc1) (.slice pa2 x.pairs.length pc2) (.slice ta2 x.texts.length tc2) (.slice za2 x.zset.length zc2) wr) (fun i _ => x.zset.length - (intOf i).toNat)
            case atStart => exact ⟨0, rfl, by omega, Hcs.out⟩
            case round =>
              obtain ⟨k, rfl, hkk, hcs⟩ := hrel
              have hbc := hcs.box w3.heap.size _ _ (.inr (Nat.le_refl _)) Hgc.out
              obtain ⟨f4, _⟩ := cells_at (i := 4) (v := .slice za1 x.zset.length zc1) hbc rfl
              have Hcs := Lib.hid hcs
              clear hbc
              by_cases hlk : k < x.zset.length
              · obtain ⟨cells, hrow⟩ := hcs.oz
                obtain ⟨g, u, rfl, q1, q2⟩ := row_at hrow (j := k * 2 + 1) (by omega)
                have hgB : g < w3.heap.size := hlz.out g rfl
                have Hcs2 := Lib.hid (Hcs.out.storeZ hw2 hgB (k * 2 + 1) (.string ⟨#[116, 117, 114, 110, 101, 100]⟩))
                clear hcs hrow
                go_wp2_with fail
                exact ⟨⟨k + 1, by go_num, by omega, Hcs2.out⟩, by simp [intOf]; omega⟩
              · obtain rfl : k = x.zset.length := by omega
                clear hcs
                have hbd := Hcs.out.box w4.heap.size _ _ (.inr hw3) Hgd.out
                have hb0 := Hcs.out.box w.heap.size _ _ (.inl hg0B) Hg0.out
                obtain ⟨d0, _⟩ := cells_at (i := 0) (v := .int .i64 x.kind) hbd rfl
                obtain ⟨d1, _⟩ := cells_at (i := 1) (v := .string x.text) hbd rfl
                obtain ⟨d2, _⟩ := cells_at (i := 2) (v := .slice pa2 x.pairs.length pc2) hbd rfl
                obtain ⟨d3, _⟩ := cells_at (i := 3) (v := .slice ta2 x.texts.length tc2) hbd rfl
                obtain ⟨d4, _⟩ := cells_at (i := 4) (v := .slice za2 x.zset.length zc2) hbd rfl
                obtain ⟨c0, _⟩ := cells_at (i := 0) (v := .int .i64 x.kind) hb0 rfl
                obtain ⟨c1, _⟩ := cells_at (i := 1) (v := .string x.text) hb0 rfl
                obtain ⟨c2, _⟩ := cells_at (i := 2) (v := .slice pa x.pairs.length pc) hb0 rfl
                obtain ⟨c3, _⟩ := cells_at (i := 3) (v := .slice ta x.texts.length tc) hb0 rfl
                obtain ⟨c4, _⟩ := cells_at (i := 4) (v := .slice za x.zset.length zc) hb0 rfl
                clear hbd hb0
                go_wp2_with fail
                refine (same14 x x _ _ _ _ _ _ _ ⟨Hcs.out.dp.slice, Hcs.out.dt.slice, Hcs.out.dz.slice⟩ (Hx.out.mono Hcs.out.ext)).mono ?_
                rintro e w8 ⟨rfl, hx8⟩
                rw [decide_eq_true (rfl : x = x)]
                have D0 := hx8.cell d0
                have D1 := hx8.cell d1
                have D2 := hx8.cell d2
                have D3 := hx8.cell d3
                have D4 := hx8.cell d4
                have C0 := hx8.cell c0
                have C1 := hx8.cell c1
                have C2 := hx8.cell c2
                have C3 := hx8.cell c3
                have C4 := hx8.cell c4
                clear d0 d1 d2 d3 d4 c0 c1 c2 c3 c4
                go_wp2_with fail
                refine (vsame_any x x _ _ _ _ _ _ _ ⟨Hcs.out.dp.slice.mono rPr_mono hx8, Hcs.out.dt.slice.mono rStr_mono hx8, Hcs.out.dz.slice.mono rMb_mono hx8⟩ (Hx.out.mono (Hcs.out.ext.then hx8))).mono ?_
                rintro e w9 ⟨rfl, hx9⟩
                rw [decide_eq_true (rfl : x = x)]
                clear D0 D1 D2 D3 D4 C0 C1 C2 C3 C4
                go_wp2
                go_ret
                exact ⟨rfl, (Hcs.out.ext.then hx8).then hx9⟩
theorem valueClones_all (w : World) (cs : Array Value) (y : Val) (hcs : cs.size = 5) (hy : rVal.rel w cs.toList y) :
    Calls Try.prog 5 #[.agg cs] w fun e w' => e = .returned (.bool true) ∧ Ext w w' := by
  obtain ⟨p, t, z, e, h1, h2, h3⟩ := hy
  obtain rfl : cs = #[.int .i64 y.kind, .string y.text, p, t, z] := Array.toList_inj.1 e
  exact valueClones_walk w y p t z h3 h1 h2
end Go.Proofs.Ythclkljdnmokcaa
