/-
  The law ChainAll, walked.
-/
import Derived.Test.YthclkljdnmokcaaAll0
import Derived.Test.YthclkljdnmokcaaRises
import Derived.Test.YthclkljdnmokcaaSmall15
set_option linter.unusedVariables false
set_option linter.unusedSimpArgs false
namespace Go.Proofs.Ythclkljdnmokcaa
open Go.RowKit Go.Proofs

theorem at_self {l : List Ver} (hr : Rising l) {k : Nat} {x : Ver} (hx : l[k]? = some x) {n : Int} (h1 : x.stamp ≤ n) (h2 : ∀ (j : Nat) (y : Ver), l[j]? = some y → k < j → n < y.stamp) {b : Bool} {y : Ver} (h : AtRes l n b y) : b = true ∧ y = x := by
  rcases h with ⟨_, h⟩ | ⟨hb, m, hm, hup⟩
  · have := h k x hx; omega
  · refine ⟨hb, ?_⟩
    have e : m = k := by
      rcases Nat.lt_trichotomy m k with h | h | h
      · have := hup.2.2 k x hx (by omega); omega
      · exact h
      · have h3 := hup.2.1 m y hm (by omega)
        have := h2 m y hm h
        omega
    rw [e, hx] at hm
    cases hm
    rfl
set_option maxRecDepth 100000 in
set_option maxHeartbeats 4000000 in
theorem chainAll_walk (w : World) (v : Value) (l : List Ver) (hv : SliceOf rVer w v l) (gap : Int) (wg : (Lit.int .i64 gap).wf = true) :
    Calls Try.prog 3 #[v, .int .i64 gap] w fun e w' => e = .returned (.bool true) ∧ Ext w w' := by
  obtain ⟨a, cap, rfl, hle, hm, h0, _⟩ := id hv
  unfold maxLen at hm
  go_enter Try.func3, Try.ntmps3
  go_wp2_with fail
  refine (awake15 _).mono ?_
  rintro e w1 ⟨rfl, hx1⟩
  go_wp2_with fail
  refine (small15_any _ l _ (hv.mono rVer_mono hx1) 64 (by omega)).mono ?_
  rintro e w2 ⟨b, rfl, hb, hx2⟩
  have hx12 := hx1.then hx2
  cases b with
  | false =>
    clear hb
    go_wp2_with fail
    refine (awake15 _).mono ?_
    rintro e w3 ⟨rfl, hx3⟩
    go_wp2
    go_ret
    exact ⟨rfl, hx12.then hx3⟩
  | true =>
    obtain ⟨hl, hsm⟩ := hb rfl
    have Hsm : Hid (SmallL l) := Lib.hid (fun k x hx => by obtain ⟨h1, h2, h3⟩ := hsm k x hx; omega)
    clear hb hsm
    go_wp2_with fail
    refine (rises_any _ l _ (hv.mono rVer_mono hx12)).mono ?_
    rintro e w3 ⟨rfl, hx3⟩
    have hx13 := hx12.then hx3
    clear hx1 hx2 hx12 hx3
    cases hri : risesB l with
    | false =>
      clear hri
      go_wp2_with fail
      refine (awake15 _).mono ?_
      rintro e w4 ⟨rfl, hx4⟩
      go_wp2
      go_ret
      exact ⟨rfl, hx13.then hx4⟩
    | true =>
      have Hone := Lib.hid (risesB_one hri)
      have Hr := Lib.hid (risesB_rising hri)
      clear hri
      go_wp2_with fail
      go_loopw [5, 6, 7, 8, 9, 10] (fun i _ _ _ _ _ wr => ∃ k : Nat, i = .int .i64 (k : Int) ∧ k ≤ l.length ∧ Ext w wr) (fun i _ _ _ _ _ _ => l.length - (intOf i).toNat)
      case atStart => exact ⟨0, rfl, by omega, hx13⟩
      case round =>
        obtain ⟨k, rfl, hk, hx⟩ := hrel
        have hvr := hv.mono rVer_mono hx
        have Hx := Lib.hid hx
        clear hx
        by_cases hlt : k < l.length
        · obtain ⟨x, hxk⟩ : ∃ x, l[k]? = some x := ⟨_, List.getElem?_eq_getElem hlt⟩
          obtain ⟨g, o, p, t, z, rfl, hat, hok⟩ := hvr.atVer hxk
          have c0 := hat.c0
          have Hat := Lib.hid hat
          have Hok := Lib.hid hok
          have Hxk := Lib.hid hxk
          have Hvr := Lib.hid hvr
          clear hat hok hxk hvr hv
          go_wp2_with fail
          refine (at_any _ l x.stamp _ Hvr.out (by omega) Hr.out Hsm.out).mono ?_
          rintro e w4 ⟨b, y, p1, t1, z1, rfl, hok1, hres, hx4⟩
          obtain ⟨rfl, rfl⟩ := at_self Hr.out Hxk.out (Int.le_refl _) (fun j y hy hj => Hr.out k j x y Hxk.out hy hj) hres
          obtain ⟨pa, pc, rfl, _⟩ := id hok1.parts.1
          obtain ⟨ta, tc, rfl, _⟩ := id hok1.parts.2.1
          obtain ⟨za, zc, rfl, _⟩ := id hok1.parts.2.2
          have Hok1 := Lib.hid hok1
          have Hx4 := Lib.hid hx4
          clear hok1 hres hx4
          unfold verV
          go_wp2_with fail
          have hbat : VerAt (w4.alloc (.cells #[.int .i64 y.stamp, .bool y.gone, .int .i64 y.expire, .int .i64 y.val.kind, .string y.val.text, .slice pa y.val.pairs.length pc, .slice ta y.val.texts.length tc, .slice za y.val.zset.length zc] 32)) w4.heap.size 0 y (.slice pa y.val.pairs.length pc) (.slice ta y.val.texts.length tc) (.slice za y.val.zset.length zc) := ⟨box1 _ _ _ rfl rfl, box1 _ _ _ rfl rfl, box1 _ _ _ rfl rfl, box1 _ _ _ rfl rfl, box1 _ _ _ rfl rfl, box1 _ _ _ rfl rfl, box1 _ _ _ rfl rfl, box1 _ _ _ rfl rfl⟩
          have hext : Ext w4 (w4.alloc (.cells #[.int .i64 y.stamp, .bool y.gone, .int .i64 y.expire, .int .i64 y.val.kind, .string y.val.text, .slice pa y.val.pairs.length pc, .slice ta y.val.texts.length tc, .slice za y.val.zset.length zc] 32)) := (Ext.refl _).alloc _
          generalize w4.alloc (.cells #[.int .i64 y.stamp, .bool y.gone, .int .i64 y.expire, .int .i64 y.val.kind, .string y.val.text, .slice pa y.val.pairs.length pc, .slice ta y.val.texts.length tc, .slice za y.val.zset.length zc] 32) = W at hbat hext ⊢
          have hxW := Hx4.out.then hext
          have Hat5 := Lib.hid (Hat.out.mono hxW)
          have Hok5 := Lib.hid (Hok.out.mono hxW)
          have Hok15 := Lib.hid (Hok1.out.mono hext)
          have HxW := Lib.hid (Hx.out.then hxW)
          have HvW := Lib.hid (Hvr.out.mono rVer_mono hxW)
          clear hxW hext
          refine wp_region_rely_lit rfl [some 42, some 43, some 44, some 45, some 46, some 47, some 48, some 49, some 50, some 51, some 52] rfl [[], [0], [1], [2], [2], [2], [2, 4, 5], [2, 6], [2, 3, 7], [2, 8], [2, 9]] (by kernel_rfl) (fun w' => Ext W w') Ext
            (fun i w' v => match i with
              | 0 => v = .bool true
              | 1 => v = .bool false
              | 2 => v = .bool false
              | 3 => v = verV y (.slice pa y.val.pairs.length pc) (.slice ta y.val.texts.length tc) (.slice za y.val.zset.length zc)
              | 4 => v = .slice (some ⟨g, o, none⟩) l.length cap
              | 5 => v = .int .i64 (k : Int)
              | 6 => v = .pointer (some ⟨g, o + k * 8, none⟩)
              | 7 => v = verV y p t z
              | 8 => v = .bool true
              | 9 => v = .bool false
              | 10 => v = .bool false
              | _ => True) (fun i w1 w2 v _ h => h) ?_ ?_ ?_
          · exact (Ext.refl W).drew
          · refine ⟨?_, ?_, ?_, ?_, ?_, ?_, ?_, ?_, ?_, ?_, ?_, trivial⟩
            all_goals (intro vs w' hI hd)
            all_goals simp only [opsFor, actD, List.getD_cons_zero, List.getD_cons_succ, List.foldl_cons, List.foldl_nil, List.mem_cons, List.not_mem_nil, or_false, forall_eq_or_imp, forall_eq] at hd ⊢
            · go_wp2
              first | exact ⟨rfl, rfl, Ext.refl _, hI⟩ | exact ⟨rfl, trivial, Ext.refl _, hI⟩
            · go_wp2
              first | exact ⟨rfl, rfl, Ext.refl _, hI⟩ | exact ⟨rfl, trivial, Ext.refl _, hI⟩
            · go_wp2
              first | exact ⟨rfl, rfl, Ext.refl _, hI⟩ | exact ⟨rfl, trivial, Ext.refl _, hI⟩
            · obtain ⟨d0, d1, d2, d3, d4, d5, d6, d7⟩ := hbat.mono hI
              go_wp2
              exact ⟨rfl, rfl, Ext.refl _, hI⟩
            · go_wp2
              first | exact ⟨rfl, rfl, Ext.refl _, hI⟩ | exact ⟨rfl, trivial, Ext.refl _, hI⟩
            · go_wp2
              first | exact ⟨rfl, rfl, Ext.refl _, hI⟩ | exact ⟨rfl, trivial, Ext.refl _, hI⟩
            · go_wp2
              first | exact ⟨rfl, rfl, Ext.refl _, hI⟩ | exact ⟨rfl, trivial, Ext.refl _, hI⟩
            · obtain ⟨d0, d1, d2, d3, d4, d5, d6, d7⟩ := Hat5.out.mono hI
              go_wp2
              exact ⟨rfl, rfl, Ext.refl _, hI⟩
            · go_wp2_with fail
              refine (same1 y y _ _ _ p t z _ (Hok15.out.parts.mono hI) (Hok5.out.parts.mono hI)).mono ?_
              rintro e w9 ⟨rfl, hx9⟩
              rw [decide_eq_true (rfl : y = y)]
              go_wp2
              exact ⟨rfl, rfl, hx9, hI.then hx9⟩
            · go_wp2
              first | exact ⟨rfl, rfl, Ext.refl _, hI⟩ | exact ⟨rfl, trivial, Ext.refl _, hI⟩
            · go_wp2
              first | exact ⟨rfl, rfl, Ext.refl _, hI⟩ | exact ⟨rfl, trivial, Ext.refl _, hI⟩
          · intro vs w' hI hd
            simp only [actD, List.range, List.range.loop, List.foldl_cons, List.foldl_nil, List.length_cons, List.length_nil, List.getD_cons_zero, List.getD_cons_succ]
            rw [show vs 10 = Value.bool false from hd 10 (by decide)]
            clear hd
            go_simp
            have HxI := Lib.hid (HxW.out.then hI)
            have HvI := Lib.hid (HvW.out.mono rVer_mono hI)
            have HatI := Lib.hid (Hat5.out.mono hI)
            have HokI := Lib.hid (Hok5.out.mono hI)
            have e0 := HatI.out.c0
            clear hI c0
            by_cases hnx : k + 1 < l.length
            · obtain ⟨x2, hx2⟩ : ∃ x, l[k + 1]? = some x := ⟨_, List.getElem?_eq_getElem hnx⟩
              have hlt2 := Hr.out k (k + 1) y x2 Hxk.out hx2 (by omega)
              obtain ⟨g', o', p9, t9, z9, e', hat9, _⟩ := HvI.out.atVer hx2
              obtain ⟨rfl, rfl⟩ : g = g' ∧ o = o' := by
                have h := e'
                simp at h
                exact h
              have e9 := hat9.c0
              have hst := oneB_stamp (Hone.out (k + 1) x2 hx2)
              obtain ⟨q, hq⟩ : ∃ q : Int, x2.stamp - 1 = q := ⟨_, rfl⟩
              have Hx2 := Lib.hid hx2
              have hlow : y.stamp ≤ q := by omega
              have hhigh : ∀ (j : Nat) (u : Ver), l[j]? = some u → k < j → q < u.stamp := fun j u hu hj => by
                by_cases e : j = k + 1
                · rw [e, Hx2.out] at hu; cases hu; omega
                · have := Hr.out (k + 1) j x2 u Hx2.out hu (by omega); omega
              have Hlow := Lib.hid hlow
              have Hhigh := Lib.hid hhigh
              clear hat9 e' hx2 hlt2 hlow hhigh
              skip
              go_wp2_with fail
              refine (at_any _ l q _ HvI.out (by omega) Hr.out Hsm.out).mono ?_
              rintro e w6 ⟨b, y2, p2, t2, z2, rfl, hok2, hres, hx6⟩
              obtain ⟨rfl, rfl⟩ := at_self Hr.out Hxk.out Hlow.out Hhigh.out hres
              obtain ⟨pa2, pc2, rfl, _⟩ := id hok2.parts.1
              obtain ⟨ta2, tc2, rfl, _⟩ := id hok2.parts.2.1
              obtain ⟨za2, zc2, rfl, _⟩ := id hok2.parts.2.2
              have Hok2 := Lib.hid hok2
              have Hx6 := Lib.hid hx6
              clear hok2 hres hx6 hbat
              unfold verV
              go_wp2_with fail
              have hbat : VerAt (w6.alloc (.cells #[.int .i64 y2.stamp, .bool y2.gone, .int .i64 y2.expire, .int .i64 y2.val.kind, .string y2.val.text, .slice pa2 y2.val.pairs.length pc2, .slice ta2 y2.val.texts.length tc2, .slice za2 y2.val.zset.length zc2] 32)) w6.heap.size 0 y2 (.slice pa2 y2.val.pairs.length pc2) (.slice ta2 y2.val.texts.length tc2) (.slice za2 y2.val.zset.length zc2) := ⟨box1 _ _ _ rfl rfl, box1 _ _ _ rfl rfl, box1 _ _ _ rfl rfl, box1 _ _ _ rfl rfl, box1 _ _ _ rfl rfl, box1 _ _ _ rfl rfl, box1 _ _ _ rfl rfl, box1 _ _ _ rfl rfl⟩
              have hext : Ext w6 (w6.alloc (.cells #[.int .i64 y2.stamp, .bool y2.gone, .int .i64 y2.expire, .int .i64 y2.val.kind, .string y2.val.text, .slice pa2 y2.val.pairs.length pc2, .slice ta2 y2.val.texts.length tc2, .slice za2 y2.val.zset.length zc2] 32)) := (Ext.refl _).alloc _
              generalize w6.alloc (.cells #[.int .i64 y2.stamp, .bool y2.gone, .int .i64 y2.expire, .int .i64 y2.val.kind, .string y2.val.text, .slice pa2 y2.val.pairs.length pc2, .slice ta2 y2.val.texts.length tc2, .slice za2 y2.val.zset.length zc2] 32) = W2 at hbat hext ⊢
              have hxW2 := Hx6.out.then hext
              have Hat7 := Lib.hid (HatI.out.mono hxW2)
              have Hok7 := Lib.hid (HokI.out.mono hxW2)
              have Hok27 := Lib.hid (Hok2.out.mono hext)
              have HxW2 := Lib.hid (HxI.out.then hxW2)
              clear hxW2 hext
              refine wp_region_rely_lit rfl [some 76, some 77, some 78, some 79, some 80, some 81, some 82, some 83, some 84, some 85, some 86] rfl [[], [0], [1], [2], [2], [2], [2, 4, 5], [2, 6], [2, 3, 7], [2, 8], [2, 9]] (by kernel_rfl) (fun w' => Ext W2 w') Ext
                (fun i w' v => match i with
                  | 0 => v = .bool true
                  | 1 => v = .bool false
                  | 2 => v = .bool false
                  | 3 => v = verV y2 (.slice pa2 y2.val.pairs.length pc2) (.slice ta2 y2.val.texts.length tc2) (.slice za2 y2.val.zset.length zc2)
                  | 4 => v = .slice (some ⟨g, o, none⟩) l.length cap
                  | 5 => v = .int .i64 (k : Int)
                  | 6 => v = .pointer (some ⟨g, o + k * 8, none⟩)
                  | 7 => v = verV y2 p t z
                  | 8 => v = .bool true
                  | 9 => v = .bool false
                  | 10 => v = .bool false
                  | _ => True) (fun i w1 w2 v _ h => h) ?_ ?_ ?_
              · exact (Ext.refl W2).drew
              · refine ⟨?_, ?_, ?_, ?_, ?_, ?_, ?_, ?_, ?_, ?_, ?_, trivial⟩
                all_goals (intro vs w' hI hd)
                all_goals simp only [opsFor, actD, List.getD_cons_zero, List.getD_cons_succ, List.foldl_cons, List.foldl_nil, List.mem_cons, List.not_mem_nil, or_false, forall_eq_or_imp, forall_eq] at hd ⊢
                · go_wp2
                  first | exact ⟨rfl, rfl, Ext.refl _, hI⟩ | exact ⟨rfl, trivial, Ext.refl _, hI⟩
                · go_wp2
                  first | exact ⟨rfl, rfl, Ext.refl _, hI⟩ | exact ⟨rfl, trivial, Ext.refl _, hI⟩
                · go_wp2
                  first | exact ⟨rfl, rfl, Ext.refl _, hI⟩ | exact ⟨rfl, trivial, Ext.refl _, hI⟩
                · obtain ⟨d0, d1, d2, d3, d4, d5, d6, d7⟩ := hbat.mono hI
                  go_wp2
                  exact ⟨rfl, rfl, Ext.refl _, hI⟩
                · go_wp2
                  first | exact ⟨rfl, rfl, Ext.refl _, hI⟩ | exact ⟨rfl, trivial, Ext.refl _, hI⟩
                · go_wp2
                  first | exact ⟨rfl, rfl, Ext.refl _, hI⟩ | exact ⟨rfl, trivial, Ext.refl _, hI⟩
                · go_wp2
                  first | exact ⟨rfl, rfl, Ext.refl _, hI⟩ | exact ⟨rfl, trivial, Ext.refl _, hI⟩
                · obtain ⟨d0, d1, d2, d3, d4, d5, d6, d7⟩ := Hat7.out.mono hI
                  go_wp2
                  exact ⟨rfl, rfl, Ext.refl _, hI⟩
                · go_wp2_with fail
                  refine (same1 y2 y2 _ _ _ p t z _ (Hok27.out.parts.mono hI) (Hok7.out.parts.mono hI)).mono ?_
                  rintro e w9 ⟨rfl, hx9⟩
                  rw [decide_eq_true (rfl : y2 = y2)]
                  go_wp2
                  exact ⟨rfl, rfl, hx9, hI.then hx9⟩
                · go_wp2
                  first | exact ⟨rfl, rfl, Ext.refl _, hI⟩ | exact ⟨rfl, trivial, Ext.refl _, hI⟩
                · go_wp2
                  first | exact ⟨rfl, rfl, Ext.refl _, hI⟩ | exact ⟨rfl, trivial, Ext.refl _, hI⟩
              · intro vs w' hI hd
                simp only [actD, List.range, List.range.loop, List.foldl_cons, List.foldl_nil, List.length_cons, List.length_nil, List.getD_cons_zero, List.getD_cons_succ]
                rw [show vs 10 = Value.bool false from hd 10 (by decide)]
                clear hd
                go_simp
                go_wp2_with fail
                exact ⟨⟨k + 1, by go_num, by omega, HxW2.out.then hI⟩, by simp [intOf]; omega⟩
            · have hnx2 : ¬ (k : Int) + 1 < (l.length : Int) := by omega
              skip
              go_wp2_with fail
              refine (at_any _ l y.stamp _ HvI.out (by omega) Hr.out Hsm.out).mono ?_
              rintro e w6 ⟨b, y2, p2, t2, z2, rfl, hok2, hres, hx6⟩
              obtain ⟨rfl, rfl⟩ := at_self Hr.out Hxk.out (Int.le_refl _) (fun j u hu hj => Hr.out k j y u Hxk.out hu hj) hres
              obtain ⟨pa2, pc2, rfl, _⟩ := id hok2.parts.1
              obtain ⟨ta2, tc2, rfl, _⟩ := id hok2.parts.2.1
              obtain ⟨za2, zc2, rfl, _⟩ := id hok2.parts.2.2
              have Hok2 := Lib.hid hok2
              have Hx6 := Lib.hid hx6
              clear hok2 hres hx6 hbat
              unfold verV
              go_wp2_with fail
              have hbat : VerAt (w6.alloc (.cells #[.int .i64 y2.stamp, .bool y2.gone, .int .i64 y2.expire, .int .i64 y2.val.kind, .string y2.val.text, .slice pa2 y2.val.pairs.length pc2, .slice ta2 y2.val.texts.length tc2, .slice za2 y2.val.zset.length zc2] 32)) w6.heap.size 0 y2 (.slice pa2 y2.val.pairs.length pc2) (.slice ta2 y2.val.texts.length tc2) (.slice za2 y2.val.zset.length zc2) := ⟨box1 _ _ _ rfl rfl, box1 _ _ _ rfl rfl, box1 _ _ _ rfl rfl, box1 _ _ _ rfl rfl, box1 _ _ _ rfl rfl, box1 _ _ _ rfl rfl, box1 _ _ _ rfl rfl, box1 _ _ _ rfl rfl⟩
              have hext : Ext w6 (w6.alloc (.cells #[.int .i64 y2.stamp, .bool y2.gone, .int .i64 y2.expire, .int .i64 y2.val.kind, .string y2.val.text, .slice pa2 y2.val.pairs.length pc2, .slice ta2 y2.val.texts.length tc2, .slice za2 y2.val.zset.length zc2] 32)) := (Ext.refl _).alloc _
              generalize w6.alloc (.cells #[.int .i64 y2.stamp, .bool y2.gone, .int .i64 y2.expire, .int .i64 y2.val.kind, .string y2.val.text, .slice pa2 y2.val.pairs.length pc2, .slice ta2 y2.val.texts.length tc2, .slice za2 y2.val.zset.length zc2] 32) = W2 at hbat hext ⊢
              have hxW2 := Hx6.out.then hext
              have Hat7 := Lib.hid (HatI.out.mono hxW2)
              have Hok7 := Lib.hid (HokI.out.mono hxW2)
              have Hok27 := Lib.hid (Hok2.out.mono hext)
              have HxW2 := Lib.hid (HxI.out.then hxW2)
              clear hxW2 hext
              refine wp_region_rely_lit rfl [some 76, some 77, some 78, some 79, some 80, some 81, some 82, some 83, some 84, some 85, some 86] rfl [[], [0], [1], [2], [2], [2], [2, 4, 5], [2, 6], [2, 3, 7], [2, 8], [2, 9]] (by kernel_rfl) (fun w' => Ext W2 w') Ext
                (fun i w' v => match i with
                  | 0 => v = .bool true
                  | 1 => v = .bool false
                  | 2 => v = .bool false
                  | 3 => v = verV y2 (.slice pa2 y2.val.pairs.length pc2) (.slice ta2 y2.val.texts.length tc2) (.slice za2 y2.val.zset.length zc2)
                  | 4 => v = .slice (some ⟨g, o, none⟩) l.length cap
                  | 5 => v = .int .i64 (k : Int)
                  | 6 => v = .pointer (some ⟨g, o + k * 8, none⟩)
                  | 7 => v = verV y2 p t z
                  | 8 => v = .bool true
                  | 9 => v = .bool false
                  | 10 => v = .bool false
                  | _ => True) (fun i w1 w2 v _ h => h) ?_ ?_ ?_
              · exact (Ext.refl W2).drew
              · refine ⟨?_, ?_, ?_, ?_, ?_, ?_, ?_, ?_, ?_, ?_, ?_, trivial⟩
                all_goals (intro vs w' hI hd)
                all_goals simp only [opsFor, actD, List.getD_cons_zero, List.getD_cons_succ, List.foldl_cons, List.foldl_nil, List.mem_cons, List.not_mem_nil, or_false, forall_eq_or_imp, forall_eq] at hd ⊢
                · go_wp2
                  first | exact ⟨rfl, rfl, Ext.refl _, hI⟩ | exact ⟨rfl, trivial, Ext.refl _, hI⟩
                · go_wp2
                  first | exact ⟨rfl, rfl, Ext.refl _, hI⟩ | exact ⟨rfl, trivial, Ext.refl _, hI⟩
                · go_wp2
                  first | exact ⟨rfl, rfl, Ext.refl _, hI⟩ | exact ⟨rfl, trivial, Ext.refl _, hI⟩
                · obtain ⟨d0, d1, d2, d3, d4, d5, d6, d7⟩ := hbat.mono hI
                  go_wp2
                  exact ⟨rfl, rfl, Ext.refl _, hI⟩
                · go_wp2
                  first | exact ⟨rfl, rfl, Ext.refl _, hI⟩ | exact ⟨rfl, trivial, Ext.refl _, hI⟩
                · go_wp2
                  first | exact ⟨rfl, rfl, Ext.refl _, hI⟩ | exact ⟨rfl, trivial, Ext.refl _, hI⟩
                · go_wp2
                  first | exact ⟨rfl, rfl, Ext.refl _, hI⟩ | exact ⟨rfl, trivial, Ext.refl _, hI⟩
                · obtain ⟨d0, d1, d2, d3, d4, d5, d6, d7⟩ := Hat7.out.mono hI
                  go_wp2
                  exact ⟨rfl, rfl, Ext.refl _, hI⟩
                · go_wp2_with fail
                  refine (same1 y2 y2 _ _ _ p t z _ (Hok27.out.parts.mono hI) (Hok7.out.parts.mono hI)).mono ?_
                  rintro e w9 ⟨rfl, hx9⟩
                  rw [decide_eq_true (rfl : y2 = y2)]
                  go_wp2
                  exact ⟨rfl, rfl, hx9, hI.then hx9⟩
                · go_wp2
                  first | exact ⟨rfl, rfl, Ext.refl _, hI⟩ | exact ⟨rfl, trivial, Ext.refl _, hI⟩
                · go_wp2
                  first | exact ⟨rfl, rfl, Ext.refl _, hI⟩ | exact ⟨rfl, trivial, Ext.refl _, hI⟩
              · intro vs w' hI hd
                simp only [actD, List.range, List.range.loop, List.foldl_cons, List.foldl_nil, List.length_cons, List.length_nil, List.getD_cons_zero, List.getD_cons_succ]
                rw [show vs 10 = Value.bool false from hd 10 (by decide)]
                clear hd
                go_simp
                go_wp2_with fail
                exact ⟨⟨k + 1, by go_num, by omega, HxW2.out.then hI⟩, by simp [intOf]; omega⟩
        · obtain rfl : k = l.length := by omega
          go_wp2_with fail
          refine (at_any _ l 0 _ hvr (by omega) Hr.out Hsm.out).mono ?_
          rintro e w4 ⟨b, y, p1, t1, z1, rfl, hok1, hres, hx4⟩
          obtain rfl : b = false := by
            rcases hres with ⟨h, _⟩ | ⟨_, m, hm1, hup⟩
            · exact h
            · have h1 := hup.2.1 m y hm1 (by omega)
              have h2 := oneB_stamp (Hone.out m y hm1)
              omega
          obtain ⟨pa, pc, rfl, _⟩ := id hok1.parts.1
          obtain ⟨ta, tc, rfl, _⟩ := id hok1.parts.2.1
          obtain ⟨za, zc, rfl, _⟩ := id hok1.parts.2.2
          have Hx4 := Lib.hid hx4
          clear hok1 hres hx4 hlt hk
          unfold verV
          by_cases hl0 : l.length = 0
          · have hz : ((l.length : Int) == 0) = true := by rw [hl0]; rfl
            clear hl0
            go_wp2_with fail
            have hext : Ext w4 (w4.alloc (.cells #[.int .i64 y.stamp, .bool y.gone, .int .i64 y.expire, .int .i64 y.val.kind, .string y.val.text, .slice pa y.val.pairs.length pc, .slice ta y.val.texts.length tc, .slice za y.val.zset.length zc] 32)) := (Ext.refl _).alloc _
            generalize w4.alloc (.cells #[.int .i64 y.stamp, .bool y.gone, .int .i64 y.expire, .int .i64 y.val.kind, .string y.val.text, .slice pa y.val.pairs.length pc, .slice ta y.val.texts.length tc, .slice za y.val.zset.length zc] 32) = W at hext ⊢
            have hxW := Hx4.out.then hext
            have HxW := Lib.hid (Hx.out.then hxW)
            have HvW := Lib.hid (hvr.mono rVer_mono hxW)
            clear hxW hext
            refine wp_region_rely_lit rfl [some 92, some 93, some 94, some 95, some 96, some 97, some 98, some 99, some 100, some 101, some 102, some 103, some 104, some 105, some 106, some 107, some 108, some 109, some 110, some 4] rfl [[], [0], [1], [2], [2, 3], [2, 4], [2, 5], [6], [6, 7], [6], [6], [6, 10], [6, 11], [6, 9, 12], [6, 13], [6, 14], [6, 8, 15], [2, 6, 16], [2, 17], [18]] (by kernel_rfl) (fun w' => Ext W w') Ext
              (fun i w' v => match i with
                | 0 => v = .bool false
                | 1 => v = .bool true
                | 2 => v = .bool true
                | 3 => v = .slice a l.length cap
                | 4 => v = .int .i64 (l.length : Int)
                | 5 => v = .bool true
                | 6 => v = .bool true
                | 7 => v = undef
                | 8 => v = undef
                | 9 => v = undef
                | 10 => v = undef
                | 11 => v = undef
                | 12 => v = undef
                | 13 => v = undef
                | 14 => v = undef
                | 15 => v = undef
                | 16 => v = undef
                | 17 => v = .bool true
                | 18 => v = .bool true
                | 19 => v = .bool true
                | _ => True) (fun i w1 w2 v _ h => h) ?_ ?_ ?_
            · exact (Ext.refl W).drew
            · refine ⟨?_, ?_, ?_, ?_, ?_, ?_, ?_, ?_, ?_, ?_, ?_, ?_, ?_, ?_, ?_, ?_, ?_, ?_, ?_, ?_, trivial⟩
              all_goals (intro vs w' hI hd)
              all_goals simp only [opsFor, actD, List.getD_cons_zero, List.getD_cons_succ, List.foldl_cons, List.foldl_nil, List.mem_cons, List.not_mem_nil, or_false, forall_eq_or_imp, forall_eq] at hd ⊢
              · go_wp2
                first | exact ⟨rfl, rfl, Ext.refl _, hI⟩ | exact ⟨rfl, trivial, Ext.refl _, hI⟩
              · go_wp2
                first | exact ⟨rfl, rfl, Ext.refl _, hI⟩ | exact ⟨rfl, trivial, Ext.refl _, hI⟩
              · go_wp2
                first | exact ⟨rfl, rfl, Ext.refl _, hI⟩ | exact ⟨rfl, trivial, Ext.refl _, hI⟩
              · go_wp2
                first | exact ⟨rfl, rfl, Ext.refl _, hI⟩ | exact ⟨rfl, trivial, Ext.refl _, hI⟩
              · go_wp2
                first | exact ⟨rfl, rfl, Ext.refl _, hI⟩ | exact ⟨rfl, trivial, Ext.refl _, hI⟩
              · go_wp2
                first | exact ⟨rfl, rfl, Ext.refl _, hI⟩ | exact ⟨rfl, trivial, Ext.refl _, hI⟩
              · go_wp2
                first | exact ⟨rfl, rfl, Ext.refl _, hI⟩ | exact ⟨rfl, trivial, Ext.refl _, hI⟩
              · simp only [hd]
                refine wpList_skip1 rfl ?_
                exact ⟨rfl, rfl, Ext.refl _, hI⟩
              · simp only [hd]
                refine wpList_skip1 rfl ?_
                exact ⟨rfl, rfl, Ext.refl _, hI⟩
              · simp only [hd]
                refine wpList_skip1 rfl ?_
                exact ⟨rfl, rfl, Ext.refl _, hI⟩
              · simp only [hd]
                refine wpList_skip1 rfl ?_
                exact ⟨rfl, rfl, Ext.refl _, hI⟩
              · simp only [hd]
                refine wpList_skip1 rfl ?_
                exact ⟨rfl, rfl, Ext.refl _, hI⟩
              · simp only [hd]
                refine wpList_skip1 rfl ?_
                exact ⟨rfl, rfl, Ext.refl _, hI⟩
              · simp only [hd]
                refine wpList_skip1 rfl ?_
                exact ⟨rfl, rfl, Ext.refl _, hI⟩
              · simp only [hd]
                refine wpList_skip1 rfl ?_
                exact ⟨rfl, rfl, Ext.refl _, hI⟩
              · simp only [hd]
                refine wpList_skip1 rfl ?_
                exact ⟨rfl, rfl, Ext.refl _, hI⟩
              · simp only [hd]
                refine wpList_skip1 rfl ?_
                exact ⟨rfl, rfl, Ext.refl _, hI⟩
              · go_wp2
                first | exact ⟨rfl, rfl, Ext.refl _, hI⟩ | exact ⟨rfl, trivial, Ext.refl _, hI⟩
              · go_wp2
                first | exact ⟨rfl, rfl, Ext.refl _, hI⟩ | exact ⟨rfl, trivial, Ext.refl _, hI⟩
              · go_wp2
                first | exact ⟨rfl, rfl, Ext.refl _, hI⟩ | exact ⟨rfl, trivial, Ext.refl _, hI⟩
            · intro vs w' hI hd
              simp only [actD, List.range, List.range.loop, List.foldl_cons, List.foldl_nil, List.length_cons, List.length_nil, List.getD_cons_zero, List.getD_cons_succ]
              rw [show vs 19 = Value.bool true from hd 19 (by decide)]
              clear hd
              go_simp
              go_wp2
              go_ret
              exact ⟨rfl, HxW.out.then hI⟩
          · obtain ⟨m, hm1⟩ : ∃ m : Nat, (l.length : Int) - 1 = (m : Int) := ⟨l.length - 1, by omega⟩
            have hlm := Lib.hid (show l.length = m + 1 by omega)
            have hml : m < l.length := by omega
            obtain ⟨x, hxm⟩ : ∃ x, l[m]? = some x := ⟨_, List.getElem?_eq_getElem hml⟩
            obtain ⟨g, o, p, t, z, rfl, hat, _⟩ := hvr.atVer hxm
            have Hat := Lib.hid hat
            have Hxm := Lib.hid hxm
            have hz : ((l.length : Int) == 0) = false := beq_eq_false_iff_ne.2 (by omega)
            clear hl0 hat hxm
            go_wp2_with fail
            have hext : Ext w4 (w4.alloc (.cells #[.int .i64 y.stamp, .bool y.gone, .int .i64 y.expire, .int .i64 y.val.kind, .string y.val.text, .slice pa y.val.pairs.length pc, .slice ta y.val.texts.length tc, .slice za y.val.zset.length zc] 32)) := (Ext.refl _).alloc _
            generalize w4.alloc (.cells #[.int .i64 y.stamp, .bool y.gone, .int .i64 y.expire, .int .i64 y.val.kind, .string y.val.text, .slice pa y.val.pairs.length pc, .slice ta y.val.texts.length tc, .slice za y.val.zset.length zc] 32) = W at hext ⊢
            have hxW := Hx4.out.then hext
            have Hat5 := Lib.hid (Hat.out.mono hxW)
            have HxW := Lib.hid (Hx.out.then hxW)
            have HvW := Lib.hid (hvr.mono rVer_mono hxW)
            clear hxW hext
            refine wp_region_rely_lit rfl [some 92, some 93, some 94, some 95, some 96, some 97, some 98, some 99, some 100, some 101, some 102, some 103, some 104, some 105, some 106, some 107, some 108, some 109, some 110, some 4] rfl [[], [0], [1], [2], [2, 3], [2, 4], [2, 5], [6], [6, 7], [6], [6], [6, 10], [6, 11], [6, 9, 12], [6, 13], [6, 14], [6, 8, 15], [2, 6, 16], [2, 17], [18]] (by kernel_rfl) (fun w' => Ext W w') Ext
              (fun i w' v => match i with
                | 0 => v = .bool false
                | 1 => v = .bool true
                | 2 => v = .bool true
                | 3 => v = .slice (some ⟨g, o, none⟩) l.length cap
                | 4 => v = .int .i64 (l.length : Int)
                | 5 => v = .bool false
                | 6 => v = .bool false
                | 7 => v = .slice (some ⟨g, o, none⟩) l.length cap
                | 8 => v = .int .i64 x.stamp
                | 9 => v = .slice (some ⟨g, o, none⟩) l.length cap
                | 10 => v = .slice (some ⟨g, o, none⟩) l.length cap
                | 11 => v = .int .i64 (l.length : Int)
                | 12 => v = .int .i64 (m : Int)
                | 13 => v = .pointer (some ⟨g, o + m * 8, none⟩)
                | 14 => v = .pointer (some ⟨g, o + m * 8, none⟩)
                | 15 => v = .int .i64 x.stamp
                | 16 => v = .bool true
                | 17 => v = .bool true
                | 18 => v = .bool true
                | 19 => v = .bool true
                | _ => True) (fun i w1 w2 v _ h => h) ?_ ?_ ?_
            · exact (Ext.refl W).drew
            · refine ⟨?_, ?_, ?_, ?_, ?_, ?_, ?_, ?_, ?_, ?_, ?_, ?_, ?_, ?_, ?_, ?_, ?_, ?_, ?_, ?_, trivial⟩
              all_goals (intro vs w' hI hd)
              all_goals simp only [opsFor, actD, List.getD_cons_zero, List.getD_cons_succ, List.foldl_cons, List.foldl_nil, List.mem_cons, List.not_mem_nil, or_false, forall_eq_or_imp, forall_eq] at hd ⊢
              · go_wp2
                first | exact ⟨rfl, rfl, Ext.refl _, hI⟩ | exact ⟨rfl, trivial, Ext.refl _, hI⟩
              · go_wp2
                first | exact ⟨rfl, rfl, Ext.refl _, hI⟩ | exact ⟨rfl, trivial, Ext.refl _, hI⟩
              · go_wp2
                first | exact ⟨rfl, rfl, Ext.refl _, hI⟩ | exact ⟨rfl, trivial, Ext.refl _, hI⟩
              · go_wp2
                first | exact ⟨rfl, rfl, Ext.refl _, hI⟩ | exact ⟨rfl, trivial, Ext.refl _, hI⟩
              · go_wp2
                first | exact ⟨rfl, rfl, Ext.refl _, hI⟩ | exact ⟨rfl, trivial, Ext.refl _, hI⟩
              · go_wp2
                first | exact ⟨rfl, rfl, Ext.refl _, hI⟩ | exact ⟨rfl, trivial, Ext.refl _, hI⟩
              · go_wp2
                first | exact ⟨rfl, rfl, Ext.refl _, hI⟩ | exact ⟨rfl, trivial, Ext.refl _, hI⟩
              · go_wp2
                first | exact ⟨rfl, rfl, Ext.refl _, hI⟩ | exact ⟨rfl, trivial, Ext.refl _, hI⟩
              · go_wp2_with fail
                refine (latest_any _ l _ (HvW.out.mono rVer_mono hI) (by omega) x m hlm.out Hxm.out).mono ?_
                rintro e w9 ⟨rfl, hw9⟩
                rw [hw9]
                go_wp2
                exact ⟨rfl, rfl, Ext.refl _, hI⟩
              · go_wp2
                first | exact ⟨rfl, rfl, Ext.refl _, hI⟩ | exact ⟨rfl, trivial, Ext.refl _, hI⟩
              · go_wp2
                first | exact ⟨rfl, rfl, Ext.refl _, hI⟩ | exact ⟨rfl, trivial, Ext.refl _, hI⟩
              · go_wp2
                first | exact ⟨rfl, rfl, Ext.refl _, hI⟩ | exact ⟨rfl, trivial, Ext.refl _, hI⟩
              · go_wp2
                first | exact ⟨rfl, rfl, Ext.refl _, hI⟩ | exact ⟨rfl, trivial, Ext.refl _, hI⟩
              · go_wp2
                first | exact ⟨rfl, rfl, Ext.refl _, hI⟩ | exact ⟨rfl, trivial, Ext.refl _, hI⟩
              · go_wp2
                first | exact ⟨rfl, rfl, Ext.refl _, hI⟩ | exact ⟨rfl, trivial, Ext.refl _, hI⟩
              · have d0 := (Hat5.out.mono hI).c0
                go_wp2
                exact ⟨rfl, rfl, Ext.refl _, hI⟩
              · go_wp2
                exact ⟨rfl, by first | rfl | simp, Ext.refl _, hI⟩
              · go_wp2
                first | exact ⟨rfl, rfl, Ext.refl _, hI⟩ | exact ⟨rfl, trivial, Ext.refl _, hI⟩
              · go_wp2
                first | exact ⟨rfl, rfl, Ext.refl _, hI⟩ | exact ⟨rfl, trivial, Ext.refl _, hI⟩
              · go_wp2
                first | exact ⟨rfl, rfl, Ext.refl _, hI⟩ | exact ⟨rfl, trivial, Ext.refl _, hI⟩
            · intro vs w' hI hd
              simp only [actD, List.range, List.range.loop, List.foldl_cons, List.foldl_nil, List.length_cons, List.length_nil, List.getD_cons_zero, List.getD_cons_succ]
              rw [show vs 19 = Value.bool true from hd 19 (by decide)]
              clear hd
              go_simp
              go_wp2
              go_ret
              exact ⟨rfl, HxW.out.then hI⟩
end Go.Proofs.Ythclkljdnmokcaa
