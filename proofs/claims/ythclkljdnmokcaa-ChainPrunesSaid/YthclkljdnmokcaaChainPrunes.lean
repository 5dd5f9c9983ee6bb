/-
  The law ChainPrunes, walked.
-/
import Derived.Test.YthclkljdnmokcaaChainRight
import Derived.Test.YthclkljdnmokcaaSmall15
set_option linter.unusedVariables false
set_option linter.unusedSimpArgs false
namespace Go.Proofs.Ythclkljdnmokcaa
open Go.RowKit Go.Proofs

theorem upTo_one {l : List Ver} {n : Int} {k k' : Nat} (h : UpTo l n k) (h' : UpTo l n k') : k = k' := by
  rcases Nat.lt_trichotomy k k' with hlt | e | hlt
  · obtain ⟨x, hx⟩ : ∃ x, l[k]? = some x := ⟨_, List.getElem?_eq_getElem (by have := h'.1; omega)⟩
    have h1 := h.2.2 k x hx (Nat.le_refl _)
    have h2 := h'.2.1 k x hx hlt
    omega
  · exact e
  · obtain ⟨x, hx⟩ : ∃ x, l[k']? = some x := ⟨_, List.getElem?_eq_getElem (by have := h.1; omega)⟩
    have h1 := h'.2.2 k' x hx (Nat.le_refl _)
    have h2 := h.2.1 k' x hx hlt
    omega
theorem alive_later {x : Ver} {c0 c : Int} (h : aliveB x c0 = false) (hc : c0 ≤ c) : aliveB x c = false := by
  unfold aliveB at h ⊢
  cases hg : x.gone with
  | true => rfl
  | false =>
    rw [hg] at h
    simp only [Bool.not_false, Bool.true_and, Bool.or_eq_false_iff, decide_eq_false_iff_not] at h ⊢
    exact ⟨h.1, by omega⟩
theorem at_prune {l : List Ver} {mark c0 stamp clock : Int} {m : Nat} (hp : PruneAt l mark c0 m) (hs : mark ≤ stamp) (hc : c0 ≤ clock) {b1 b2 : Bool} {y1 y2 : Ver} (h1 : AtRes (l.drop m) stamp b1 y1) (h2 : AtRes l stamp b2 y2) :
    (b1 = true ∧ b2 = true ∧ y1 = y2) ∨ (b1 = false ∧ (b2 = false ∨ aliveB y2 clock = false)) := by
  rcases h2 with ⟨hb2, h2⟩ | ⟨hb2, k2, hk2, hup2⟩
  · right
    rcases h1 with ⟨hb1, _⟩ | ⟨hb1, k1, hk1, hup1⟩
    · exact ⟨hb1, .inl hb2⟩
    · exfalso
      rw [List.getElem?_drop] at hk1
      have := h2 _ _ hk1
      have := hup1.2.1 k1 y1 (by rw [List.getElem?_drop]; exact hk1) (by omega)
      omega
  · have hlt2 := (List.getElem?_eq_some_iff.1 hk2).1
    rcases h1 with ⟨hb1, h1⟩ | ⟨hb1, k1, hk1, hup1⟩
    · right
      refine ⟨hb1, .inr ?_⟩
      have hst2 := hup2.2.1 k2 y2 hk2 (by omega)
      have hk2m : k2 < m := by
        rcases Nat.lt_or_ge k2 m with h | h
        · exact h
        · have := h1 (k2 - m) y2 (by rw [List.getElem?_drop, show m + (k2 - m) = k2 by omega]; exact hk2)
          omega
      obtain ⟨k, hup, hm⟩ := hp
      have hkk : k ≤ k2 + 1 := by
        rcases Nat.lt_or_ge (k2 + 1) k with h | h
        · obtain ⟨z, hz⟩ : ∃ z, l[k2 + 1]? = some z := ⟨_, List.getElem?_eq_getElem (by have := hup.1; omega)⟩
          have := hup.2.1 (k2 + 1) z hz h
          have := hup2.2.2 (k2 + 1) z hz (Nat.le_refl _)
          omega
        · exact h
      rcases hm with ⟨e, ha⟩ | ⟨e, _⟩
      · exact alive_later (ha k2 y2 (by omega) hk2) hc
      · omega
    · left
      refine ⟨hb1, hb2, ?_⟩
      rw [List.getElem?_drop] at hk1
      have hlt1 := (List.getElem?_eq_some_iff.1 hk1).1
      have e : m + k1 = k2 := by
        rcases Nat.lt_trichotomy (m + k1) k2 with h | h | h
        · exfalso
          obtain ⟨z, hz⟩ : ∃ z, l[m + (k1 + 1)]? = some z := ⟨_, List.getElem?_eq_getElem (by omega)⟩
          have := hup1.2.2 (k1 + 1) z (by rw [List.getElem?_drop]; exact hz) (by omega)
          have := hup2.2.1 (m + (k1 + 1)) z hz (by omega)
          omega
        · exact h
        · exfalso
          have := hup1.2.1 k1 y1 (by rw [List.getElem?_drop]; exact hk1) (by omega)
          have := hup2.2.2 (m + k1) y1 hk1 (by omega)
          omega
      rw [e] at hk1
      rw [hk1] at hk2
      injection hk2
theorem rising_drop {l : List Ver} (h : Rising l) (m : Nat) : Rising (l.drop m) := fun i j x y hx hy hij => h (m + i) (m + j) x y (by rw [← List.getElem?_drop]; exact hx) (by rw [← List.getElem?_drop]; exact hy) (by omega)
theorem verAt_new (w : World) {g : Nat} (hg : g = w.heap.size) (x : Ver) (p t z : Value) {ty : TypeId} : VerAt (w.alloc (.cells #[.int .i64 x.stamp, .bool x.gone, .int .i64 x.expire, .int .i64 x.val.kind, .string x.val.text, p, t, z] ty)) g 0 x p t z :=
  ⟨box1 _ _ _ hg rfl, box1 _ _ _ hg rfl, box1 _ _ _ hg rfl, box1 _ _ _ hg rfl, box1 _ _ _ hg rfl, box1 _ _ _ hg rfl, box1 _ _ _ hg rfl, box1 _ _ _ hg rfl⟩
structure IBox (w : World) (g : Nat) (a b : Int) : Prop where
  c0 : w.cell? ⟨g, 0, none⟩ = some (.int .i64 a)
  c1 : w.cell? ⟨g, 1, none⟩ = some (.int .i64 b)
theorem IBox.mono {w w' : World} {g : Nat} {a b : Int} (h : IBox w g a b) (hx : Ext w w') : IBox w' g a b := ⟨hx.cell h.c0, hx.cell h.c1⟩
set_option maxRecDepth 100000 in
set_option maxHeartbeats 4000000 in
theorem chainPrunes_walk (w : World) (v : Value) (l : List Ver) (hv : SliceOf rVer w v l) (mark s1 clock c1 : Int) (hw1 : (Lit.int .i64 mark).wf = true) (hw2 : (Lit.int .i64 s1).wf = true) (hw3 : (Lit.int .i64 clock).wf = true) (hw4 : (Lit.int .i64 c1).wf = true) :
    Calls Try.prog 8 #[v, .agg #[.int .i64 mark, .int .i64 s1], .agg #[.int .i64 clock, .int .i64 c1]] w fun e w' => e = .returned (.bool true) ∧ Ext w w' := by
  obtain ⟨a, cap, rfl, hle, hm⟩ := len_of' hv
  have Hv := Lib.hid hv
  clear hv
  go_enter Try.func8, Try.ntmps8
  go_wp2_with fail
  have hA : IBox ((w.alloc (.cells #[.int .i64 mark, .int .i64 s1] 53)).alloc (.cells #[.int .i64 clock, .int .i64 c1] 53)) w.heap.size mark s1 := ⟨box2 _ _ _ _ _ rfl rfl, box2 _ _ _ _ _ rfl rfl⟩
  have hB : IBox ((w.alloc (.cells #[.int .i64 mark, .int .i64 s1] 53)).alloc (.cells #[.int .i64 clock, .int .i64 c1] 53)) (w.heap.size + 1) clock c1 := ⟨box1 _ _ _ (by simp) rfl, box1 _ _ _ (by simp) rfl⟩
  have hI0 : Ext w ((w.alloc (.cells #[.int .i64 mark, .int .i64 s1] 53)).alloc (.cells #[.int .i64 clock, .int .i64 c1] 53)) := ((Ext.refl w).alloc _).alloc _
  generalize (w.alloc (.cells #[.int .i64 mark, .int .i64 s1] 53)).alloc (.cells #[.int .i64 clock, .int .i64 c1] 53) = W0 at hA hB hI0 ⊢
  have HA := Lib.hid hA
  have HB := Lib.hid hB
  have HI0 := Lib.hid hI0
  clear hA hB hI0
  refine (awake15 _).mono ?_
  rintro e w1 ⟨rfl, hx1⟩
  have HI1 := Lib.hid (HI0.out.then hx1)
  have HX1 := Lib.hid hx1
  clear hx1
  go_wp2_with fail
  refine (small15_any _ l _ (Hv.out.mono rVer_mono HI1.out) 64 ⟨by omega, by omega⟩).mono ?_
  rintro e w2 ⟨b, rfl, hb, hx2⟩
  have Hb := Lib.hid hb
  have HI2 := Lib.hid (HI1.out.then hx2)
  have HX2 := Lib.hid (HX1.out.then hx2)
  clear hb hx2
  cases b with
  | false =>
    go_wp2_with fail
    refine (awake15 _).mono ?_
    rintro e w9 ⟨rfl, hx9⟩
    go_wp2
    go_ret
    exact ⟨rfl, HI2.out.then hx9⟩
  | true =>
    obtain ⟨hl64, hsmv⟩ := Hb.out rfl
    have Hsm : Hid (SmallL l) := Lib.hid (fun k x hx => by have := hsmv k x hx; unfold SmallV at this; omega)
    clear hsmv
    go_wp2_with fail
    refine (rises_any _ l _ (Hv.out.mono rVer_mono HI2.out)).mono ?_
    rintro e w3 ⟨rfl, hx3⟩
    have HI3 := Lib.hid (HI2.out.then hx3)
    have HX3 := Lib.hid (HX2.out.then hx3)
    clear hx3
    cases hr : risesB l with
    | false =>
      clear hr
      go_wp2_with fail
      refine (awake15 _).mono ?_
      rintro e w9 ⟨rfl, hx9⟩
      go_wp2
      go_ret
      exact ⟨rfl, HI3.out.then hx9⟩
    | true =>
      have Hr := Lib.hid (risesB_rising hr)
      have Hone := Lib.hid (risesB_one hr)
      clear hr
      obtain ⟨a0, a1⟩ := HA.out.mono HX3.out
      obtain ⟨b0, b1⟩ := HB.out.mono HX3.out
      go_wp2_with fail
      refine (prune_any _ l mark clock _ (Hv.out.mono rVer_mono HI3.out) (by omega) Hr.out Hsm.out).mono ?_
      rintro e w4 ⟨m, v4, rfl, hp, hown, hx4⟩
      obtain ⟨D, hD⟩ : ∃ D, l.drop m = D := ⟨_, rfl⟩
      rw [hD] at hown
      have HD := Lib.hid hD
      obtain ⟨pa4, pc4, rfl, hq1, hq2⟩ := len_of' hown.slice
      have Hp := Lib.hid hp
      have HI4 := Lib.hid (HI3.out.then hx4)
      have HX4 := Lib.hid (HX3.out.then hx4)
      have HV4 := Lib.hid hown.slice.toVer
      have Hdl : Hid (D.length ≤ 64) := Lib.hid (by rw [← hD, List.length_drop]; omega)
      clear hD hp hx4 hown a0 a1 b0 b1
      obtain ⟨a0, a1⟩ := HA.out.mono HX4.out
      obtain ⟨b0, b1⟩ := HB.out.mono HX4.out
      go_wp2_with fail
      refine (refprune_any _ l mark clock _ (Hv.out.mono rVer_mono HI4.out) (by omega)).mono ?_
      rintro e w5 ⟨v5, rfl, hsl5, hx5⟩
      have hkd := kept_drop Hp.out l.length (Nat.le_refl _)
      rw [List.take_length, HD.out] at hkd
      rw [hkd] at hsl5
      obtain ⟨pa5, pc5, rfl, _, _⟩ := len_of' hsl5
      have HV5 := Lib.hid hsl5
      have HI5 := Lib.hid (HI4.out.then hx5)
      have HX5 := Lib.hid (HX4.out.then hx5)
      have HV45 := Lib.hid (HV4.out.mono rVer_mono hx5)
      clear hsl5 hx5 hkd
      go_wp2_with fail
      refine (refsame_refl _ _ D _ HV45.out HV5.out (by have := Hdl.out; omega)).mono ?_
      rintro e w6 ⟨rfl, hx6⟩
      have HI6 := Lib.hid (HI5.out.then hx6)
      have HX6 := Lib.hid (HX5.out.then hx6)
      have HV6 := Lib.hid (HV45.out.mono rVer_mono hx6)
      have Hrd : Hid (Rising D) := Lib.hid (by rw [← HD.out]; exact rising_drop Hr.out m)
      have Hsd : Hid (SmallL D) := Lib.hid (by rw [← HD.out]; exact fun k x hx => Hsm.out (m + k) x (by rw [← List.getElem?_drop]; exact hx))
      have Hod : Hid (∀ (k : Nat) (x : Ver), D[k]? = some x → oneB x = true) := Lib.hid (by rw [← HD.out]; exact fun k x hx => Hone.out (m + k) x (by rw [← List.getElem?_drop]; exact hx))
      clear hx6
      go_wp2_with fail
      refine (chright_ok _ D _ HV6.out Hdl.out Hod.out Hrd.out Hsd.out).mono ?_
      rintro e w7 ⟨rfl, hx7⟩
      have HI7 := Lib.hid (HI6.out.then hx7)
      have HX7 := Lib.hid (HX6.out.then hx7)
      have HV7 := Lib.hid (HV6.out.mono rVer_mono hx7)
      clear hx7 a0 a1 b0 b1
      obtain ⟨a0, a1⟩ := HA.out.mono HX7.out
      obtain ⟨b0, b1⟩ := HB.out.mono HX7.out
      by_cases hms : mark < s1
      · have dS : decide (mark < s1) = true := decide_eq_true hms
        by_cases hmc : clock < c1
        · have dC : decide (clock < c1) = true := decide_eq_true hmc
          go_wp2_with fail
          refine (at_any _ D s1 _ HV7.out (by have := Hdl.out; omega) Hrd.out Hsd.out).mono ?_
          rintro e w8 ⟨q1, y1, p1, t1, z1, rfl, hok1, hat1, hx8⟩
          obtain ⟨pa, pc, rfl, _⟩ := id hok1.parts.1
          obtain ⟨ta, tc, rfl, _⟩ := id hok1.parts.2.1
          obtain ⟨za, zc, rfl, _⟩ := id hok1.parts.2.2
          have Hok1 := Lib.hid hok1
          have Hat1 : Hid (AtRes (l.drop m) s1 q1 y1) := Lib.hid (by rw [HD.out]; exact hat1)
          have HI8 := Lib.hid (HI7.out.then hx8)
          have HN1 := Lib.hid (verAt_new w8 rfl y1 (.slice pa y1.val.pairs.length pc) (.slice ta y1.val.texts.length tc) (.slice za y1.val.zset.length zc) (ty := 32))
          have HE1 : Hid (Ext w8 (w8.alloc (.cells #[.int .i64 y1.stamp, .bool y1.gone, .int .i64 y1.expire, .int .i64 y1.val.kind, .string y1.val.text, .slice pa y1.val.pairs.length pc, .slice ta y1.val.texts.length tc, .slice za y1.val.zset.length zc] 32))) := Lib.hid ((Ext.refl _).alloc _)
          clear hx8 hok1 hat1 a0 a1 b0 b1
          unfold verV
          go_wp2_with fail
          refine (at_any _ l s1 _ (Hv.out.mono rVer_mono (HI8.out.then HE1.out)) (by omega) Hr.out Hsm.out).mono ?_
          rintro e w9 ⟨q2, y2, p2, t2, z2, rfl, hok2, hat2, hx9⟩
          obtain ⟨pa2, pc2, rfl, _⟩ := id hok2.parts.1
          obtain ⟨ta2, tc2, rfl, _⟩ := id hok2.parts.2.1
          obtain ⟨za2, zc2, rfl, _⟩ := id hok2.parts.2.2
          have Hok2 := Lib.hid hok2
          have hcase := at_prune Hp.out (show mark ≤ s1 by omega) (show clock ≤ c1 by omega) Hat1.out hat2
          have HN2 := Lib.hid (verAt_new w9 rfl y2 (.slice pa2 y2.val.pairs.length pc2) (.slice ta2 y2.val.texts.length tc2) (.slice za2 y2.val.zset.length zc2) (ty := 32))
          have hE2 : Ext w9 (w9.alloc (.cells #[.int .i64 y2.stamp, .bool y2.gone, .int .i64 y2.expire, .int .i64 y2.val.kind, .string y2.val.text, .slice pa2 y2.val.pairs.length pc2, .slice ta2 y2.val.texts.length tc2, .slice za2 y2.val.zset.length zc2] 32)) := (Ext.refl _).alloc _
          have HE2 := Lib.hid hE2
          have HI9 := Lib.hid ((HI8.out.then HE1.out).then hx9)
          have HN19 := Lib.hid ((HN1.out.mono hx9).mono hE2)
          have HOk19 := Lib.hid ((Hok1.out.mono HE1.out).mono hx9)
          have Hcase := Lib.hid hcase
          clear hx9 hok2 hat2 hcase hE2
          unfold verV
          obtain ⟨e0, e1, e2, e3, e4, e5, e6, e7⟩ := HN19.out
          obtain ⟨f0, f1, f2, f3, f4, f5, f6, f7⟩ := HN2.out
          rcases Hcase.out with ⟨rfl, rfl, rfl⟩ | ⟨rfl, hno⟩
          · go_wp2_with fail
            refine (alive_any y1 _ _ _ c1 _).mono ?_
            rintro e w10 ⟨rfl, hx10⟩
            have hal : (!y1.gone && (decide (y1.expire = 0) || decide (c1 < y1.expire))) = aliveB y1 c1 := rfl
            rw [hal]
            have HI10 := Lib.hid ((HI9.out.then HE2.out).then hx10)
            have HN1a := Lib.hid (HN19.out.mono hx10)
            have HN2a := Lib.hid (HN2.out.mono hx10)
            have HOk1a := Lib.hid ((HOk19.out.mono HE2.out).mono hx10)
            have HOk2a := Lib.hid ((Hok2.out.mono HE2.out).mono hx10)
            clear hal hx10 e0 e1 e2 e3 e4 e5 e6 e7 f0 f1 f2 f3 f4 f5 f6 f7
            obtain ⟨f0, f1, f2, f3, f4, f5, f6, f7⟩ := HN2a.out
            go_wp2_with fail
            refine (alive_any y1 _ _ _ c1 _).mono ?_
            rintro e w11 ⟨rfl, hx11⟩
            have hal : (!y1.gone && (decide (y1.expire = 0) || decide (c1 < y1.expire))) = aliveB y1 c1 := rfl
            rw [hal]
            have HI11 := Lib.hid (HI10.out.then hx11)
            have HN1b := Lib.hid (HN1a.out.mono hx11)
            have HN2b := Lib.hid (HN2a.out.mono hx11)
            have HOk1b := Lib.hid (HOk1a.out.mono hx11)
            have HOk2b := Lib.hid (HOk2a.out.mono hx11)
            clear hal hx11 f0 f1 f2 f3 f4 f5 f6 f7
            obtain ⟨e0, e1, e2, e3, e4, e5, e6, e7⟩ := HN1b.out
            obtain ⟨f0, f1, f2, f3, f4, f5, f6, f7⟩ := HN2b.out
            cases aliveB y1 c1 with
            | false =>
              go_wp2_with fail
              go_ret
              exact ⟨rfl, HI11.out⟩
            | true =>
              go_wp2_with fail
              refine (same1 y1 y1 _ _ _ _ _ _ _ HOk1b.out.parts HOk2b.out.parts).mono ?_
              rintro e w12 ⟨rfl, hx12⟩
              rw [decide_eq_true (rfl : y1 = y1)]
              go_wp2_with fail
              go_ret
              exact ⟨rfl, HI11.out.then hx12⟩
          · cases q2 with
            | false =>
              go_wp2_with fail
              go_ret
              exact ⟨rfl, HI9.out.then HE2.out⟩
            | true =>
              have ha : aliveB y2 c1 = false := by rcases hno with h | h; cases h; exact h
              have Ha := Lib.hid ha
              clear hno ha
              go_wp2_with fail
              refine (alive_any y2 _ _ _ c1 _).mono ?_
              rintro e w10 ⟨rfl, hx10⟩
              have hal : (!y2.gone && (decide (y2.expire = 0) || decide (c1 < y2.expire))) = aliveB y2 c1 := rfl
              rw [hal, Ha.out]
              clear hal
              go_wp2_with fail
              go_ret
              exact ⟨rfl, (HI9.out.then HE2.out).then hx10⟩
        · have dC : decide (clock < c1) = false := decide_eq_false hmc
          go_wp2_with fail
          refine (at_any _ D s1 _ HV7.out (by have := Hdl.out; omega) Hrd.out Hsd.out).mono ?_
          rintro e w8 ⟨q1, y1, p1, t1, z1, rfl, hok1, hat1, hx8⟩
          obtain ⟨pa, pc, rfl, _⟩ := id hok1.parts.1
          obtain ⟨ta, tc, rfl, _⟩ := id hok1.parts.2.1
          obtain ⟨za, zc, rfl, _⟩ := id hok1.parts.2.2
          have Hok1 := Lib.hid hok1
          have Hat1 : Hid (AtRes (l.drop m) s1 q1 y1) := Lib.hid (by rw [HD.out]; exact hat1)
          have HI8 := Lib.hid (HI7.out.then hx8)
          have HN1 := Lib.hid (verAt_new w8 rfl y1 (.slice pa y1.val.pairs.length pc) (.slice ta y1.val.texts.length tc) (.slice za y1.val.zset.length zc) (ty := 32))
          have HE1 : Hid (Ext w8 (w8.alloc (.cells #[.int .i64 y1.stamp, .bool y1.gone, .int .i64 y1.expire, .int .i64 y1.val.kind, .string y1.val.text, .slice pa y1.val.pairs.length pc, .slice ta y1.val.texts.length tc, .slice za y1.val.zset.length zc] 32))) := Lib.hid ((Ext.refl _).alloc _)
          clear hx8 hok1 hat1 a0 a1 b0 b1
          unfold verV
          go_wp2_with fail
          refine (at_any _ l s1 _ (Hv.out.mono rVer_mono (HI8.out.then HE1.out)) (by omega) Hr.out Hsm.out).mono ?_
          rintro e w9 ⟨q2, y2, p2, t2, z2, rfl, hok2, hat2, hx9⟩
          obtain ⟨pa2, pc2, rfl, _⟩ := id hok2.parts.1
          obtain ⟨ta2, tc2, rfl, _⟩ := id hok2.parts.2.1
          obtain ⟨za2, zc2, rfl, _⟩ := id hok2.parts.2.2
          have Hok2 := Lib.hid hok2
          have hcase := at_prune Hp.out (show mark ≤ s1 by omega) (show clock ≤ clock by omega) Hat1.out hat2
          have HN2 := Lib.hid (verAt_new w9 rfl y2 (.slice pa2 y2.val.pairs.length pc2) (.slice ta2 y2.val.texts.length tc2) (.slice za2 y2.val.zset.length zc2) (ty := 32))
          have hE2 : Ext w9 (w9.alloc (.cells #[.int .i64 y2.stamp, .bool y2.gone, .int .i64 y2.expire, .int .i64 y2.val.kind, .string y2.val.text, .slice pa2 y2.val.pairs.length pc2, .slice ta2 y2.val.texts.length tc2, .slice za2 y2.val.zset.length zc2] 32)) := (Ext.refl _).alloc _
          have HE2 := Lib.hid hE2
          have HI9 := Lib.hid ((HI8.out.then HE1.out).then hx9)
          have HN19 := Lib.hid ((HN1.out.mono hx9).mono hE2)
          have HOk19 := Lib.hid ((Hok1.out.mono HE1.out).mono hx9)
          have Hcase := Lib.hid hcase
          clear hx9 hok2 hat2 hcase hE2
          unfold verV
          obtain ⟨e0, e1, e2, e3, e4, e5, e6, e7⟩ := HN19.out
          obtain ⟨f0, f1, f2, f3, f4, f5, f6, f7⟩ := HN2.out
          rcases Hcase.out with ⟨rfl, rfl, rfl⟩ | ⟨rfl, hno⟩
          · go_wp2_with fail
            refine (alive_any y1 _ _ _ clock _).mono ?_
            rintro e w10 ⟨rfl, hx10⟩
            have hal : (!y1.gone && (decide (y1.expire = 0) || decide (clock < y1.expire))) = aliveB y1 clock := rfl
            rw [hal]
            have HI10 := Lib.hid ((HI9.out.then HE2.out).then hx10)
            have HN1a := Lib.hid (HN19.out.mono hx10)
            have HN2a := Lib.hid (HN2.out.mono hx10)
            have HOk1a := Lib.hid ((HOk19.out.mono HE2.out).mono hx10)
            have HOk2a := Lib.hid ((Hok2.out.mono HE2.out).mono hx10)
            clear hal hx10 e0 e1 e2 e3 e4 e5 e6 e7 f0 f1 f2 f3 f4 f5 f6 f7
            obtain ⟨f0, f1, f2, f3, f4, f5, f6, f7⟩ := HN2a.out
            go_wp2_with fail
            refine (alive_any y1 _ _ _ clock _).mono ?_
            rintro e w11 ⟨rfl, hx11⟩
            have hal : (!y1.gone && (decide (y1.expire = 0) || decide (clock < y1.expire))) = aliveB y1 clock := rfl
            rw [hal]
            have HI11 := Lib.hid (HI10.out.then hx11)
            have HN1b := Lib.hid (HN1a.out.mono hx11)
            have HN2b := Lib.hid (HN2a.out.mono hx11)
            have HOk1b := Lib.hid (HOk1a.out.mono hx11)
            have HOk2b := Lib.hid (HOk2a.out.mono hx11)
            clear hal hx11 f0 f1 f2 f3 f4 f5 f6 f7
            obtain ⟨e0, e1, e2, e3, e4, e5, e6, e7⟩ := HN1b.out
            obtain ⟨f0, f1, f2, f3, f4, f5, f6, f7⟩ := HN2b.out
            cases aliveB y1 clock with
            | false =>
              go_wp2_with fail
              go_ret
              exact ⟨rfl, HI11.out⟩
            | true =>
              go_wp2_with fail
              refine (same1 y1 y1 _ _ _ _ _ _ _ HOk1b.out.parts HOk2b.out.parts).mono ?_
              rintro e w12 ⟨rfl, hx12⟩
              rw [decide_eq_true (rfl : y1 = y1)]
              go_wp2_with fail
              go_ret
              exact ⟨rfl, HI11.out.then hx12⟩
          · cases q2 with
            | false =>
              go_wp2_with fail
              go_ret
              exact ⟨rfl, HI9.out.then HE2.out⟩
            | true =>
              have ha : aliveB y2 clock = false := by rcases hno with h | h; cases h; exact h
              have Ha := Lib.hid ha
              clear hno ha
              go_wp2_with fail
              refine (alive_any y2 _ _ _ clock _).mono ?_
              rintro e w10 ⟨rfl, hx10⟩
              have hal : (!y2.gone && (decide (y2.expire = 0) || decide (clock < y2.expire))) = aliveB y2 clock := rfl
              rw [hal, Ha.out]
              clear hal
              go_wp2_with fail
              go_ret
              exact ⟨rfl, (HI9.out.then HE2.out).then hx10⟩
      · have dS : decide (mark < s1) = false := decide_eq_false hms
        by_cases hmc : clock < c1
        · have dC : decide (clock < c1) = true := decide_eq_true hmc
          go_wp2_with fail
          refine (at_any _ D mark _ HV7.out (by have := Hdl.out; omega) Hrd.out Hsd.out).mono ?_
          rintro e w8 ⟨q1, y1, p1, t1, z1, rfl, hok1, hat1, hx8⟩
          obtain ⟨pa, pc, rfl, _⟩ := id hok1.parts.1
          obtain ⟨ta, tc, rfl, _⟩ := id hok1.parts.2.1
          obtain ⟨za, zc, rfl, _⟩ := id hok1.parts.2.2
          have Hok1 := Lib.hid hok1
          have Hat1 : Hid (AtRes (l.drop m) mark q1 y1) := Lib.hid (by rw [HD.out]; exact hat1)
          have HI8 := Lib.hid (HI7.out.then hx8)
          have HN1 := Lib.hid (verAt_new w8 rfl y1 (.slice pa y1.val.pairs.length pc) (.slice ta y1.val.texts.length tc) (.slice za y1.val.zset.length zc) (ty := 32))
          have HE1 : Hid (Ext w8 (w8.alloc (.cells #[.int .i64 y1.stamp, .bool y1.gone, .int .i64 y1.expire, .int .i64 y1.val.kind, .string y1.val.text, .slice pa y1.val.pairs.length pc, .slice ta y1.val.texts.length tc, .slice za y1.val.zset.length zc] 32))) := Lib.hid ((Ext.refl _).alloc _)
          clear hx8 hok1 hat1 a0 a1 b0 b1
          unfold verV
          go_wp2_with fail
          refine (at_any _ l mark _ (Hv.out.mono rVer_mono (HI8.out.then HE1.out)) (by omega) Hr.out Hsm.out).mono ?_
          rintro e w9 ⟨q2, y2, p2, t2, z2, rfl, hok2, hat2, hx9⟩
          obtain ⟨pa2, pc2, rfl, _⟩ := id hok2.parts.1
          obtain ⟨ta2, tc2, rfl, _⟩ := id hok2.parts.2.1
          obtain ⟨za2, zc2, rfl, _⟩ := id hok2.parts.2.2
          have Hok2 := Lib.hid hok2
          have hcase := at_prune Hp.out (show mark ≤ mark by omega) (show clock ≤ c1 by omega) Hat1.out hat2
          have HN2 := Lib.hid (verAt_new w9 rfl y2 (.slice pa2 y2.val.pairs.length pc2) (.slice ta2 y2.val.texts.length tc2) (.slice za2 y2.val.zset.length zc2) (ty := 32))
          have hE2 : Ext w9 (w9.alloc (.cells #[.int .i64 y2.stamp, .bool y2.gone, .int .i64 y2.expire, .int .i64 y2.val.kind, .string y2.val.text, .slice pa2 y2.val.pairs.length pc2, .slice ta2 y2.val.texts.length tc2, .slice za2 y2.val.zset.length zc2] 32)) := (Ext.refl _).alloc _
          have HE2 := Lib.hid hE2
          have HI9 := Lib.hid ((HI8.out.then HE1.out).then hx9)
          have HN19 := Lib.hid ((HN1.out.mono hx9).mono hE2)
          have HOk19 := Lib.hid ((Hok1.out.mono HE1.out).mono hx9)
          have Hcase := Lib.hid hcase
          clear hx9 hok2 hat2 hcase hE2
          unfold verV
          obtain ⟨e0, e1, e2, e3, e4, e5, e6, e7⟩ := HN19.out
          obtain ⟨f0, f1, f2, f3, f4, f5, f6, f7⟩ := HN2.out
          rcases Hcase.out with ⟨rfl, rfl, rfl⟩ | ⟨rfl, hno⟩
          · go_wp2_with fail
            refine (alive_any y1 _ _ _ c1 _).mono ?_
            rintro e w10 ⟨rfl, hx10⟩
            have hal : (!y1.gone && (decide (y1.expire = 0) || decide (c1 < y1.expire))) = aliveB y1 c1 := rfl
            rw [hal]
            have HI10 := Lib.hid ((HI9.out.then HE2.out).then hx10)
            have HN1a := Lib.hid (HN19.out.mono hx10)
            have HN2a := Lib.hid (HN2.out.mono hx10)
            have HOk1a := Lib.hid ((HOk19.out.mono HE2.out).mono hx10)
            have HOk2a := Lib.hid ((Hok2.out.mono HE2.out).mono hx10)
            clear hal hx10 e0 e1 e2 e3 e4 e5 e6 e7 f0 f1 f2 f3 f4 f5 f6 f7
            obtain ⟨f0, f1, f2, f3, f4, f5, f6, f7⟩ := HN2a.out
            go_wp2_with fail
            refine (alive_any y1 _ _ _ c1 _).mono ?_
            rintro e w11 ⟨rfl, hx11⟩
            have hal : (!y1.gone && (decide (y1.expire = 0) || decide (c1 < y1.expire))) = aliveB y1 c1 := rfl
            rw [hal]
            have HI11 := Lib.hid (HI10.out.then hx11)
            have HN1b := Lib.hid (HN1a.out.mono hx11)
            have HN2b := Lib.hid (HN2a.out.mono hx11)
            have HOk1b := Lib.hid (HOk1a.out.mono hx11)
            have HOk2b := Lib.hid (HOk2a.out.mono hx11)
            clear hal hx11 f0 f1 f2 f3 f4 f5 f6 f7
            obtain ⟨e0, e1, e2, e3, e4, e5, e6, e7⟩ := HN1b.out
            obtain ⟨f0, f1, f2, f3, f4, f5, f6, f7⟩ := HN2b.out
            cases aliveB y1 c1 with
            | false =>
              go_wp2_with fail
              go_ret
              exact ⟨rfl, HI11.out⟩
            | true =>
              go_wp2_with fail
              refine (same1 y1 y1 _ _ _ _ _ _ _ HOk1b.out.parts HOk2b.out.parts).mono ?_
              rintro e w12 ⟨rfl, hx12⟩
              rw [decide_eq_true (rfl : y1 = y1)]
              go_wp2_with fail
              go_ret
              exact ⟨rfl, HI11.out.then hx12⟩
          · cases q2 with
            | false =>
              go_wp2_with fail
              go_ret
              exact ⟨rfl, HI9.out.then HE2.out⟩
            | true =>
              have ha : aliveB y2 c1 = false := by rcases hno with h | h; cases h; exact h
              have Ha := Lib.hid ha
              clear hno ha
              go_wp2_with fail
              refine (alive_any y2 _ _ _ c1 _).mono ?_
              rintro e w10 ⟨rfl, hx10⟩
              have hal : (!y2.gone && (decide (y2.expire = 0) || decide (c1 < y2.expire))) = aliveB y2 c1 := rfl
              rw [hal, Ha.out]
              clear hal
              go_wp2_with fail
              go_ret
              exact ⟨rfl, (HI9.out.then HE2.out).then hx10⟩
        · have dC : decide (clock < c1) = false := decide_eq_false hmc
          go_wp2_with fail
          refine (at_any _ D mark _ HV7.out (by have := Hdl.out; omega) Hrd.out Hsd.out).mono ?_
          rintro e w8 ⟨q1, y1, p1, t1, z1, rfl, hok1, hat1, hx8⟩
          obtain ⟨pa, pc, rfl, _⟩ := id hok1.parts.1
          obtain ⟨ta, tc, rfl, _⟩ := id hok1.parts.2.1
          obtain ⟨za, zc, rfl, _⟩ := id hok1.parts.2.2
          have Hok1 := Lib.hid hok1
          have Hat1 : Hid (AtRes (l.drop m) mark q1 y1) := Lib.hid (by rw [HD.out]; exact hat1)
          have HI8 := Lib.hid (HI7.out.then hx8)
          have HN1 := Lib.hid (verAt_new w8 rfl y1 (.slice pa y1.val.pairs.length pc) (.slice ta y1.val.texts.length tc) (.slice za y1.val.zset.length zc) (ty := 32))
          have HE1 : Hid (Ext w8 (w8.alloc (.cells #[.int .i64 y1.stamp, .bool y1.gone, .int .i64 y1.expire, .int .i64 y1.val.kind, .string y1.val.text, .slice pa y1.val.pairs.length pc, .slice ta y1.val.texts.length tc, .slice za y1.val.zset.length zc] 32))) := Lib.hid ((Ext.refl _).alloc _)
          clear hx8 hok1 hat1 a0 a1 b0 b1
          unfold verV
          go_wp2_with fail
          refine (at_any _ l mark _ (Hv.out.mono rVer_mono (HI8.out.then HE1.out)) (by omega) Hr.out Hsm.out).mono ?_
          rintro e w9 ⟨q2, y2, p2, t2, z2, rfl, hok2, hat2, hx9⟩
          obtain ⟨pa2, pc2, rfl, _⟩ := id hok2.parts.1
          obtain ⟨ta2, tc2, rfl, _⟩ := id hok2.parts.2.1
          obtain ⟨za2, zc2, rfl, _⟩ := id hok2.parts.2.2
          have Hok2 := Lib.hid hok2
          have hcase := at_prune Hp.out (show mark ≤ mark by omega) (show clock ≤ clock by omega) Hat1.out hat2
          have HN2 := Lib.hid (verAt_new w9 rfl y2 (.slice pa2 y2.val.pairs.length pc2) (.slice ta2 y2.val.texts.length tc2) (.slice za2 y2.val.zset.length zc2) (ty := 32))
          have hE2 : Ext w9 (w9.alloc (.cells #[.int .i64 y2.stamp, .bool y2.gone, .int .i64 y2.expire, .int .i64 y2.val.kind, .string y2.val.text, .slice pa2 y2.val.pairs.length pc2, .slice ta2 y2.val.texts.length tc2, .slice za2 y2.val.zset.length zc2] 32)) := (Ext.refl _).alloc _
          have HE2 := Lib.hid hE2
          have HI9 := Lib.hid ((HI8.out.then HE1.out).then hx9)
          have HN19 := Lib.hid ((HN1.out.mono hx9).mono hE2)
          have HOk19 := Lib.hid ((Hok1.out.mono HE1.out).mono hx9)
          have Hcase := Lib.hid hcase
          clear hx9 hok2 hat2 hcase hE2
          unfold verV
          obtain ⟨e0, e1, e2, e3, e4, e5, e6, e7⟩ := HN19.out
          obtain ⟨f0, f1, f2, f3, f4, f5, f6, f7⟩ := HN2.out
          rcases Hcase.out with ⟨rfl, rfl, rfl⟩ | ⟨rfl, hno⟩
          · go_wp2_with fail
            refine (alive_any y1 _ _ _ clock _).mono ?_
            rintro e w10 ⟨rfl, hx10⟩
            have hal : (!y1.gone && (decide (y1.expire = 0) || decide (clock < y1.expire))) = aliveB y1 clock := rfl
            rw [hal]
            have HI10 := Lib.hid ((HI9.out.then HE2.out).then hx10)
            have HN1a := Lib.hid (HN19.out.mono hx10)
            have HN2a := Lib.hid (HN2.out.mono hx10)
            have HOk1a := Lib.hid ((HOk19.out.mono HE2.out).mono hx10)
            have HOk2a := Lib.hid ((Hok2.out.mono HE2.out).mono hx10)
            clear hal hx10 e0 e1 e2 e3 e4 e5 e6 e7 f0 f1 f2 f3 f4 f5 f6 f7
            obtain ⟨f0, f1, f2, f3, f4, f5, f6, f7⟩ := HN2a.out
            go_wp2_with fail
            refine (alive_any y1 _ _ _ clock _).mono ?_
            rintro e w11 ⟨rfl, hx11⟩
            have hal : (!y1.gone && (decide (y1.expire = 0) || decide (clock < y1.expire))) = aliveB y1 clock := rfl
            rw [hal]
            have HI11 := Lib.hid (HI10.out.then hx11)
            have HN1b := Lib.hid (HN1a.out.mono hx11)
            have HN2b := Lib.hid (HN2a.out.mono hx11)
            have HOk1b := Lib.hid (HOk1a.out.mono hx11)
            have HOk2b := Lib.hid (HOk2a.out.mono hx11)
            clear hal hx11 f0 f1 f2 f3 f4 f5 f6 f7
            obtain ⟨e0, e1, e2, e3, e4, e5, e6, e7⟩ := HN1b.out
            obtain ⟨f0, f1, f2, f3, f4, f5, f6, f7⟩ := HN2b.out
            cases aliveB y1 clock with
            | false =>
              go_wp2_with fail
              go_ret
              exact ⟨rfl, HI11.out⟩
            | true =>
              go_wp2_with fail
              refine (same1 y1 y1 _ _ _ _ _ _ _ HOk1b.out.parts HOk2b.out.parts).mono ?_
              rintro e w12 ⟨rfl, hx12⟩
              rw [decide_eq_true (rfl : y1 = y1)]
              go_wp2_with fail
              go_ret
              exact ⟨rfl, HI11.out.then hx12⟩
          · cases q2 with
            | false =>
              go_wp2_with fail
              go_ret
              exact ⟨rfl, HI9.out.then HE2.out⟩
            | true =>
              have ha : aliveB y2 clock = false := by rcases hno with h | h; cases h; exact h
              have Ha := Lib.hid ha
              clear hno ha
              go_wp2_with fail
              refine (alive_any y2 _ _ _ clock _).mono ?_
              rintro e w10 ⟨rfl, hx10⟩
              have hal : (!y2.gone && (decide (y2.expire = 0) || decide (clock < y2.expire))) = aliveB y2 clock := rfl
              rw [hal, Ha.out]
              clear hal
              go_wp2_with fail
              go_ret
              exact ⟨rfl, (HI9.out.then HE2.out).then hx10⟩
theorem arr2 {w : World} {cs : Array Value} {y : List Int} (hs : cs.size = 2) (h : (rArr 2 (rInt .i64)).rel w cs.toList y) : ∃ a b : Int, cs = #[.int .i64 a, .int .i64 b] ∧ (Lit.int .i64 a).wf = true ∧ (Lit.int .i64 b).wf = true := by
  obtain ⟨h1, _, h3⟩ := h
  match y, h1 with
  | [a, b], _ =>
    have e0 := h3 0 (by simp)
    have e1 := h3 1 (by simp)
    simp only [rInt, Nat.mul_one] at e0 e1
    obtain ⟨l⟩ := cs
    match l, hs with
    | [p, q], _ =>
      simp at e0 e1
      exact ⟨a, b, by simp [e0.1, e1.1], e0.2, e1.2⟩
theorem chainPrunes_all (w : World) (v : Value) (l : List Ver) (hv : SliceOf rVer w v l) (cs : Array Value) (y : List Int) (hcs : cs.size = 2) (hy : (rArr 2 (rInt .i64)).rel w cs.toList y) (cs2 : Array Value) (y2 : List Int) (hcs2 : cs2.size = 2) (hy2 : (rArr 2 (rInt .i64)).rel w cs2.toList y2) :
    Calls Try.prog 8 #[v, .agg cs, .agg cs2] w fun e w' => e = .returned (.bool true) ∧ Ext w w' := by
  obtain ⟨a, b, rfl, h1, h2⟩ := arr2 hcs hy
  obtain ⟨c, d, rfl, h3, h4⟩ := arr2 hcs2 hy2
  exact chainPrunes_walk w v l hv a b c d h1 h2 h3 h4
end Go.Proofs.Ythclkljdnmokcaa
