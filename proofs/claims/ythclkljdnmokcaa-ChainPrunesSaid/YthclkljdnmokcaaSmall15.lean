/-
  Which chains aren't too great (the reference): walked.
-/
import Derived.Test.YthclkljdnmokcaaRights
import Derived.Test.YthclkljdnmokcaaRight14
set_option linter.unusedVariables false
set_option linter.unusedSimpArgs false
namespace Go.Proofs.Ythclkljdnmokcaa
open Go.RowKit Go.Proofs

def SmallV (x : Val) : Prop := x.pairs.length ≤ 60 ∧ x.texts.length ≤ 600 ∧ x.zset.length ≤ 60
set_option maxRecDepth 100000 in
set_option maxHeartbeats 4000000 in
theorem small14_any (x : Val) (p t z : Value) (w : World) (hx : Parts w p t z x) (hts : x.text.size ≤ maxLen) :
    Calls Try.prog 17 #[.agg #[.int .i64 x.kind, .string x.text, p, t, z]] w fun e w' => ∃ b, e = .returned (.bool b) ∧ (b = true → SmallV x) ∧ Ext w w' := by
  obtain ⟨k, s, P, T, Z⟩ := x
  obtain ⟨hp, ht, hz⟩ := hx
  simp only at hp ht hz hts
  have Hp := Lib.hid hp
  have Ht := Lib.hid ht
  have Hz := Lib.hid hz
  obtain ⟨ap, cp, rfl, hp1, hp2⟩ := len_of hp
  obtain ⟨at_, ct, rfl, ht1, ht2⟩ := len_of ht
  obtain ⟨az, cz, rfl, hz1, hz2⟩ := len_of hz
  unfold maxLen at hts
  clear hp ht hz
  have hx0 : Ext w (w.alloc (.cells #[.int .i64 k, .string s, .slice ap P.length cp, .slice at_ T.length ct, .slice az Z.length cz] 30)) := (Ext.refl w).alloc _
  have cb2 := box1 w #[.int .i64 k, .string s, .slice ap P.length cp, .slice at_ T.length ct, .slice az Z.length cz] 30 (i := 2) (g := w.heap.size) (v := .slice ap P.length cp) rfl rfl
  have cb3 := box1 w #[.int .i64 k, .string s, .slice ap P.length cp, .slice at_ T.length ct, .slice az Z.length cz] 30 (i := 3) (g := w.heap.size) (v := .slice at_ T.length ct) rfl rfl
  have cb4 := box1 w #[.int .i64 k, .string s, .slice ap P.length cp, .slice at_ T.length ct, .slice az Z.length cz] 30 (i := 4) (g := w.heap.size) (v := .slice az Z.length cz) rfl rfl
  by_cases h1 : 5000 < s.size
  · have hd : decide ((5000 : Int) < (s.size : Int)) = true := decide_eq_true (by omega)
    go_enter Try.func17, Try.ntmps17
    go_wp2_with fail
    go_ret
    exact ⟨false, by first | rfl | simp, by simp, hx0⟩
  · have hd : decide ((5000 : Int) < (s.size : Int)) = false := decide_eq_false (by omega)
    by_cases h2 : 60 < P.length
    · have hd2 : decide ((60 : Int) < (P.length : Int)) = true := decide_eq_true (by omega)
      go_enter Try.func17, Try.ntmps17
      go_wp2_with fail
      go_ret
      exact ⟨false, by first | rfl | simp, by simp, hx0⟩
    · have hd2 : decide ((60 : Int) < (P.length : Int)) = false := decide_eq_false (by omega)
      by_cases h3 : 600 < T.length
      · have hd3 : decide ((600 : Int) < (T.length : Int)) = true := decide_eq_true (by omega)
        go_enter Try.func17, Try.ntmps17
        go_wp2_with fail
        go_ret
        exact ⟨false, by first | rfl | simp, by simp, hx0⟩
      · have hd3 : decide ((600 : Int) < (T.length : Int)) = false := decide_eq_false (by omega)
        by_cases h4 : 60 < Z.length
        · have hd4 : decide ((60 : Int) < (Z.length : Int)) = true := decide_eq_true (by omega)
          go_enter Try.func17, Try.ntmps17
          go_wp2_with fail
          go_ret
          exact ⟨false, by first | rfl | simp, by simp, hx0⟩
        · have hd4 : decide ((60 : Int) < (Z.length : Int)) = false := decide_eq_false (by omega)
          have Hsm : Hid (SmallV ⟨k, s, P, T, Z⟩) := Lib.hid ⟨by show P.length ≤ 60; omega, by show T.length ≤ 600; omega, by show Z.length ≤ 60; omega⟩
          go_enter Try.func17, Try.ntmps17
          go_wp2_with fail
          have Hpr := Lib.hid (Hp.out.mono rPr_mono hx0)
          have Htr := Lib.hid (Ht.out.mono rStr_mono hx0)
          have Hzr := Lib.hid (Hz.out.mono rMb_mono hx0)
          generalize hWE : w.alloc (.cells #[.int .i64 k, .string s, .slice ap P.length cp, .slice at_ T.length ct, .slice az Z.length cz] 30) = W at hx0 cb2 cb3 cb4 Hpr Htr Hzr ⊢
          clear hWE
          go_loopw [3] (fun i wr => ∃ j : Nat, i = .int .i64 (j : Int) ∧ j ≤ P.length ∧ wr = W) (fun i _ => P.length - (intOf i).toNat)
          case atStart => exact ⟨0, rfl, by omega, rfl⟩
          case round =>
            obtain ⟨j, rfl, hj, rfl⟩ := hrel
            by_cases hlt : j < P.length
            · obtain ⟨y, hy⟩ : ∃ y, P[j]? = some y := ⟨_, List.getElem?_eq_getElem hlt⟩
              obtain ⟨g, o, rfl, hu, hu', hs1, hs2⟩ := Hpr.out.atPr hy
              obtain ⟨y1, y2⟩ := y
              simp only at hu hu' hs1 hs2
              unfold maxLen at hs1 hs2
              clear hy
              by_cases hA : 200 < y1.size
              · have hdA : decide ((200 : Int) < (y1.size : Int)) = true := decide_eq_true (by omega)
                go_wp2_with fail
                go_ret
                exact ⟨false, by first | rfl | simp, by simp, hx0⟩
              · have hdA : decide ((200 : Int) < (y1.size : Int)) = false := decide_eq_false (by omega)
                by_cases hB : 5000 < y2.size
                · have hdB : decide ((5000 : Int) < (y2.size : Int)) = true := decide_eq_true (by omega)
                  go_wp2_with fail
                  go_ret
                  exact ⟨false, by first | rfl | simp, by simp, hx0⟩
                · have hdB : decide ((5000 : Int) < (y2.size : Int)) = false := decide_eq_false (by omega)
                  go_wp2_with fail
                  exact ⟨⟨j + 1, by go_num, by omega, by first | rfl | trivial⟩, by simp [intOf]; omega⟩
            · obtain rfl : j = P.length := by omega
              go_wp2_with fail
              go_loopw [4] (fun i w2 => ∃ j : Nat, i = .int .i64 (j : Int) ∧ j ≤ T.length ∧ w2 = wr) (fun i _ => T.length - (intOf i).toNat)
              case atStart => exact ⟨0, rfl, by omega, rfl⟩
              case round =>
                obtain ⟨j, rfl, hj, rfl⟩ := hrel
                by_cases hlt : j < T.length
                · obtain ⟨y, hy⟩ : ∃ y, T[j]? = some y := ⟨_, List.getElem?_eq_getElem hlt⟩
                  obtain ⟨g, o, rfl, hu, hs1⟩ := Htr.out.atS hy
                  unfold maxLen at hs1
                  clear hy
                  by_cases hA : 200 < y.size
                  · have hdA : decide ((200 : Int) < (y.size : Int)) = true := decide_eq_true (by omega)
                    go_wp2_with fail
                    go_ret
                    exact ⟨false, by first | rfl | simp, by simp, hx0⟩
                  · have hdA : decide ((200 : Int) < (y.size : Int)) = false := decide_eq_false (by omega)
                    go_wp2_with fail
                    exact ⟨⟨j + 1, by go_num, by omega, by first | rfl | trivial⟩, by simp [intOf]; omega⟩
                · obtain rfl : j = T.length := by omega
                  go_wp2_with fail
                  go_loopw [5] (fun i w3 => ∃ j : Nat, i = .int .i64 (j : Int) ∧ j ≤ Z.length ∧ w3 = wr) (fun i _ => Z.length - (intOf i).toNat)
                  case atStart => exact ⟨0, rfl, by omega, rfl⟩
                  case round =>
                    obtain ⟨j, rfl, hj, rfl⟩ := hrel
                    by_cases hlt : j < Z.length
                    · obtain ⟨y, hy⟩ : ∃ y, Z[j]? = some y := ⟨_, List.getElem?_eq_getElem hlt⟩
                      obtain ⟨g, o, rfl, hu, hu', hs1, hs2⟩ := Hzr.out.atMb hy
                      obtain ⟨y1, y2⟩ := y
                      simp only at hu hu' hs1 hs2
                      unfold maxLen at hs2
                      clear hy
                      by_cases hA : 200 < y2.size
                      · have hdA : decide ((200 : Int) < (y2.size : Int)) = true := decide_eq_true (by omega)
                        go_wp2_with fail
                        go_ret
                        exact ⟨false, by first | rfl | simp, by simp, hx0⟩
                      · have hdA : decide ((200 : Int) < (y2.size : Int)) = false := decide_eq_false (by omega)
                        go_wp2_with fail
                        exact ⟨⟨j + 1, by go_num, by omega, by first | rfl | trivial⟩, by simp [intOf]; omega⟩
                    · obtain rfl : j = Z.length := by omega
                      go_wp2_with fail
                      go_ret
                      exact ⟨true, by first | rfl | simp, fun _ => Hsm.out, hx0⟩
set_option maxRecDepth 100000 in
set_option maxHeartbeats 1000000 in
theorem small15_any (v : Value) (l : List Ver) (w : World) (hv : SliceOf rVer w v l) (most : Int) (hm0 : 0 ≤ most ∧ most ≤ 1000) :
    Calls Try.prog 11 #[v, .int .i64 most] w fun e w' => ∃ b, e = .returned (.bool b) ∧ (b = true → (l.length : Int) ≤ most ∧ ∀ (k : Nat) (x : Ver), l[k]? = some x → SmallV x.val) ∧ Ext w w' := by
  obtain ⟨a, cap, rfl, hle, hm, h0, _⟩ := id hv
  unfold maxLen at hm
  obtain ⟨hm1, hm2⟩ := hm0
  by_cases hbig : most < (l.length : Int)
  · go_enter Try.func11, Try.ntmps11
    go_wp2_with fail
    go_ret
    exact ⟨false, by first | rfl | simp, by simp, Ext.refl _⟩
  · go_enter Try.func11, Try.ntmps11
    go_wp2_with fail
    go_loopw [5] (fun i wr => ∃ k : Nat, i = .int .i64 (k : Int) ∧ k ≤ l.length ∧ (∀ (j : Nat) (x : Ver), j < k → l[j]? = some x → SmallV x.val) ∧ Ext w wr) (fun i _ => l.length - (intOf i).toNat)
    case atStart => exact ⟨0, rfl, by omega, fun j x hj => by omega, Ext.refl _⟩
    case round =>
      obtain ⟨k, rfl, hk, hall, hx0⟩ := hrel
      have Hall := Lib.hid hall
      have Hx0 := Lib.hid hx0
      have hvr := hv.mono rVer_mono hx0
      clear hall hx0
      by_cases hlt : k < l.length
      · obtain ⟨x, hx⟩ : ∃ x, l[k]? = some x := ⟨_, List.getElem?_eq_getElem hlt⟩
        obtain ⟨g, o, p, t, z, rfl, hat, hok⟩ := hvr.atVer hx
        obtain ⟨c0, c1, c2, c3, c4, c5, c6, c7⟩ := hat
        have Hx := Lib.hid hx
        have Hok := Lib.hid hok
        clear hx hok c0 c1 c2
        go_wp2_with fail
        refine (small14_any x.val p t z _ Hok.out.parts Hok.out.text).mono ?_
        rintro e w1 ⟨b, rfl, hb, hx1⟩
        cases b with
        | true =>
          have hs := Lib.hid (hb rfl)
          clear hb
          go_wp2_with fail
          exact ⟨⟨k + 1, by go_num, by omega, fun j y hj hy => by
            by_cases e : j = k
            · rw [e, Hx.out] at hy; cases hy; exact hs.out
            · exact Hall.out j y (by omega) hy, Hx0.out.then hx1⟩, by simp [intOf]; omega⟩
        | false =>
          clear hb
          go_wp2_with fail
          go_ret
          exact ⟨false, by first | rfl | simp, by simp, Hx0.out.then hx1⟩
      · obtain rfl : k = l.length := by omega
        go_wp2_with fail
        go_ret
        exact ⟨true, by first | rfl | simp, fun _ => ⟨by omega, fun j x hx => Hall.out j x (List.getElem?_eq_some_iff.1 hx).1 hx⟩, Hx0.out⟩
end Go.Proofs.Ythclkljdnmokcaa
