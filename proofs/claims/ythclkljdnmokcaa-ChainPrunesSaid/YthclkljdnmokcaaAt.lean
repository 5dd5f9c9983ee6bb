/-
  chain.At, walked.
-/
import Derived.Test.YthclkljdnmokcaaCopied
import Derived.Test.YthclkljdnmokcaaUpTo
set_option linter.unusedVariables false
set_option linter.unusedSimpArgs false
namespace Go.Proofs.Ythclkljdnmokcaa
open Go.RowKit Go.Proofs

def zeroVer : Ver := ⟨0, false, 0, ⟨0, ⟨#[]⟩, [], [], []⟩⟩
theorem zero_ok (w : World) : VerOk w zeroVer (.slice none 0 0) (.slice none 0 0) (.slice none 0 0) := ⟨by decide, by decide, by decide, by decide, ⟨sliceOf_nil _ _, sliceOf_nil _ _, sliceOf_nil _ _⟩⟩
def SmallL (l : List Ver) : Prop := ∀ (k : Nat) (x : Ver), l[k]? = some x → x.val.pairs.length ≤ 1000000 ∧ x.val.texts.length ≤ 1000000 ∧ x.val.zset.length ≤ 1000000
/-- what At answers -/
def AtRes (l : List Ver) (n : Int) (b : Bool) (y : Ver) : Prop :=
  (b = false ∧ ∀ (j : Nat) (x : Ver), l[j]? = some x → n < x.stamp) ∨ (b = true ∧ ∃ k, l[k]? = some y ∧ UpTo l n (k + 1))
set_option maxRecDepth 100000 in
set_option maxHeartbeats 1000000 in
theorem at_fin {l : List Ver} {n : Int} {b : Bool} {w wf : World} {x : Ver} {pa ta za : Option Addr} {pn pc tn tc zn zc : Nat} {t0 t1 t2 t3 t6 t7 t8 t9 t10 t11 t12 t13 t14 t15 t16 t17 t18 : Value} (hfin : wf.heap[w.heap.size]? = some (.cells #[.int .i64 x.stamp, .bool x.gone, .int .i64 x.expire, .int .i64 x.val.kind, .string x.val.text, .slice pa pn pc, .slice ta tn tc, .slice za zn zc] 32 (0, 0))) (hxf : Ext w wf) (hok : VerOk wf x (.slice pa pn pc) (.slice ta tn tc) (.slice za zn zc)) (hres : AtRes l n b x) :
    bodyPost Try.prog Try.f13 (fun e w' => ∃ b y p t z, e = .returned (.tuple #[verV y p t z, .bool b]) ∧ VerOk w' y p t z ∧ AtRes l n b y ∧ Ext w w') Exit.ret { tmps := #[t0, t1, t2, t3, .pointer (some ⟨w.heap.size, 0, none⟩), .bool b, t6, t7, t8, t9, t10, t11, t12, t13, t14, t15, t16, t17, t18], defers := [] } wf := by
  have c0 := (cells_at (i := 0) (v := .int .i64 x.stamp) hfin rfl).1
  have c1 := (cells_at (i := 1) (v := .bool x.gone) hfin rfl).1
  have c2 := (cells_at (i := 2) (v := .int .i64 x.expire) hfin rfl).1
  have c3 := (cells_at (i := 3) (v := .int .i64 x.val.kind) hfin rfl).1
  have c4 := (cells_at (i := 4) (v := .string x.val.text) hfin rfl).1
  have c5 := (cells_at (i := 5) (v := .slice pa pn pc) hfin rfl).1
  have c6 := (cells_at (i := 6) (v := .slice ta tn tc) hfin rfl).1
  have c7 := (cells_at (i := 7) (v := .slice za zn zc) hfin rfl).1
  exact bodyPost_ret (v := .tuple #[.agg #[.int .i64 x.stamp, .bool x.gone, .int .i64 x.expire, .int .i64 x.val.kind, .string x.val.text, .slice pa pn pc, .slice ta tn tc, .slice za zn zc], .bool b]) (by simp [results, Try.results13, go_sem, c0, c1, c2, c3, c4, c5, c6, c7]) rfl ⟨b, x, _, _, _, rfl, hok, hres, hxf⟩
set_option maxRecDepth 100000 in
set_option maxHeartbeats 2000000 in
theorem at_any (v : Value) (l : List Ver) (n : Int) (w : World) (hv : SliceOf rVer w v l) (hl : l.length ≤ 1000) (hr : Rising l) (hsm : SmallL l) :
    Calls Try.prog 13 #[v, .int .i64 n] w fun e w' => ∃ b y p t z, e = .returned (.tuple #[verV y p t z, .bool b]) ∧ VerOk w' y p t z ∧ AtRes l n b y ∧ Ext w w' := by
  have hW := Lib.hid (heap_alloc_new w (.cells #[.int .i64 0, .bool false, .int .i64 0, .int .i64 0, .string ⟨#[]⟩, .slice none 0 0, .slice none 0 0, .slice none 0 0] 32))
  have Hr := Lib.hid hr
  have Hsm := Lib.hid hsm
  clear hr hsm
  go_enter Try.func13, Try.ntmps13
  go_wp2_with fail
  refine (upTo_any v l n _ (hv.mono rVer_mono ((Ext.refl w).alloc _)) hl Hr.out).mono ?_
  rintro e w1 ⟨k, rfl, hup, hx1⟩
  have hg1 : w1.heap[w.heap.size]? = some (.cells #[.int .i64 0, .bool false, .int .i64 0, .int .i64 0, .string ⟨#[]⟩, .slice none 0 0, .slice none 0 0, .slice none 0 0] 32 (0, 0)) := (hx1.block w.heap.size (by simp)).trans hW.out
  have hxw := ((Ext.refl w).alloc _).then hx1
  have Hxw := Lib.hid hxw
  have Hup := Lib.hid hup
  by_cases hk : k = 0
  · subst hk
    have hres : AtRes l n false zeroVer := .inl ⟨rfl, fun j x hx => hup.2.2 j x hx (by omega)⟩
    have Hres := Lib.hid hres
    have Hg1 := Lib.hid hg1
    have hw1 := hx1.size
    obtain ⟨b0, bf0⟩ := cells_at (i := 0) (v := .int .i64 0) hg1 rfl
    obtain ⟨b1, bf1⟩ := cells_at (i := 1) (v := .bool false) hg1 rfl
    obtain ⟨b2, bf2⟩ := cells_at (i := 2) (v := .int .i64 0) hg1 rfl
    obtain ⟨b3, bf3⟩ := cells_at (i := 3) (v := .int .i64 0) hg1 rfl
    obtain ⟨b4, bf4⟩ := cells_at (i := 4) (v := .string ⟨#[]⟩) hg1 rfl
    obtain ⟨b5, bf5⟩ := cells_at (i := 5) (v := .slice none 0 0) hg1 rfl
    obtain ⟨b6, bf6⟩ := cells_at (i := 6) (v := .slice none 0 0) hg1 rfl
    obtain ⟨b7, bf7⟩ := cells_at (i := 7) (v := .slice none 0 0) hg1 rfl
    clear hg1 hup hxw hx1 hres
    go_wp2_with fail
    clear b0 bf0 b1 bf1 b2 bf2 b3 bf3 b4 bf4 b5 bf5 b6 bf6 b7 bf7
    have hfin := (heap_set (i := 7) (heap_set (i := 6) (heap_set (i := 5) (heap_set (i := 4) (heap_set (i := 3) (heap_set (i := 2) (heap_set (i := 1) (heap_set (i := 0) Hg1.out (.int .i64 0)) (.bool false)) (.int .i64 0)) (.int .i64 0)) (.string ⟨#[]⟩)) (.slice none 0 0)) (.slice none 0 0)) (.slice none 0 0))
    exact at_fin (x := zeroVer) hfin (Below.setCell (Below.setCell (Below.setCell (Below.setCell (Below.setCell (Below.setCell (Below.setCell (Below.setCell Hxw.out (p := ⟨w.heap.size, 0, none⟩) (Nat.le_refl _) (.int .i64 0)) (p := ⟨w.heap.size, 1, none⟩) (Nat.le_refl _) (.bool false)) (p := ⟨w.heap.size, 2, none⟩) (Nat.le_refl _) (.int .i64 0)) (p := ⟨w.heap.size, 3, none⟩) (Nat.le_refl _) (.int .i64 0)) (p := ⟨w.heap.size, 4, none⟩) (Nat.le_refl _) (.string ⟨#[]⟩)) (p := ⟨w.heap.size, 5, none⟩) (Nat.le_refl _) (.slice none 0 0)) (p := ⟨w.heap.size, 6, none⟩) (Nat.le_refl _) (.slice none 0 0)) (p := ⟨w.heap.size, 7, none⟩) (Nat.le_refl _) (.slice none 0 0)) (zero_ok _) Hres.out
  · obtain ⟨j, hj⟩ : ∃ j : Nat, (k : Int) - 1 = (j : Int) := ⟨k - 1, by omega⟩
    have hkl : k ≤ l.length := hup.1
    have hkj := Lib.hid (show k = j + 1 by omega)
    have hkz : ((k : Int) == 0) = false := beq_eq_false_iff_ne.2 (by omega)
    obtain ⟨x, hxj⟩ : ∃ x, l[j]? = some x := ⟨_, List.getElem?_eq_getElem (by omega)⟩
    obtain ⟨a, cap, rfl, hle, hm, h0, _⟩ := id hv
    unfold maxLen at hm
    obtain ⟨g, o, p, t, z, rfl, hat, hok⟩ := hv.atVer hxj
    obtain ⟨c0, c1, c2, c3, c4, c5, c6, c7⟩ := hat.mono hxw
    have hres : AtRes l n true x := .inr ⟨rfl, j, hxj, hkj.out ▸ hup⟩
    have Hres := Lib.hid hres
    have Hok := Lib.hid hok
    have hs3 := Hsm.out _ _ hxj
    have hjl : j < l.length := by omega
    have hkp : 0 < k := by omega
    clear hup hxw hres hok hk hxj hv hat
    go_wp2_with fail
    refine (copied_any x p t z w _ Hxw.out Hok.out hs3.1 hs3.2.1 hs3.2.2).mono ?_
    rintro e w2 ⟨p', t', z', rfl, hok2, hfar2, hx2⟩
    have hw1 := hx1.size
    have hg2 : w2.heap[w.heap.size]? = some (.cells #[.int .i64 0, .bool false, .int .i64 0, .int .i64 0, .string ⟨#[]⟩, .slice none 0 0, .slice none 0 0, .slice none 0 0] 32 (0, 0)) := (hx2.block w.heap.size (by simp at hw1; omega)).trans hg1
    have Hxw2 := Lib.hid (Hxw.out.then hx2)
    obtain ⟨pa, pc, rfl, _⟩ := id hok2.parts.1
    obtain ⟨ta, tc, rfl, _⟩ := id hok2.parts.2.1
    obtain ⟨za, zc, rfl, _⟩ := id hok2.parts.2.2
    have Hok2 := Lib.hid hok2
    have Hfar2 := Lib.hid hfar2
    have hw1' : w.heap.size < w1.heap.size + 2 := by simp at hw1; omega
    have Hg2 := Lib.hid hg2
    obtain ⟨b0, bf0⟩ := cells_at (i := 0) (v := .int .i64 0) hg2 rfl
    obtain ⟨b1, bf1⟩ := cells_at (i := 1) (v := .bool false) hg2 rfl
    obtain ⟨b2, bf2⟩ := cells_at (i := 2) (v := .int .i64 0) hg2 rfl
    obtain ⟨b3, bf3⟩ := cells_at (i := 3) (v := .int .i64 0) hg2 rfl
    obtain ⟨b4, bf4⟩ := cells_at (i := 4) (v := .string ⟨#[]⟩) hg2 rfl
    obtain ⟨b5, bf5⟩ := cells_at (i := 5) (v := .slice none 0 0) hg2 rfl
    obtain ⟨b6, bf6⟩ := cells_at (i := 6) (v := .slice none 0 0) hg2 rfl
    obtain ⟨b7, bf7⟩ := cells_at (i := 7) (v := .slice none 0 0) hg2 rfl
    clear hg1 hg2 hok2 hfar2 hx2 hx1 c0 c1 c2 c3 c4 c5 c6 c7
    unfold verV
    go_wp2_with fail
    clear b0 bf0 b1 bf1 b2 bf2 b3 bf3 b4 bf4 b5 bf5 b6 bf6 b7 bf7
    have hkf : KeptBut w.heap.size w2 ((((((((w2.setCell ⟨w.heap.size, 0, none⟩ (.int .i64 x.stamp)).setCell ⟨w.heap.size, 1, none⟩ (.bool x.gone)).setCell ⟨w.heap.size, 2, none⟩ (.int .i64 x.expire)).setCell ⟨w.heap.size, 3, none⟩ (.int .i64 x.val.kind)).setCell ⟨w.heap.size, 4, none⟩ (.string x.val.text)).setCell ⟨w.heap.size, 5, none⟩ (.slice pa x.val.pairs.length pc)).setCell ⟨w.heap.size, 6, none⟩ (.slice ta x.val.texts.length tc)).setCell ⟨w.heap.size, 7, none⟩ (.slice za x.val.zset.length zc)) := ((((((((KeptBut.set _ _ _ _).trans (.set _ _ _ _)).trans (.set _ _ _ _)).trans (.set _ _ _ _)).trans (.set _ _ _ _)).trans (.set _ _ _ _)).trans (.set _ _ _ _)).trans (.set _ _ _ _))
    have hfar3 := Hfar2.out.kept hkf ⟨Nat.le_refl _, hw1'⟩
    have hfin := (heap_set (i := 7) (heap_set (i := 6) (heap_set (i := 5) (heap_set (i := 4) (heap_set (i := 3) (heap_set (i := 2) (heap_set (i := 1) (heap_set (i := 0) Hg2.out (.int .i64 x.stamp)) (.bool x.gone)) (.int .i64 x.expire)) (.int .i64 x.val.kind)) (.string x.val.text)) (.slice pa x.val.pairs.length pc)) (.slice ta x.val.texts.length tc)) (.slice za x.val.zset.length zc))
    exact at_fin (x := x) hfin (Below.setCell (Below.setCell (Below.setCell (Below.setCell (Below.setCell (Below.setCell (Below.setCell (Below.setCell Hxw2.out (p := ⟨w.heap.size, 0, none⟩) (Nat.le_refl _) (.int .i64 x.stamp)) (p := ⟨w.heap.size, 1, none⟩) (Nat.le_refl _) (.bool x.gone)) (p := ⟨w.heap.size, 2, none⟩) (Nat.le_refl _) (.int .i64 x.expire)) (p := ⟨w.heap.size, 3, none⟩) (Nat.le_refl _) (.int .i64 x.val.kind)) (p := ⟨w.heap.size, 4, none⟩) (Nat.le_refl _) (.string x.val.text)) (p := ⟨w.heap.size, 5, none⟩) (Nat.le_refl _) (.slice pa x.val.pairs.length pc)) (p := ⟨w.heap.size, 6, none⟩) (Nat.le_refl _) (.slice ta x.val.texts.length tc)) (p := ⟨w.heap.size, 7, none⟩) (Nat.le_refl _) (.slice za x.val.zset.length zc)) ⟨Hok.out.stamp, Hok.out.expire, Hok.out.kind, Hok.out.text, hfar3.parts⟩ Hres.out
end Go.Proofs.Ythclkljdnmokcaa
