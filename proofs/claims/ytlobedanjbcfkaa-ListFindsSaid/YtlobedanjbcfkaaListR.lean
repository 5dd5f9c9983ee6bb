/-
  IndexFunc and DeleteFunc with Remove's closure; Remove.
-/
import Derived.Test.YtlobedanjbcfkaaListF
import Derived.Test.YtlobedanjbcfkaaOwn2
import Derived.Lib.SliceRun
set_option linter.unusedVariables false
set_option linter.unusedSimpArgs false
namespace Go.Proofs.Ytlobedanjbcfkaa
open Go.RowKit Go.Proofs

def cloV (g1 g0 gn : Nat) : Value := .func (Fn.func 39) #[] #[.pointer (some ⟨g1, 0, none⟩), .pointer (some ⟨g0, 0, none⟩), .pointer (some ⟨gn, 0, none⟩)]
/-- the closure's cells -/
def CloSt (c : Int) (s : ByteArray) (n : Int) (g1 g0 gn : Nat) (w : World) : Prop :=
  w.cell? ⟨g0, 0, none⟩ = some (.int .i64 c) ∧ w.cell? ⟨g1, 0, none⟩ = some (.string s) ∧ w.cell? ⟨gn, 0, none⟩ = some (.int .i64 n) ∧ w.frozen? ⟨gn, 0, none⟩ = false
set_option maxRecDepth 100000 in
set_option maxHeartbeats 1000000 in
theorem idx_any (v : Value) (l : List ByteArray) (c n : Int) (s : ByteArray) (g1 g0 gn : Nat) (w : World) (hv : SliceOf rStr w v l) (hl : l.length ≤ 1000) (hc : Fits c) (hn : 0 ≤ n ∧ n ≤ 1000000) (hst : CloSt c s n g1 g0 gn w) :
    Calls Try.prog 50 #[v, cloV g1 g0 gn] w fun e w' =>
      (∃ k x, l[k]? = some x ∧ (∀ y ∈ l.take k, delB c s n y = false) ∧ delB c s n x = true ∧ e = .returned (.int .i64 (k : Int)) ∧ w' = w.setCell ⟨gn, 0, none⟩ (.int .i64 (n + 1))) ∨
      ((∀ y ∈ l, delB c s n y = false) ∧ e = .returned (.int .i64 (-1)) ∧ w' = w) := by
  obtain ⟨a, cap, rfl, hle, hm, h0, _⟩ := id hv
  unfold maxLen at hm
  have Hst := Lib.hid hst
  clear hst
  unfold cloV
  go_enter Try.func50, Try.ntmps50
  go_wp2_with fail
  go_loopw [5, 8] (fun i j wr => ∃ k : Nat, k ≤ l.length ∧ j = .int .i64 (k : Int) ∧ (∀ y ∈ l.take k, delB c s n y = false) ∧ wr = w) (fun _ j _ => l.length - (intOf j).toNat)
  case atStart => exact ⟨0, by omega, by go_num, by simp, rfl⟩
  case round =>
    obtain ⟨k, hk, rfl, hno, rfl⟩ := hrel
    have Hno := Lib.hid hno
    clear hno
    by_cases hlt : k < l.length
    · obtain ⟨x, hx⟩ : ∃ x, l[k]? = some x := ⟨_, List.getElem?_eq_getElem hlt⟩
      obtain ⟨g, o, u, rfl, hu, hu'⟩ := hv.at1 rfl hx
      have hu1 := hu'.1
      obtain rfl : u = .string x := by simpa using hu1
      clear hu' hu1
      have Hx := Lib.hid hx
      clear hx
      go_wp2_with fail
      refine (clo_any x s c n g0 g1 gn _ hc hn Hst.out.1 Hst.out.2.1 Hst.out.2.2.1 Hst.out.2.2.2).mono ?_
      rintro e w1 ⟨rfl, rfl⟩
      cases hd : delB c s n x with
      | true =>
        have Hd := Lib.hid hd
        clear hd
        simp only [if_true]
        go_wp2_with fail
        go_ret
        exact .inl ⟨k, x, Hx.out, Hno.out, Hd.out, rfl, rfl⟩
      | false =>
        have hno2 : ∀ y ∈ l.take (k + 1), delB c s n y = false := by
          intro y hy
          have h1 := Hx.out
          rw [List.take_add_one, h1] at hy
          rcases List.mem_append.1 hy with hy | hy
          · exact Hno.out y hy
          · obtain rfl : y = x := by simpa using hy
            exact hd
        have Hno2 := Lib.hid hno2
        clear hd hno2
        simp only [Bool.false_eq_true, if_false]
        go_wp2_with fail
        exact ⟨⟨k + 1, by omega, by go_num, Hno2.out, by first | exact trivial | rfl⟩, by simp [intOf]; omega⟩
    · have hall : ∀ y ∈ l, delB c s n y = false := by
        have h1 := Hno.out
        rwa [List.take_of_length_le (by omega)] at h1
      have Hall := Lib.hid hall
      clear hall
      go_wp2_with fail
      go_ret
      exact .inr ⟨Hall.out, rfl, rfl⟩

theorem frozen_same {w : World} {a : Addr} {u v : Value} (h : w.cell? a = some u) (hf : w.frozen? a = false) : (w.setCell a v).frozen? a = false := by
  rw [← hf]
  exact World.frozen?_setCell ..
theorem CloSt.hit {c n : Int} {s : ByteArray} {g1 g0 gn : Nat} {w : World} (h : CloSt c s n g1 g0 gn w) (h0 : g0 ≠ gn) (h1 : g1 ≠ gn) : CloSt c s (n + 1) g1 g0 gn (w.setCell ⟨gn, 0, none⟩ (.int .i64 (n + 1))) :=
  ⟨cell_far h.1 h0 _, cell_far h.2.1 h1 _, World.cell?_setCell_same' _ _ _ (by rw [h.2.2.1]; rfl), frozen_same h.2.2.1 h.2.2.2⟩
theorem CloSt.far {c n : Int} {s : ByteArray} {g1 g0 gn : Nat} {w : World} (h : CloSt c s n g1 g0 gn w) {p : Addr} (h0 : g0 ≠ p.block) (h1 : g1 ≠ p.block) (hn : gn ≠ p.block) (u : Value) : CloSt c s n g1 g0 gn (w.setCell p u) :=
  ⟨cell_far h.1 h0 _, cell_far h.2.1 h1 _, cell_far h.2.2.1 hn _, frozen_far h.2.2.2 hn _⟩
theorem CloSt.fars {c n : Int} {s : ByteArray} {g1 g0 gn g : Nat} (h0 : g0 ≠ g) (h1 : g1 ≠ g) (hn : gn ≠ g) (us : List Value) : ∀ {w : World} {j : Nat}, CloSt c s n g1 g0 gn w → CloSt c s n g1 g0 gn (w.setCells g j us) := by
  induction us with
  | nil => intro w j h; exact h
  | cons u us ih => intro w j h; exact ih (h.far h0 h1 hn u)
/-- what Remove's DeleteFunc leaves, and how many went -/
def remF (c : Int) (s : ByteArray) : Int → List ByteArray → List ByteArray × Int
  | n, [] => ([], n)
  | n, x :: l => if delB c s n x then remF c s (n + 1) l else (x :: (remF c s n l).1, (remF c s n l).2)
theorem remF_none (c : Int) (s : ByteArray) (n : Int) (l : List ByteArray) (h : ∀ y ∈ l, delB c s n y = false) : remF c s n l = (l, n) := by
  induction l with
  | nil => rfl
  | cons x l ih =>
    rw [remF, if_neg (by rw [h x (by simp)]; simp), ih fun y hy => h y (by simp [hy])]
theorem remF_append (c : Int) (s : ByteArray) (n : Int) (l m : List ByteArray) (h : ∀ y ∈ l, delB c s n y = false) : remF c s n (l ++ m) = (l ++ (remF c s n m).1, (remF c s n m).2) := by
  induction l with
  | nil => rfl
  | cons x l ih =>
    rw [List.cons_append, remF, if_neg (by rw [h x (by simp)]; simp), ih fun y hy => h y (by simp [hy])]
    rfl
theorem clear_none (w : World) (ty : TypeId) (a : Option Addr) (cap : Nat) : (Builtin.clear_ #[35] ty #[.slice a 0 cap]).run Try.prog w = .ok (.tuple #[]) w := by
  cases a <;> simp [Builtin.clear_, run_underlying Try.underlying35]
theorem zero_S (w : World) : (zeroValue 9).run Try.prog w = .ok (.string ByteArray.empty) w := by kernel_rfl
set_option maxRecDepth 100000 in
set_option maxHeartbeats 2000000 in
theorem delf_any (v : Value) (l : List ByteArray) (c : Int) (s : ByteArray) (g1 g0 gn base : Nat) (w0 w : World) (hown0 : Own rStr base 9 w v l) (hl : l.length ≤ 1000) (hc : Fits c) (hst0 : CloSt c s 0 g1 g0 gn w)
    (hb : w0.heap.size ≤ base) (hgn : w0.heap.size ≤ gn) (hx0 : Ext w0 w) (h0 : g0 ≠ gn) (h1 : g1 ≠ gn) (hv0 : v.ownBlock ≠ some g0) (hv1 : v.ownBlock ≠ some g1) (hvn : v.ownBlock ≠ some gn) :
    Calls Try.prog 38 #[v, cloV g1 g0 gn] w fun e w' => ∃ v', e = .returned v' ∧ Own rStr base 9 w' v' (remF c s 0 l).1 ∧ CloSt c s (remF c s 0 l).2 g1 g0 gn w' ∧ w'.heap.size = w.heap.size ∧ Ext w0 w' ∧ v'.ownBlock = v.ownBlock := by
  have hv := hown0.slice
  obtain ⟨a, cap, rfl, hle, hm, hnone, _⟩ := id hv
  unfold maxLen at hm
  have Hown0 := Lib.hid hown0
  have Hst0 := Lib.hid hst0
  clear hown0 hst0
  have Hc := Lib.hid hc
  clear hc
  go_enter Try.func38, Try.ntmps38
  go_wp2_with fail
  refine (idx_any _ l c 0 s g1 g0 gn _ hv hl Hc.out ⟨by omega, by omega⟩ Hst0.out).mono ?_
  rintro e w1 (⟨k, x, hx, hno, hd, rfl, rfl⟩ | ⟨hno, rfl, rfl⟩)
  · have hkl : k < l.length := (List.getElem?_eq_some_iff.1 hx).1
    have hne : l ≠ [] := by rintro rfl; simp at hkl
    obtain ⟨g, cap', e1, hbg, _, _, _, _, _⟩ := Hown0.out.form hne
    obtain rfl : a = some ⟨g, 0, none⟩ := by injection e1
    clear e1
    have hg0 : g0 ≠ g := fun e => hv0 (by rw [e]; rfl)
    have hg1 : g1 ≠ g := fun e => hv1 (by rw [e]; rfl)
    have hgg : gn ≠ g := fun e => hvn (by rw [e]; rfl)
    have hst1 := Hst0.out.hit h0 h1
    have hown1 := Hown0.out.far rStr_flat (p := ⟨gn, 0, none⟩) (by intro e; exact hvn e) (.int .i64 (0 + 1))
    have hx1 := Below.setCell hx0 (p := ⟨gn, 0, none⟩) hgn (.int .i64 (0 + 1))
    have hrem : remF c s 0 l = (l.take k ++ (remF c s 1 (l.drop (k + 1))).1, (remF c s 1 (l.drop (k + 1))).2) := by
      have e1 : l = l.take k ++ (x :: l.drop (k + 1)) := by
        have := List.drop_eq_getElem_cons hkl
        have e2 : l[k] = x := by
          have := List.getElem?_eq_getElem hkl
          rw [hx] at this
          exact (Option.some.inj this).symm
        rw [e2] at this
        rw [← this, List.take_append_drop]
      conv => lhs; rw [e1]
      rw [remF_append _ _ _ _ _ hno, remF, if_pos hd]
      rfl
    have Hrem := Lib.hid hrem
    have Hst1 := Lib.hid hst1
    have Hown1 := Lib.hid hown1
    have Hx1 := Lib.hid hx1
    have Hx := Lib.hid hx
    clear hrem hst1 hown1 hx1 hx hno hd hv0 hv1 hvn hnone
    go_wp2_with fail
    unfold cloV
    go_loopw [5, 6, 7] (fun i j x wr => ∃ (K G : List ByteArray) (n : Nat) (j' : Nat), i = .int .i64 (K.length : Int) ∧ j = .int .i64 (j' : Int) ∧ j' ≤ l.length ∧ K.length < j' ∧ n ≤ j' ∧ K.length + G.length = j' ∧
      Own rStr base 9 wr (.slice (some ⟨g, 0, none⟩) l.length cap) (K ++ G ++ l.drop j') ∧ CloSt c s n g1 g0 gn wr ∧ wr.heap.size = w.heap.size ∧ Ext w0 wr ∧ remF c s 0 l = (K ++ (remF c s n (l.drop j')).1, (remF c s n (l.drop j')).2)) (fun _ j _ _ => l.length - (intOf j).toNat)
    case atStart =>
      refine ⟨l.take k, [x], 1, k + 1, by rw [List.length_take]; go_num, by go_num, by omega, by rw [List.length_take]; omega, by omega, by rw [List.length_take]; simp; omega, ?_, Hst1.out, by simp, Hx1.out, Hrem.out⟩
      have e1 : l.take k ++ [x] ++ l.drop (k + 1) = l := by
        have := Hx.out
        have h2 : l.take (k + 1) = l.take k ++ [x] := by rw [List.take_add_one, this]; rfl
        rw [← h2, List.take_append_drop]
      rw [e1]
      exact Hown1.out
    case round =>
      obtain ⟨K, G, n, j, rfl, rfl, hj, hKj, hnj, hKG, hown, hst, hsz, hxr, hrem⟩ := hrel
      have Hown := Lib.hid hown
      have Hst := Lib.hid hst
      have Hrem := Lib.hid hrem
      have Hsz := Lib.hid hsz
      have Hxr := Lib.hid hxr
      clear hst hrem hsz hxr
      by_cases hlt : j < l.length
      · have hMlen : (K ++ G ++ l.drop j).length = l.length := by simp; omega
        obtain ⟨x, hx⟩ : ∃ x, l[j]? = some x := ⟨_, List.getElem?_eq_getElem hlt⟩
        have hMx : (K ++ G ++ l.drop j)[j]? = some x := by
          rw [List.getElem?_append_right (by simp; omega), List.getElem?_drop, ← hx]
          congr 1; simp; omega
        have hD : l.drop j = x :: l.drop (j + 1) := by
          have h1 := List.drop_eq_getElem_cons hlt
          have e2 : l[j] = x := by
            have := List.getElem?_eq_getElem hlt
            rw [hx] at this
            exact (Option.some.inj this).symm
          rwa [e2] at h1
        obtain ⟨g', o, u, e1, hu, hu'⟩ := hown.slice.at1 rfl hMx
        obtain ⟨rfl, rfl⟩ : g' = g ∧ o = 0 := by
          have h := e1.symm
          simp at h
          exact ⟨h.1, h.2⟩
        have hu1 := hu'.1
        have HXS := Lib.hid hu'.2
        obtain rfl : u = .string x := by simpa using hu1
        rw [Nat.zero_add] at hu
        obtain ⟨⟨u0, hu0⟩, hfz, _⟩ := hown.formAt rfl (j := K.length) (by rw [hMlen]; omega)
        have HD := Lib.hid hD
        have HM := Lib.hid hMlen
        clear hu' hu1 e1 hx hMx hD hMlen hown
        have hKl : K.length < l.length := by omega
        have hnB : 0 ≤ (n : Int) ∧ (n : Int) ≤ 1000000 := by omega
        have HnB := Lib.hid hnB
        clear hnB
        go_wp2_with fail
        refine (clo_any x s c n g0 g1 gn _ Hc.out HnB.out Hst.out.1 Hst.out.2.1 Hst.out.2.2.1 Hst.out.2.2.2).mono ?_
        rintro e w1 ⟨rfl, rfl⟩
        cases hd : delB c s n x with
        | true =>
          have hr2 : remF c s 0 l = (K ++ (remF c s ((n + 1 : Nat) : Int) (l.drop (j + 1))).1, (remF c s ((n + 1 : Nat) : Int) (l.drop (j + 1))).2) := by
            rw [Hrem.out, HD.out, remF, if_pos hd]; rfl
          have hst2 : CloSt c s ((n + 1 : Nat) : Int) g1 g0 gn (wr.setCell ⟨gn, 0, none⟩ (.int .i64 ((n : Int) + 1))) := Hst.out.hit h0 h1
          have ho2 := Hown.out.far rStr_flat (p := ⟨gn, 0, none⟩) (by intro e; injection e with e; exact hgg e.symm) (.int .i64 ((n : Int) + 1))
          have eM : K ++ G ++ l.drop j = K ++ (G ++ [x]) ++ l.drop (j + 1) := by rw [HD.out]; simp
          rw [eM] at ho2
          have hx2 := Below.setCell Hxr.out (p := ⟨gn, 0, none⟩) hgn (.int .i64 ((n : Int) + 1))
          have Hr2 := Lib.hid hr2
          have Hst2 := Lib.hid hst2
          have Ho2 := Lib.hid ho2
          have Hx2 := Lib.hid hx2
          clear hr2 hst2 ho2 eM hx2 hd
          simp only [if_true]
          go_wp2_with fail
          refine ⟨⟨K, G ++ [x], n + 1, j + 1, rfl, by go_num, by omega, by omega, by omega, by simp; omega, Ho2.out, Hst2.out, ?_, Hx2.out, Hr2.out⟩, by simp [intOf]; omega⟩
          have := Hsz.out
          simpa using this
        | false =>
          obtain ⟨y, G', rfl⟩ : ∃ y G', G = y :: G' := by
            cases G with
            | nil => simp at hKG; omega
            | cons y G' => exact ⟨y, G', rfl⟩
          have hr2 : remF c s 0 l = ((K ++ [x]) ++ (remF c s (n : Int) (l.drop (j + 1))).1, (remF c s (n : Int) (l.drop (j + 1))).2) := by
            rw [Hrem.out, HD.out, remF, if_neg (by rw [hd]; simp)]; simp
          have hst2 := Hst.out.far (p := ⟨g', K.length, none⟩) hg0 hg1 hgg (.string x)
          have ho2 := Hown.out.set1 rfl rStr_flat (j := K.length) (by rw [HM.out]; omega) (u := .string x) (x := x) (fun _ => ⟨rfl, HXS.out⟩)
          have eM : (K ++ (y :: G') ++ l.drop j).set K.length x = (K ++ [x]) ++ (G' ++ [x]) ++ l.drop (j + 1) := by rw [HD.out]; simp
          rw [eM] at ho2
          have hx2 := Below.setCell Hxr.out (p := ⟨g', K.length, none⟩) (by show w0.heap.size ≤ g'; omega) (.string x)
          have Hr2 := Lib.hid hr2
          have Hst2 := Lib.hid hst2
          have Ho2 := Lib.hid ho2
          have Hx2 := Lib.hid hx2
          clear hr2 hst2 ho2 eM hx2 hd
          simp only [Bool.false_eq_true, if_false]
          go_wp2_with fail
          refine ⟨⟨K ++ [x], G' ++ [x], n, j + 1, by simp, by go_num, by omega, by simp; omega, by omega, by simp at hKG ⊢; omega, Ho2.out, Hst2.out, ?_, Hx2.out, Hr2.out⟩, by simp [intOf]; omega⟩
          have := Hsz.out
          simpa using this
      · obtain rfl : j = l.length := by omega
        have hMlen : (K ++ G ++ l.drop l.length).length = l.length := by simp; omega
        have hclr := fun ty => Lib.run_clear_slice (P := Try.prog) wr 35 9 ty (.string ByteArray.empty) Try.underlying35 zero_S rfl rfl g K.length (l.length - K.length) (cap - K.length) (by omega)
          (fun i hi => by
            obtain ⟨⟨u, hu⟩, _, _⟩ := hown.formAt rfl (j := K.length + i) (by rw [hMlen]; omega)
            rw [hu]; rfl)
          (fun i hi => (hown.formAt rfl (j := K.length + i) (by rw [hMlen]; omega)).2.1)
        have hk1 := hown.take K.length (by rw [hMlen]; omega)
        have ek : (K ++ G ++ l.drop l.length).take K.length = K := by rw [List.append_assoc, List.take_left']; rfl
        rw [ek] at hk1
        have hk2 := hk1.aboves rfl rStr_flat (List.replicate (l.length - K.length) (.string ByteArray.empty)) (Nat.le_refl _)
        have hst2 := Hst.out.fars hg0 hg1 hgg (List.replicate (l.length - K.length) (.string ByteArray.empty)) (j := K.length)
        have hx2 := Ext.setCells (show w0.heap.size ≤ g by omega) (List.replicate (l.length - K.length) (.string ByteArray.empty)) (j := K.length) Hxr.out
        have hsz2 := size_setCells g (List.replicate (l.length - K.length) (.string ByteArray.empty)) wr K.length
        have hr2 : remF c s 0 l = (K, (n : Int)) := by
          rw [Hrem.out, List.drop_length]
          simp [remF]
        rw [Hsz.out] at hsz2
        have Hk2 := Lib.hid hk2
        have Hst2 := Lib.hid hst2
        have Hx2 := Lib.hid hx2
        have Hsz2 := Lib.hid hsz2
        have Hr2 := Lib.hid hr2
        clear hk1 hk2 hst2 hx2 hsz2 hr2 hMlen hown ek
        go_wp2_with fail
        go_ret
        exact ⟨_, rfl, by rw [Hr2.out]; exact Hk2.out, by rw [Hr2.out]; exact Hst2.out, Hsz2.out, Hx2.out, rfl⟩
  · have hrem := remF_none c s 0 l hno
    have Hrem := Lib.hid hrem
    clear hrem hno
    go_wp2_with fail
    go_ret
    exact ⟨_, rfl, by rw [Hrem.out]; exact Hown0.out, by rw [Hrem.out]; exact Hst0.out, rfl, hx0, rfl⟩
end Go.Proofs.Ytlobedanjbcfkaa
