/-
  The law ValueMany, walked.
-/
import Derived.Test.YthclkljdnmokcaaWord
set_option linter.unusedVariables false
set_option linter.unusedSimpArgs false
namespace Go.Proofs.Ythclkljdnmokcaa
open Go.RowKit Go.Proofs

/-- a value whose slices are read in a world that stands -/
def rValAt (w0 : World) : Rep Val := ⟨5, fun _ cs x => rVal.rel w0 cs x⟩
theorem rValAt_flat (w0 : World) : (rValAt w0).Flat := fun _ _ _ _ h => h
theorem rValAt_one (w0 : World) : (rValAt w0).One := fun w cs x h => by
  obtain ⟨p, t, z, rfl, _, _, hp⟩ := h
  obtain ⟨_, _, rfl, _⟩ := hp.1
  obtain ⟨_, _, rfl, _⟩ := hp.2.1
  obtain ⟨_, _, rfl, _⟩ := hp.2.2
  exact ⟨rfl, by simp [Value.oneCell']⟩
theorem el_L : El Try.prog 51 30 5 96 := El.mk' (z := .agg #[.int .i64 0, .string ByteArray.empty, .slice none 0 0, .slice none 0 0, .slice none 0 0]) Try.underlying51 (by kernel_rfl) rfl (by decide)
theorem SliceOf.atValW {w w0 : World} {a : Option Addr} {n cap : Nat} {l : List Val} (h : SliceOf (rValAt w0) w (.slice a n cap) l) {k : Nat} {x : Val} (hx : l[k]? = some x) :
    ∃ g o p t z, a = some ⟨g, o, none⟩ ∧ ValAt w g (o + k * 5) x p t z ∧ (Lit.int .i64 x.kind).wf = true ∧ x.text.size ≤ maxLen ∧ Parts w0 p t z x := by
  obtain ⟨g, o, ecs, ea, el, hc, p, t, z, rfl, h1, h2, h3⟩ := h.atN hx
  have hs : (rValAt w0).size = 5 := rfl
  exact ⟨g, o, p, t, z, ea, ⟨hc 0 (by rw [hs]; decide), hc 1 (by rw [hs]; decide), hc 2 (by rw [hs]; decide), hc 3 (by rw [hs]; decide), hc 4 (by rw [hs]; decide)⟩, h1, h2, h3⟩
theorem one_valW {g : Nat} (w w0 : World) (hg : g = w.heap.size) {x : Val} {p t z : Value} (hx : Parts w0 p t z x) (hk : (Lit.int .i64 x.kind).wf = true) (hs : x.text.size ≤ maxLen) {ty : TypeId} : SliceOf (rValAt w0) (w.alloc (.cells #[.int .i64 x.kind, .string x.text, p, t, z] ty)) (.slice (some ⟨g, 0, none⟩) 1 1) [x] := by
  subst hg
  refine sliceOf_heap (heap_alloc_new w _) [x] rfl (Nat.le_refl _) (by decide) fun j y hy => ?_
  obtain ⟨rfl, rfl⟩ : j = 0 ∧ x = y := by cases j <;> simp_all
  refine ⟨[.int .i64 x.kind, .string x.text, p, t, z], rfl, fun i hi => ?_, p, t, z, rfl, hk, hs, hx⟩
  simp
theorem slice_from {w : World} {a : Option Addr} {N cap : Nat} {l : List UInt8} (h : SliceOf rByte w (.slice a N cap) l) {p : Nat} (hp : p ≤ l.length) (hpos : 0 < p) :
    SliceOf rByte w (.slice (if cap = p then a else a.map (·.add (p * 1))) (l.length - p) (cap - p)) (l.drop p) := by
  have h1 := slice_mid h (p := p) (n := l.length - p) (by omega) hpos
  rwa [List.take_of_length_le (by simp)] at h1
/-- the octets of values -/
def packs (l : List Val) : List UInt8 := (l.map packV).flatten
theorem packs_at {l : List Val} {k : Nat} {x : Val} (h : l[k]? = some x) : packs (l.drop k) = packV x ++ packs (l.drop (k + 1)) := by
  obtain ⟨h1, h2⟩ := List.getElem?_eq_some_iff.1 h
  unfold packs
  rw [List.drop_eq_getElem_cons h1, h2]
  rfl
theorem filter_take_at {l : List Val} {k : Nat} {x : Val} (h : l[k]? = some x) : (l.take (k + 1)).filter rightV = (l.take k).filter rightV ++ (if rightV x = true then [x] else []) := by
  obtain ⟨h1, h2⟩ := List.getElem?_eq_some_iff.1 h
  rw [← List.take_append_getElem h1, h2, List.filter_append]
  congr 1
  by_cases hr : rightV x = true <;> simp [hr]
set_option maxRecDepth 100000 in
set_option maxHeartbeats 3000000 in
theorem valueMany_walk (w : World) (v : Value) (l : List Val) (hv : SliceOf rVal w v l) :
    Calls Try.prog 7 #[v] w fun e w' => e = .returned (.bool true) ∧ Ext w w' := by
  obtain ⟨a, cap, rfl, hle, hm⟩ := len_of' hv
  have Hv := Lib.hid hv
  go_enter Try.func7, Try.ntmps7
  go_wp2_with fail
  refine (awake14 _).mono ?_
  rintro e w1 ⟨rfl, hx1⟩
  have Hx1 := Lib.hid hx1
  clear hx1
  by_cases hlen : 10 < l.length
  · have hd : decide ((10 : Int) < (l.length : Int)) = true := decide_eq_true (by omega)
    have hd2 : decide (10 < l.length) = true := decide_eq_true hlen
    go_wp2_with fail
    refine (awake14 _).mono ?_
    rintro e w2 ⟨rfl, hx2⟩
    go_wp2
    go_ret
    exact ⟨rfl, Hx1.out.then hx2⟩
  have hd : decide ((10 : Int) < (l.length : Int)) = false := decide_eq_false (by omega)
  have hd2 : decide (10 < l.length) = false := decide_eq_false hlen
  go_wp2_with fail
  clear hd hd2
  go_loopw [3, 4] (fun s i wr => ∃ k : Nat, i = .int .i64 (k : Int) ∧ k ≤ l.length ∧ Ext w wr ∧ (∀ j x, j < k → l[j]? = some x → Few x) ∧ Own (rValAt w) w.heap.size 30 wr s ((l.take k).filter rightV)) (fun _ i _ => l.length - (intOf i).toNat)
  case atStart => exact ⟨0, rfl, by omega, Hx1.out, fun j x hj => by omega, Own.nil _ _ _ _⟩
  case round =>
    obtain ⟨k, rfl, hk, hx, hfew, hown⟩ := hrel
    have Hx := Lib.hid hx
    have Hfew := Lib.hid hfew
    have Hown := Lib.hid hown
    clear hx hfew
    by_cases hlt : k < l.length
    · obtain ⟨x, hlx⟩ : ∃ x, l[k]? = some x := ⟨_, List.getElem?_eq_getElem hlt⟩
      obtain ⟨g, o, p, t, z, rfl, hat, hwf, hsz, hpts⟩ := hv.atVal hlx
      obtain ⟨pa, pc, rfl, _, _⟩ := len_of' hpts.1
      obtain ⟨ta, tc, rfl, _, _⟩ := len_of' hpts.2.1
      obtain ⟨za, zc, rfl, _, _⟩ := len_of' hpts.2.2
      have HAT := Lib.hid hat
      obtain ⟨c0, c1, c2, c3, c4⟩ : ValAt wr g (o + k * 5) x _ _ _ := ⟨Hx.out.cell hat.c0, Hx.out.cell hat.c1, Hx.out.cell hat.c2, Hx.out.cell hat.c3, Hx.out.cell hat.c4⟩
      have Hpts := Lib.hid hpts
      have Hlx := Lib.hid hlx
      have HF := Lib.hid (filter_take_at hlx)
      clear hat hpts hlx hown
      go_wp2_with fail
      refine (small14_any x _ _ _ _ (Hpts.out.mono Hx.out) hsz).mono ?_
      rintro e w2 ⟨b, rfl, hb, hx2⟩
      have Hb := Lib.hid hb
      have Hx2 := Lib.hid (Hx.out.then hx2)
      have Hown2 := Lib.hid (Hown.out.mono (rValAt_flat w).mono hx2)
      clear hb c0 c1 c2 c3 c4 hx2
      cases b with
      | false =>
        go_wp2
        go_ret
        exact ⟨rfl, Hx2.out⟩
      | true =>
        have Hfew2 : Hid (∀ j y, j < k + 1 → l[j]? = some y → Few y) := Lib.hid (fun j y hj hy => by
          by_cases e : j = k
          · rw [e, Hlx.out] at hy
            cases hy
            have := Hb.out rfl
            unfold SmallV at this
            unfold Few
            omega
          · exact Hfew.out j y (by omega) hy)
        obtain ⟨c0, c1, c2, c3, c4⟩ : ValAt w2 g (o + k * 5) x _ _ _ := ⟨Hx2.out.cell HAT.out.c0, Hx2.out.cell HAT.out.c1, Hx2.out.cell HAT.out.c2, Hx2.out.cell HAT.out.c3, Hx2.out.cell HAT.out.c4⟩
        go_wp2_with fail
        refine (right14_any x _ _ _ _ (Hpts.out.mono Hx2.out) hsz).mono ?_
        rintro e w3 ⟨rfl, hx3⟩
        have Hx3 := Lib.hid (Hx2.out.then hx3)
        have hown3 := Hown2.out.mono (rValAt_flat w).mono hx3
        clear c0 c1 c2 c3 c4 hx3
        cases hr : rightV x with
        | false =>
          have Hown3 : Hid (Own (rValAt w) w.heap.size 30 w3 _ ((l.take (k + 1)).filter rightV)) := Lib.hid (by rw [HF.out, if_neg (by rw [hr]; decide), List.append_nil]; exact hown3)
          clear hr hown3
          go_wp2_with fail
          exact ⟨⟨k + 1, by go_num, by omega, Hx3.out, Hfew2.out, Hown3.out⟩, by simp [intOf]; omega⟩
        | true =>
          have HF2 : Hid ((l.take (k + 1)).filter rightV = (l.take k).filter rightV ++ [x]) := Lib.hid (by rw [HF.out, if_pos hr])
          have hfl : ((l.take k).filter rightV).length ≤ 10 := Nat.le_trans (List.length_filter_le _ _) (by rw [List.length_take]; omega)
          obtain ⟨L, hL⟩ : ∃ L, (l.take k).filter rightV = L := ⟨_, rfl⟩
          rw [hL] at hown3 hfl
          have HL := Lib.hid hL
          obtain ⟨sa, sc, rfl, hsl, hsm⟩ := len_of' hown3.slice
          have Hown3 := Lib.hid hown3
          have HA : Hid (L.length + [x].length ≤ maxLen) := Lib.hid (by unfold maxLen; simp; omega)
          have HB : Hid ((L.length + [x].length) * 96 ≤ 140737488355328) := Lib.hid (by simp; omega)
          have HC : Hid (w.heap.size ≤ w3.heap.size) := Lib.hid Hx3.out.size
          obtain ⟨c0, c1, c2, c3, c4⟩ : ValAt w3 g (o + k * 5) x _ _ _ := ⟨Hx3.out.cell HAT.out.c0, Hx3.out.cell HAT.out.c1, Hx3.out.cell HAT.out.c2, Hx3.out.cell HAT.out.c3, Hx3.out.cell HAT.out.c4⟩
          clear hr hown3 hL
          go_wp2_with (at_builtin; (refine append_law rfl (.tmp 35) (.tmp 40) rfl el_L (rValAt_one w) (.slice sa L.length sc) L rfl (Hown3.out.mono (rValAt_flat w).mono ((Ext.refl w3).alloc _)) _ [x] rfl (one_valW w3 w rfl Hpts.out hwf hsz) (fun _ _ _ _ _ h => h) HA.out HB.out (by have := HC.out; simp; omega) ?_); intro v4 w4 hown4 hg4; obtain ⟨A4, C4, hv4, _, _, _, _⟩ := id hown4.slice; subst hv4)
          have hx4 : Ext w w4 := (Hx3.out.then ((Ext.refl w3).alloc _)).grown hg4 (Hx3.out.then ((Ext.refl w3).alloc _)).size (fun q hq => Hown3.out.lt q hq)
          refine ⟨⟨k + 1, by go_num, by omega, hx4, Hfew2.out, ?_⟩, by simp [intOf]; omega⟩
          rw [HF2.out, HL.out]
          simpa using hown4
    · obtain rfl : k = l.length := by omega
      have hown5 := hown
      rw [List.take_length] at hown5
      obtain ⟨L, hL⟩ : ∃ L, l.filter rightV = L := ⟨_, rfl⟩
      have hfl : L.length ≤ 10 := by rw [← hL]; exact Nat.le_trans (List.length_filter_le _ _) (by omega)
      rw [hL] at hown5
      obtain ⟨sa, sc, rfl, hsl, hsm⟩ := len_of' hown5.slice
      have Hown5 := Lib.hid hown5
      have HL := Lib.hid hL
      clear hown hown5 hL
      go_wp2_with fail
      refine (pack_any _ l _ (Hv.out.mono rVal_mono Hx.out) (by omega) (fun y hy => by obtain ⟨i, hi, e⟩ := List.getElem_of_mem hy; exact Hfew.out i y (by omega) (by rw [List.getElem?_eq_getElem hi, e]))).mono ?_
      rintro e w2 ⟨bv, rfl, hbs, _, hx2⟩
      have hpk : packAll l = packs (L.drop 0) := by rw [← HL.out]; rfl
      rw [hpk] at hbs
      have Hbs := Lib.hid hbs
      have Hx2 := Lib.hid (Hx.out.then hx2)
      have Hown6 := Lib.hid (Hown5.out.mono (rValAt_flat w).mono hx2)
      clear hpk hbs hx2
      go_wp2_with fail
      go_loopw [5, 6, 7, 8, 9] (fun bv i _ _ _ wr => ∃ k : Nat, i = .int .i64 (k : Int) ∧ k ≤ L.length ∧ Ext w2 wr ∧ SliceOf rByte wr bv (packs (L.drop k))) (fun _ i _ _ _ _ => L.length - (intOf i).toNat)
      case atStart => exact ⟨0, rfl, by omega, Ext.refl _, Hbs.out⟩
      case round =>
        obtain ⟨k, rfl, hk2, hx3, hb3⟩ := hrel
        obtain ⟨ba, bc, rfl, hbl, hbm⟩ := len_of' hb3
        have Hb3 := Lib.hid hb3
        have Hx3 := Lib.hid hx3
        clear hb3 hx3
        by_cases hlt2 : k < L.length
        · obtain ⟨y, hly⟩ : ∃ y, L[k]? = some y := ⟨_, List.getElem?_eq_getElem hlt2⟩
          have hry : rightV y = true := by
            have := List.mem_of_getElem? hly
            rw [← HL.out] at this
            exact (List.mem_filter.1 this).2
          obtain ⟨g, o, p2, t2, z2, rfl, hat, hwf, hsz, hpts⟩ := (Hown6.out.slice).atValW hly
          obtain ⟨pa2, pc2, rfl, _, _⟩ := len_of' hpts.1
          obtain ⟨ta2, tc2, rfl, _, _⟩ := len_of' hpts.2.1
          obtain ⟨za2, zc2, rfl, _, _⟩ := len_of' hpts.2.2
          have hpk := packs_at hly
          have hun := unpack_pack hry (parts_wf hpts) (packs (L.drop (k + 1)))
          rw [← hpk] at hun
          have hres := resU_some hun
          have HAT := Lib.hid hat
          have Hpts := Lib.hid hpts
          have Hres := Lib.hid hres
          have hple := packV_le hry
          have hp3 := packV_three y
          obtain ⟨nn, hnn⟩ : ∃ n, (packV y).length = n := ⟨_, rfl⟩
          have Hdr : Hid ((packs (L.drop k)).drop nn = packs (L.drop (k + 1))) := Lib.hid (by rw [hpk, ← hnn]; simp)
          have Hlen2 : Hid ((packs (L.drop k)).length = nn + (packs (L.drop (k + 1))).length) := Lib.hid (by rw [hpk, List.length_append, hnn])
          have hbig : (packs (L.drop k)).length ≤ 100000000 := by
            have h1 := flat_le packV 4200000 (L.drop k) (fun q hq => packV_le (by
              have := List.mem_of_mem_drop hq
              rw [← HL.out] at this
              exact (List.mem_filter.1 this).2))
            have h2 : (L.drop k).length ≤ 10 := by simp; omega
            have h3 : (L.drop k).length * 4200000 ≤ 10 * 4200000 := Nat.mul_le_mul_right _ h2
            unfold packs
            omega
          rw [hnn] at hple hp3
          have Hbig := Lib.hid hbig
          have Hnn := Lib.hid hnn
          clear hat hpts hun hpk hly hres hbig hnn
          go_wp2_with fail
          refine (unpack_any _ _ _ Hb3.out Hbig.out).mono ?_
          rintro e w5 ⟨p, t, z, rfl, hpts1, _, _, hx5⟩
          rw [Hres.out, Hnn.out] at hpts1 ⊢
          simp only at hpts1 ⊢
          obtain ⟨pa, pc, rfl, _, _⟩ := len_of' hpts1.1
          obtain ⟨ta, tc, rfl, _, _⟩ := len_of' hpts1.2.1
          obtain ⟨za, zc, rfl, _, _⟩ := len_of' hpts1.2.2
          have Hx5 := Lib.hid (Hx3.out.then hx5)
          have hbx := vbox_new w5 rfl y (.slice pa y.pairs.length pc) (.slice ta y.texts.length tc) (.slice za y.zset.length zc) (ty := 30)
          have hxa : Ext w5 (w5.alloc (.cells #[.int .i64 y.kind, .string y.text, .slice pa y.pairs.length pc, .slice ta y.texts.length tc, .slice za y.zset.length zc] 30)) := (Ext.refl w5).alloc _
          have Hsl := Lib.hid ((slice_from Hb3.out (p := nn) (by have := Hlen2.out; omega) (by omega)).mono rByte_mono hx5)
          have Hpts1 := Lib.hid hpts1
          clear hpts1 hx5
          go_wp2_with fail
          generalize w5.alloc (.cells #[.int .i64 y.kind, .string y.text, .slice pa y.pairs.length pc, .slice ta y.texts.length tc, .slice za y.zset.length zc] 30) = W at hbx hxa ⊢
          have Hbx := Lib.hid hbx
          have Hxa := Lib.hid hxa
          have HW2 : Hid (Ext w2 W) := Lib.hid (Hx5.out.then hxa)
          have HatW : Hid (ValAt W g (o + k * 5) y _ _ _) := Lib.hid ⟨HW2.out.cell HAT.out.c0, HW2.out.cell HAT.out.c1, HW2.out.cell HAT.out.c2, HW2.out.cell HAT.out.c3, HW2.out.cell HAT.out.c4⟩
          clear hbx hxa
          refine wp_region_rely_lit rfl [some 56, some 57, some 58, some 59, some 60, some 61, some 62, some 63, some 64, some 65, some 66] rfl [[], [0], [1], [2], [2], [2], [2, 4, 5], [2, 6], [2, 3, 7], [2, 8], [2, 9]] (by kernel_rfl) (fun w' => Ext W w') Ext
            (fun i w' v => match i with
              | 0 => v = .bool true
              | 1 => v = .bool false
              | 2 => v = .bool false
              | 3 => v = .agg #[.int .i64 y.kind, .string y.text, .slice pa y.pairs.length pc, .slice ta y.texts.length tc, .slice za y.zset.length zc]
              | 4 => v = .slice (some ⟨g, o, none⟩) L.length sc
              | 5 => v = .int .i64 (k : Int)
              | 6 => v = .pointer (some ⟨g, o + k * 5, none⟩)
              | 7 => v = .agg #[.int .i64 y.kind, .string y.text, .slice pa2 y.pairs.length pc2, .slice ta2 y.texts.length tc2, .slice za2 y.zset.length zc2]
              | 8 => v = .bool true
              | 9 => v = .bool false
              | 10 => v = .bool false
              | _ => True) (fun i w1 w2 v _ h => h) ?_ ?_ ?_
          · exact (Ext.refl W).drew
          · refine ⟨?_, ?_, ?_, ?_, ?_, ?_, ?_, ?_, ?_, ?_, ?_, trivial⟩
            all_goals (intro vs w' hI hd)
            all_goals simp only [opsFor, actD, List.getD_cons_zero, List.getD_cons_succ, List.foldl_cons, List.foldl_nil, List.mem_cons, List.not_mem_nil, or_false, forall_eq_or_imp, forall_eq] at hd ⊢
            · go_wp2
              first | exact ⟨rfl, rfl, Ext.refl _, hI⟩ | exact ⟨rfl, trivial, Ext.refl _, hI⟩
            · go_wp2
              first | exact ⟨rfl, rfl, Ext.refl _, hI⟩ | exact ⟨rfl, trivial, Ext.refl _, hI⟩
            · go_wp2
              first | exact ⟨rfl, rfl, Ext.refl _, hI⟩ | exact ⟨rfl, trivial, Ext.refl _, hI⟩
            · obtain ⟨c0, c1, c2, c3, c4⟩ := Hbx.out.mono hI
              go_wp2
              exact ⟨rfl, rfl, Ext.refl _, hI⟩
            · go_wp2
              first | exact ⟨rfl, rfl, Ext.refl _, hI⟩ | exact ⟨rfl, trivial, Ext.refl _, hI⟩
            · go_wp2
              first | exact ⟨rfl, rfl, Ext.refl _, hI⟩ | exact ⟨rfl, trivial, Ext.refl _, hI⟩
            · go_wp2
              first | exact ⟨rfl, rfl, Ext.refl _, hI⟩ | exact ⟨rfl, trivial, Ext.refl _, hI⟩
            · obtain ⟨e0, e1, e2, e3, e4⟩ := HatW.out
              have d0 := hI.cell e0
              have d1 := hI.cell e1
              have d2 := hI.cell e2
              have d3 := hI.cell e3
              have d4 := hI.cell e4
              go_wp2
              exact ⟨rfl, rfl, Ext.refl _, hI⟩
            · go_wp2_with fail
              refine (same14 y y _ _ _ _ _ _ _ ((Hpts1.out.mono Hxa.out).mono hI) (Hpts.out.mono ((Hx2.out.then HW2.out).then hI))).mono ?_
              rintro e w9 ⟨rfl, hx9⟩
              rw [decide_eq_true (rfl : y = y)]
              go_wp2
              exact ⟨rfl, rfl, hx9, hI.then hx9⟩
            · go_wp2
              first | exact ⟨rfl, rfl, Ext.refl _, hI⟩ | exact ⟨rfl, trivial, Ext.refl _, hI⟩
            · go_wp2
              first | exact ⟨rfl, rfl, Ext.refl _, hI⟩ | exact ⟨rfl, trivial, Ext.refl _, hI⟩
          · intro vs w' hI hd
            simp only [actD, List.range, List.range.loop, List.foldl_cons, List.foldl_nil, List.length_cons, List.length_nil, List.getD_cons_zero, List.getD_cons_succ]
            rw [show vs 10 = Value.bool false from hd 10 (by decide)]
            clear hd
            have Hsl2 := Lib.hid ((Hsl.out.mono rByte_mono Hxa.out).mono rByte_mono hI)
            have HI := Lib.hid (HW2.out.then hI)
            have hnl : nn ≤ (packs (L.drop k)).length := by have := Hlen2.out; omega
            go_simp
            go_wp2_with fail
            refine ⟨⟨k + 1, by go_num, by omega, HI.out, ?_⟩, by simp [intOf]; omega⟩
            have h := Hsl2.out
            rw [Hdr.out, Nat.mul_one] at h
            exact h
        · obtain rfl : k = L.length := by omega
          have hz : packs (L.drop L.length) = [] := by rw [List.drop_length]; rfl
          have hzl : (packs (L.drop L.length)).length = 0 := by rw [hz]; rfl
          clear hz
          go_wp2
          go_ret
          exact ⟨rfl, Hx2.out.then Hx3.out⟩
end Go.Proofs.Ythclkljdnmokcaa
