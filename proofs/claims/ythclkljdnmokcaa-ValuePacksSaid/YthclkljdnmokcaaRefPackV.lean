/-
  The reference's Pack of a right value, walked.
-/
import Derived.Test.YthclkljdnmokcaaName
set_option linter.unusedVariables false
set_option linter.unusedSimpArgs false
namespace Go.Proofs.Ythclkljdnmokcaa
open Go.RowKit Go.Proofs

theorem pairsB_take {P : List (ByteArray × ByteArray)} {k : Nat} {y : ByteArray × ByteArray} (hy : P[k]? = some y) : pairsB (P.take (k + 1)) = pairsB (P.take k) ++ textsB [y.1, y.2] := by
  obtain ⟨h1, h2⟩ := List.getElem?_eq_some_iff.1 hy
  unfold pairsB
  rw [← List.take_append_getElem h1, h2, List.map_append, List.flatten_append]
  try simp
theorem textsB_take1 {T : List ByteArray} {k : Nat} {y : ByteArray} (hy : T[k]? = some y) : textsB (T.take (k + 1)) = textsB (T.take k) ++ textsB [y] := by
  obtain ⟨h1, h2⟩ := List.getElem?_eq_some_iff.1 hy
  unfold textsB
  rw [← List.take_append_getElem h1, h2, List.map_append, List.flatten_append]
  try simp
theorem zsetB_take {Z : List (Int × ByteArray)} {k : Nat} {y : Int × ByteArray} (hy : Z[k]? = some y) : zsetB (Z.take (k + 1)) = zsetB (Z.take k) ++ (octets y.1 8 ++ textsB [y.2]) := by
  obtain ⟨h1, h2⟩ := List.getElem?_eq_some_iff.1 hy
  unfold zsetB
  rw [← List.take_append_getElem h1, h2, List.map_append, List.flatten_append]
  try simp
theorem texts_pair (a b : ByteArray) : textsB [a, b] = textsB [a] ++ textsB [b] := by rw [textB_two, textB_one, textB_one]
theorem flat_len_take {α : Type} (f : α → List UInt8) (l : List α) (k : Nat) : ((l.take k).map f).flatten.length ≤ (l.map f).flatten.length := by
  conv => rhs; rw [← List.take_append_drop k l]
  rw [List.map_append, List.flatten_append, List.length_append]
  omega
set_option maxRecDepth 100000 in
set_option maxHeartbeats 1000000 in
theorem refpack_str (s : ByteArray) (p t z : Value) (w : World) (hs : s.size ≤ 4096) :
    Calls Try.prog 30 #[.agg #[.int .i64 1, .string s, p, t, z]] w fun e w' => e = .returned (.string (bstr (octets 1 1 ++ textsB [s]))) ∧ Ext w w' := by
  have hw : IntKind.u8.wrap 1 = ((octet 1 0).toNat : Int) := by decide
  have hc := conv_bytes (bytes_new (w.alloc (.cells #[.int .i64 1, .string s, p, t, z] 30)) (g := w.heap.size + 1) (by simp) [octet 1 0] 1 rfl (by decide) (ty := 5) (cs := #[.int .u8 ((octet 1 0).toNat : Int)]) rfl)
  obtain ⟨c0, c1, _, _, _⟩ := (vbox_new w rfl ⟨1, s, [], [], []⟩ p t z (ty := 30))
  have hx0 : Ext w ((w.alloc (.cells #[.int .i64 1, .string s, p, t, z] 30)).alloc (.cells #[.int .u8 ((octet 1 0).toNat : Int)] 5)) := ((Ext.refl w).alloc _).alloc _
  have c0' := ((Ext.refl (w.alloc (.cells #[.int .i64 1, .string s, p, t, z] 30))).alloc (.cells #[.int .u8 ((octet 1 0).toNat : Int)] 5)).cell c0
  have c1' := ((Ext.refl (w.alloc (.cells #[.int .i64 1, .string s, p, t, z] 30))).alloc (.cells #[.int .u8 ((octet 1 0).toNat : Int)] 5)).cell c1
  have hz1 : (bstr [octet 1 0]).size = 1 := by rw [bstr_size]; rfl
  have hz2 : (bstr (textsB [s])).size = 2 + s.size := by rw [bstr_size, textB_one, encT_length]
  have hle : 1 + (2 + s.size) ≤ 9223372036854775807 := by omega
  have hcat : bstr [octet 1 0] ++ bstr (textsB [s]) = bstr (octets 1 1 ++ textsB [s]) := by rw [bstr_append]; rfl
  go_enter Try.func30, Try.ntmps30
  go_wp2_with fail
  refine (reftext_any s _ (by omega)).mono ?_
  rintro e w1 ⟨rfl, hx1⟩
  go_wp2
  go_ret
  exact ⟨by first | rfl | rw [hcat], hx0.then hx1⟩
set_option maxRecDepth 100000 in
set_option maxHeartbeats 4000000 in
theorem refpack_any (x : Val) (p t z : Value) (w : World) (hx : Parts w p t z x) (hk : (Lit.int .i64 x.kind).wf = true) (hts : x.text.size ≤ maxLen) (hr : rightV x = true) :
    Calls Try.prog 30 #[.agg #[.int .i64 x.kind, .string x.text, p, t, z]] w fun e w' => e = .returned (.string (bstr (packV x))) ∧ Ext w w' := by
  have hple := packV_le hr
  have hkinds : 0 < x.kind ∧ x.kind ≤ 5 ∧ (x.kind = 1 → x.text.size ≤ 4096) ∧ x.pairs.length ≤ 512 ∧ x.texts.length ≤ 512 ∧ x.zset.length ≤ 512 ∧ (∀ y ∈ x.pairs, y.1.size ≤ 4096 ∧ y.2.size ≤ 4096) ∧ (∀ y ∈ x.texts, y.size ≤ 4096) ∧ (∀ y ∈ x.zset, y.2.size ≤ 4096) := by
    rcases right_kinds hr with r | r | r | r
    · have hp := r.p; have ht := r.t; have hz := r.z
      exact ⟨by have := r.k; omega, by have := r.k; omega, fun _ => r.s, by rw [hp]; simp, by rw [ht]; simp, by rw [hz]; simp, by rw [hp]; simp, by rw [ht]; simp, by rw [hz]; simp⟩
    · have ht := r.t; have hz := r.z
      exact ⟨by have := r.k; omega, by have := r.k; omega, fun h => by have := r.k; omega, r.m, by rw [ht]; simp, by rw [hz]; simp, r.s, by rw [ht]; simp, by rw [hz]; simp⟩
    · have hp := r.p; have hz := r.z
      exact ⟨by have := r.k; omega, by have := r.k; omega, fun h => by have := r.k; omega, by rw [hp]; simp, r.m, by rw [hz]; simp, by rw [hp]; simp, r.s, by rw [hz]; simp⟩
    · have hp := r.p; have ht := r.t
      exact ⟨by have := r.k; omega, by have := r.k; omega, fun h => by have := r.k; omega, by rw [hp]; simp, by rw [ht]; simp, r.m, by rw [hp]; simp, by rw [ht]; simp, r.s⟩
  obtain ⟨hk0, hk6, hk1s, hn1, hn2, hn3, hs1, hs2, hs3⟩ := hkinds
  by_cases hk1 : x.kind = 1
  · have e : packV x = octets 1 1 ++ textsB [x.text] := if_pos hk1
    rw [e, hk1]
    exact refpack_str x.text p t z w (hk1s hk1)
  have hkk : (x.kind == 1) = false := beq_eq_false_iff_ne.2 hk1
  have hpk : packV x = octets x.kind 1 ++ (octets (sizeV x) 2 ++ (pairsB x.pairs ++ (textsB x.texts ++ zsetB x.zset))) := if_neg hk1
  have hsz : sizeV x = ((x.pairs.length + x.texts.length + x.zset.length : Nat) : Int) := by unfold sizeV; rw [if_neg hk1]; omega
  obtain ⟨pa, pc, rfl, hp1, hp2⟩ := len_of' hx.1
  obtain ⟨ta, tc, rfl, ht1, ht2⟩ := len_of' hx.2.1
  obtain ⟨za, zc, rfl, hz1, hz2⟩ := len_of' hx.2.2
  obtain ⟨S, hS⟩ : ∃ S, x.pairs.length + x.texts.length + x.zset.length = S := ⟨_, rfl⟩
  rw [hS] at hsz
  have hSl : S < 65536 := by omega
  have HPK := Lib.hid hpk
  have HX := Lib.hid hx
  have HPL : Hid ((pairsB x.pairs).length ≤ 4200000 ∧ (textsB x.texts).length ≤ 4200000 ∧ (zsetB x.zset).length ≤ 4200000) := Lib.hid (by rw [hpk] at hple; simp only [List.length_append] at hple; omega)
  have hw : IntKind.u8.wrap x.kind = ((octet x.kind 0).toNat : Int) := by
    have h0 := octet_wrap x.kind 0
    rw [show (2 : Int) ^ (8 * 0) = 1 by decide, Int.ediv_one] at h0
    exact h0
  have Hsz := Lib.hid hsz
  have Hs1 := Lib.hid hs1
  have Hs2 := Lib.hid hs2
  have Hs3 := Lib.hid hs3
  obtain ⟨K8, hK8⟩ : ∃ K8, ((octet x.kind 0).toNat : Int) = K8 := ⟨_, rfl⟩
  rw [hK8] at hw
  have hc := conv_bytes (bytes_new (w.alloc (.cells #[.int .i64 x.kind, .string x.text, .slice pa x.pairs.length pc, .slice ta x.texts.length tc, .slice za x.zset.length zc] 30)) (g := w.heap.size + 1) (by simp) [octet x.kind 0] 1 rfl (by decide) (ty := 5) (cs := #[.int .u8 K8]) (by rw [← hK8]; rfl))
  have hbx := vbox_new w rfl x (.slice pa x.pairs.length pc) (.slice ta x.texts.length tc) (.slice za x.zset.length zc) (ty := 30)
  have hx0 : Ext w ((w.alloc (.cells #[.int .i64 x.kind, .string x.text, .slice pa x.pairs.length pc, .slice ta x.texts.length tc, .slice za x.zset.length zc] 30)).alloc (.cells #[.int .u8 K8] 5)) := ((Ext.refl w).alloc _).alloc _
  have hbx2 := hbx.mono ((Ext.refl (w.alloc (.cells #[.int .i64 x.kind, .string x.text, .slice pa x.pairs.length pc, .slice ta x.texts.length tc, .slice za x.zset.length zc] 30))).alloc (.cells #[.int .u8 K8] 5))
  obtain ⟨c0, _, _, _, _⟩ := hbx
  obtain ⟨d0, d1, d2, d3, d4⟩ := id hbx2
  have Hbx2 := Lib.hid hbx2
  have Hx0 := Lib.hid hx0
  clear hk hx hpk hr hk1s hs1 hs2 hs3 hsz hS hK8 hbx2 hx0 hple
  go_enter Try.func30, Try.ntmps30
  go_wp2_with fail
  generalize (w.alloc (.cells #[.int .i64 x.kind, .string x.text, .slice pa x.pairs.length pc, .slice ta x.texts.length tc, .slice za x.zset.length zc] 30)).alloc (.cells #[.int .u8 K8] 5) = W0 at Hbx2 Hx0 d0 d1 d2 d3 d4 ⊢
  refine (refsize_any x _ _ _ _ (HX.out.mono Hx0.out) hts ⟨by omega, by omega, by omega⟩).mono ?_
  rintro e w1 ⟨rfl, hx1⟩
  rw [Hsz.out]
  have Hbx3 := Lib.hid (Hbx2.out.mono hx1)
  have Hx1 := Lib.hid (Hx0.out.then hx1)
  clear hx1 d0 d1 d2 d3 d4 c0
  go_wp2_with fail
  refine (two_any S _ hSl).mono ?_
  rintro e w2 ⟨rfl, hx2⟩
  have Hbx4 := Lib.hid (Hbx3.out.mono hx2)
  have Hx2 := Lib.hid (Hx1.out.then hx2)
  have hz1 : (bstr [octet x.kind 0]).size = 1 := by rw [bstr_size]; rfl
  have hz2 : (bstr (octets (S : Int) 2)).size = 2 := by rw [bstr_size, octets_length]
  have hcat : bstr [octet x.kind 0] ++ bstr (octets (S : Int) 2) = bstr (octets x.kind 1 ++ octets (S : Int) 2) := by rw [bstr_append]; rfl
  obtain ⟨M0, hM0⟩ : ∃ M, octets x.kind 1 ++ octets (S : Int) 2 = M := ⟨_, rfl⟩
  rw [hM0] at hcat
  have HM0 := Lib.hid hM0
  have hM0l : M0.length = 3 := by rw [← hM0]; simp [octets_length]
  clear hx2 hM0
  go_wp2_with fail
  clear hcat hz1 hz2 hc hw
  go_loopw [3, 4] (fun s i wr => ∃ k : Nat, i = .int .i64 (k : Int) ∧ k ≤ x.pairs.length ∧ s = .string (bstr (M0 ++ pairsB (x.pairs.take k))) ∧ Ext w2 wr) (fun _ i _ => x.pairs.length - (intOf i).toNat)
  case atStart => exact ⟨0, rfl, by omega, by simp [pairsB], Ext.refl _⟩
  case round =>
    obtain ⟨k, rfl, hkn, rfl, hx3⟩ := hrel
    have HbxR := Lib.hid (Hbx4.out.mono hx3)
    have Hx3 := Lib.hid (Hx2.out.then hx3)
    have Hext3 := Lib.hid hx3
    clear hx3
    obtain ⟨_, _, c2, _, _⟩ := HbxR.out
    by_cases hlt : k < x.pairs.length
    · obtain ⟨y, hy⟩ : ∃ y, x.pairs[k]? = some y := ⟨_, List.getElem?_eq_getElem hlt⟩
      obtain ⟨g, o, rfl, m1, m2, hy1, hy2⟩ := (HX.out.1.mono rPr_mono Hx3.out).atPr hy
      have hys := Hs1.out y (List.mem_of_getElem? hy)
      have htk := pairsB_take hy
      have hll := flat_len_take (fun p : ByteArray × ByteArray => textsB [p.1, p.2]) x.pairs k
      obtain ⟨y1, y2⟩ := y
      simp only at m1 m2 hy1 hy2 hys htk
      obtain ⟨M, hM⟩ : ∃ M, M0 ++ pairsB (x.pairs.take k) = M := ⟨_, rfl⟩
      have HMn : Hid (M0 ++ pairsB (x.pairs.take (k + 1)) = M ++ (textsB [y1] ++ textsB [y2])) := Lib.hid (by rw [htk, ← List.append_assoc, hM, texts_pair])
      have hMl : M.length ≤ 5000000 := by
        rw [← hM, List.length_append]
        have h1 := HPL.out.1
        have h2 : (pairsB (x.pairs.take k)).length ≤ (pairsB x.pairs).length := hll
        omega
      rw [hM]
      have hz1 : (bstr M).size = M.length := bstr_size _
      have hz2 : (bstr (textsB [y1])).size = 2 + y1.size := by rw [bstr_size, textB_one, encT_length]
      have hz3 : (bstr (M ++ textsB [y1])).size = M.length + (2 + y1.size) := by rw [bstr_size, List.length_append, textB_one, encT_length]
      have hz4 : (bstr (textsB [y2])).size = 2 + y2.size := by rw [bstr_size, textB_one, encT_length]
      have hc1 : bstr M ++ bstr (textsB [y1]) = bstr (M ++ textsB [y1]) := bstr_append _ _
      have hc2 : bstr (M ++ textsB [y1]) ++ bstr (textsB [y2]) = bstr (M ++ (textsB [y1] ++ textsB [y2])) := by rw [bstr_append, List.append_assoc]
      clear hM hll htk hy
      go_wp2_with fail
      refine wp_region_rely_lit rfl [some 32, some 33, some 34, some 35, some 36, some 37, some 38, some 39, some 40, some 41, some 42, some 43, some 44, some 45, some 46, some 47, some 48, some 3] rfl [[], [], [1], [], [2, 3], [4], [5], [6], [0, 7], [], [9], [], [10, 11], [12], [13], [14], [8, 15], [0, 16]] (by kernel_rfl) (fun w' => Ext wr w') Ext
        (fun i w' v => match i with
          | 0 => v = .string (bstr M)
          | 1 => v = .pointer (some ⟨w.heap.size, 2, none⟩)
          | 2 => v = .slice (some ⟨g, o, none⟩) x.pairs.length pc
          | 3 => v = .int .i64 (k : Int)
          | 4 => v = .pointer (some ⟨g, o + k * 2, none⟩)
          | 5 => v = .pointer (some ⟨g, o + k * 2, none⟩)
          | 6 => v = .string y1
          | 7 => v = .string (bstr (textsB [y1]))
          | 8 => v = .string (bstr (M ++ textsB [y1]))
          | 9 => v = .pointer (some ⟨w.heap.size, 2, none⟩)
          | 10 => v = .slice (some ⟨g, o, none⟩) x.pairs.length pc
          | 11 => v = .int .i64 (k : Int)
          | 12 => v = .pointer (some ⟨g, o + k * 2, none⟩)
          | 13 => v = .pointer (some ⟨g, o + k * 2 + 1, none⟩)
          | 14 => v = .string y2
          | 15 => v = .string (bstr (textsB [y2]))
          | 16 => v = .string (bstr (M ++ (textsB [y1] ++ textsB [y2])))
          | 17 => v = .string (bstr (M ++ (textsB [y1] ++ textsB [y2])))
          | _ => True) (fun i w1 w2 v _ h => h) ?_ ?_ ?_
      · exact (Ext.refl wr).drew
      · refine ⟨?_, ?_, ?_, ?_, ?_, ?_, ?_, ?_, ?_, ?_, ?_, ?_, ?_, ?_, ?_, ?_, ?_, ?_, trivial⟩
        all_goals (intro vs w' hI hd)
        all_goals simp only [opsFor, actD, List.getD_cons_zero, List.getD_cons_succ, List.foldl_cons, List.foldl_nil, List.mem_cons, List.not_mem_nil, or_false, forall_eq_or_imp, forall_eq] at hd ⊢
        · go_wp2
          first | exact ⟨rfl, rfl, Ext.refl _, hI⟩ | exact ⟨rfl, trivial, Ext.refl _, hI⟩
        · go_wp2
          first | exact ⟨rfl, rfl, Ext.refl _, hI⟩ | exact ⟨rfl, trivial, Ext.refl _, hI⟩
        · have e0 := hI.cell c2
          go_wp2
          exact ⟨rfl, rfl, Ext.refl _, hI⟩
        · go_wp2
          first | exact ⟨rfl, rfl, Ext.refl _, hI⟩ | exact ⟨rfl, trivial, Ext.refl _, hI⟩
        · go_wp2
          first | exact ⟨rfl, rfl, Ext.refl _, hI⟩ | exact ⟨rfl, trivial, Ext.refl _, hI⟩
        · go_wp2
          first | exact ⟨rfl, rfl, Ext.refl _, hI⟩ | exact ⟨rfl, trivial, Ext.refl _, hI⟩
        · have e0 := hI.cell m1
          go_wp2
          exact ⟨rfl, rfl, Ext.refl _, hI⟩
        · go_wp2_with fail
          refine (reftext_any y1 _ (by omega)).mono ?_
          rintro e w9 ⟨rfl, hx9⟩
          go_wp2
          exact ⟨rfl, rfl, hx9, hI.then hx9⟩
        · go_wp2
          first | exact ⟨rfl, rfl, Ext.refl _, hI⟩ | exact ⟨rfl, trivial, Ext.refl _, hI⟩
        · go_wp2
          first | exact ⟨rfl, rfl, Ext.refl _, hI⟩ | exact ⟨rfl, trivial, Ext.refl _, hI⟩
        · have e0 := hI.cell c2
          go_wp2
          exact ⟨rfl, rfl, Ext.refl _, hI⟩
        · go_wp2
          first | exact ⟨rfl, rfl, Ext.refl _, hI⟩ | exact ⟨rfl, trivial, Ext.refl _, hI⟩
        · go_wp2
          first | exact ⟨rfl, rfl, Ext.refl _, hI⟩ | exact ⟨rfl, trivial, Ext.refl _, hI⟩
        · go_wp2
          first | exact ⟨rfl, rfl, Ext.refl _, hI⟩ | exact ⟨rfl, trivial, Ext.refl _, hI⟩
        · have e0 := hI.cell m2
          go_wp2
          exact ⟨rfl, rfl, Ext.refl _, hI⟩
        · go_wp2_with fail
          refine (reftext_any y2 _ (by omega)).mono ?_
          rintro e w9 ⟨rfl, hx9⟩
          go_wp2
          exact ⟨rfl, rfl, hx9, hI.then hx9⟩
        · go_wp2
          first | exact ⟨rfl, rfl, Ext.refl _, hI⟩ | exact ⟨rfl, trivial, Ext.refl _, hI⟩
        · go_wp2
          first | exact ⟨rfl, rfl, Ext.refl _, hI⟩ | exact ⟨rfl, trivial, Ext.refl _, hI⟩
      · intro vs w' hI hd
        simp only [actD, List.range, List.range.loop, List.foldl_cons, List.foldl_nil, List.length_cons, List.length_nil, List.getD_cons_zero, List.getD_cons_succ]
        rw [show vs 17 = Value.string (bstr (M ++ (textsB [y1] ++ textsB [y2]))) from hd 17 (by decide)]
        clear hd
        go_simp
        go_wp2_with fail
        exact ⟨⟨k + 1, by go_num, by omega, by rw [HMn.out], ((Hext3.out).then hI)⟩, by simp [intOf]; omega⟩
    · obtain rfl : k = x.pairs.length := by omega
      rw [List.take_length]
      obtain ⟨M1, hM1⟩ : ∃ M, M0 ++ pairsB x.pairs = M := ⟨_, rfl⟩
      rw [hM1]
      have HM1 := Lib.hid hM1
      have hM1l : M1.length ≤ 4300000 := by rw [← hM1, List.length_append]; have := HPL.out.1; omega
      clear hM1 c2
      obtain ⟨_, _, c2, c3, c4⟩ := HbxR.out
      go_wp2_with fail
      clear c2 c3 c4
      go_loopw [3, 5] (fun s i wq => ∃ k : Nat, i = .int .i64 (k : Int) ∧ k ≤ x.texts.length ∧ s = .string (bstr (M1 ++ textsB (x.texts.take k))) ∧ Ext wr wq) (fun _ i _ => x.texts.length - (intOf i).toNat)
      case atStart => exact ⟨0, rfl, by omega, by simp [textsB], Ext.refl _⟩
      case round =>
        obtain ⟨k, rfl, hkn2, rfl, hx4⟩ := hrel
        have HbxQ := Lib.hid (HbxR.out.mono hx4)
        have Hx4 := Lib.hid (Hx3.out.then hx4)
        have Hext4 := Lib.hid hx4
        clear hx4
        obtain ⟨_, _, _, c3, c4⟩ := HbxQ.out
        by_cases hlt2 : k < x.texts.length
        · obtain ⟨y1, hy⟩ : ∃ y, x.texts[k]? = some y := ⟨_, List.getElem?_eq_getElem hlt2⟩
          obtain ⟨g, o, rfl, m1, hy1⟩ := (HX.out.2.1.mono rStr_mono Hx4.out).atS hy
          have hys := Hs2.out y1 (List.mem_of_getElem? hy)
          have htk := textsB_take1 hy
          have hll := flat_len_take (fun s : ByteArray => octets (s.size : Int) 2 ++ s.toList) x.texts k
          obtain ⟨M, hM⟩ : ∃ M, M1 ++ textsB (x.texts.take k) = M := ⟨_, rfl⟩
          have HMn : Hid (M1 ++ textsB (x.texts.take (k + 1)) = M ++ textsB [y1]) := Lib.hid (by rw [htk, ← List.append_assoc, hM])
          have hMl : M.length ≤ 9000000 := by
            rw [← hM, List.length_append]
            have h1 := HPL.out.2.1
            have h2 : (textsB (x.texts.take k)).length ≤ (textsB x.texts).length := hll
            omega
          rw [hM]
          have hz1 : (bstr M).size = M.length := bstr_size _
          have hz2 : (bstr (textsB [y1])).size = 2 + y1.size := by rw [bstr_size, textB_one, encT_length]
          have hc1 : bstr M ++ bstr (textsB [y1]) = bstr (M ++ textsB [y1]) := bstr_append _ _
          clear hM hll htk hy
          go_wp2_with fail
          refine (reftext_any y1 _ (by omega)).mono ?_
          rintro e w9 ⟨rfl, hx9⟩
          go_wp2_with fail
          exact ⟨⟨k + 1, by go_num, by omega, by rw [HMn.out], Hext4.out.then hx9⟩, by simp [intOf]; omega⟩
        · obtain rfl : k = x.texts.length := by omega
          rw [List.take_length]
          obtain ⟨M2, hM2⟩ : ∃ M, M1 ++ textsB x.texts = M := ⟨_, rfl⟩
          rw [hM2]
          have HM2 := Lib.hid hM2
          have hM2l : M2.length ≤ 9000000 := by rw [← hM2, List.length_append]; have := HPL.out.2.1; omega
          clear hM2
          go_wp2_with fail
          clear c3 c4
          go_loopw [3, 6] (fun s i wz => ∃ k : Nat, i = .int .i64 (k : Int) ∧ k ≤ x.zset.length ∧ s = .string (bstr (M2 ++ zsetB (x.zset.take k))) ∧ Ext wr wz) (fun _ i _ => x.zset.length - (intOf i).toNat)
          case atStart => exact ⟨0, rfl, by omega, by simp [zsetB], Ext.refl _⟩
          case round =>
            obtain ⟨k, rfl, hkn3, rfl, hx5⟩ := hrel
            have HbxZ := Lib.hid (HbxQ.out.mono hx5)
            have Hx5 := Lib.hid (Hx4.out.then hx5)
            have Hext5 := Lib.hid hx5
            clear hx5
            obtain ⟨_, _, _, _, c4⟩ := HbxZ.out
            by_cases hlt3 : k < x.zset.length
            · obtain ⟨y, hy⟩ : ∃ y, x.zset[k]? = some y := ⟨_, List.getElem?_eq_getElem hlt3⟩
              obtain ⟨g, o, rfl, m1, m2, hy1, hy2⟩ := (HX.out.2.2.mono rMb_mono Hx5.out).atMb hy
              have hys := Hs3.out y (List.mem_of_getElem? hy)
              have htk := zsetB_take hy
              have hll := flat_len_take (fun m : Int × ByteArray => octets m.1 8 ++ textsB [m.2]) x.zset k
              obtain ⟨y1, y2⟩ := y
              simp only at m1 m2 hy1 hy2 hys htk
              obtain ⟨M, hM⟩ : ∃ M, M2 ++ zsetB (x.zset.take k) = M := ⟨_, rfl⟩
              have HMn : Hid (M2 ++ zsetB (x.zset.take (k + 1)) = M ++ (octets y1 8 ++ textsB [y2])) := Lib.hid (by rw [htk, ← List.append_assoc, hM])
              have hMl : M.length ≤ 14000000 := by
                rw [← hM, List.length_append]
                have h1 := HPL.out.2.2
                have h2 : (zsetB (x.zset.take k)).length ≤ (zsetB x.zset).length := hll
                omega
              rw [hM]
              have Hy1 := Lib.hid hy1
              have hz1 : (bstr M).size = M.length := bstr_size _
              have hz2 : (bstr (octets y1 8)).size = 8 := by rw [bstr_size, octets_length]
              have hz3 : (bstr (M ++ octets y1 8)).size = M.length + 8 := by rw [bstr_size, List.length_append, octets_length]
              have hz4 : (bstr (textsB [y2])).size = 2 + y2.size := by rw [bstr_size, textB_one, encT_length]
              have hc1 : bstr M ++ bstr (octets y1 8) = bstr (M ++ octets y1 8) := bstr_append _ _
              have hc2 : bstr (M ++ octets y1 8) ++ bstr (textsB [y2]) = bstr (M ++ (octets y1 8 ++ textsB [y2])) := by rw [bstr_append, List.append_assoc]
              clear hM hll htk hy hy1
              go_wp2_with fail
              refine wp_region_rely_lit rfl [some 71, some 72, some 73, some 74, some 75, some 76, some 77, some 78, some 79, some 80, some 81, some 82, some 83, some 84, some 85, some 86, some 87, some 3] rfl [[], [], [1], [], [2, 3], [4], [5], [6], [0, 7], [], [9], [], [10, 11], [12], [13], [14], [8, 15], [0, 16]] (by kernel_rfl) (fun w' => Ext wr w') Ext
                (fun i w' v => match i with
                  | 0 => v = .string (bstr M)
                  | 1 => v = .pointer (some ⟨w.heap.size, 4, none⟩)
                  | 2 => v = .slice (some ⟨g, o, none⟩) x.zset.length zc
                  | 3 => v = .int .i64 (k : Int)
                  | 4 => v = .pointer (some ⟨g, o + k * 2, none⟩)
                  | 5 => v = .pointer (some ⟨g, o + k * 2, none⟩)
                  | 6 => v = .int .i64 y1
                  | 7 => v = .string (bstr (octets y1 8))
                  | 8 => v = .string (bstr (M ++ octets y1 8))
                  | 9 => v = .pointer (some ⟨w.heap.size, 4, none⟩)
                  | 10 => v = .slice (some ⟨g, o, none⟩) x.zset.length zc
                  | 11 => v = .int .i64 (k : Int)
                  | 12 => v = .pointer (some ⟨g, o + k * 2, none⟩)
                  | 13 => v = .pointer (some ⟨g, o + k * 2 + 1, none⟩)
                  | 14 => v = .string y2
                  | 15 => v = .string (bstr (textsB [y2]))
                  | 16 => v = .string (bstr (M ++ (octets y1 8 ++ textsB [y2])))
                  | 17 => v = .string (bstr (M ++ (octets y1 8 ++ textsB [y2])))
                  | _ => True) (fun i w1 w2 v _ h => h) ?_ ?_ ?_
              · exact (Ext.refl wr).drew
              · refine ⟨?_, ?_, ?_, ?_, ?_, ?_, ?_, ?_, ?_, ?_, ?_, ?_, ?_, ?_, ?_, ?_, ?_, ?_, trivial⟩
                all_goals (intro vs w' hI hd)
                all_goals simp only [opsFor, actD, List.getD_cons_zero, List.getD_cons_succ, List.foldl_cons, List.foldl_nil, List.mem_cons, List.not_mem_nil, or_false, forall_eq_or_imp, forall_eq] at hd ⊢
                · go_wp2
                  first | exact ⟨rfl, rfl, Ext.refl _, hI⟩ | exact ⟨rfl, trivial, Ext.refl _, hI⟩
                · go_wp2
                  first | exact ⟨rfl, rfl, Ext.refl _, hI⟩ | exact ⟨rfl, trivial, Ext.refl _, hI⟩
                · have e0 := hI.cell c4
                  go_wp2
                  exact ⟨rfl, rfl, Ext.refl _, hI⟩
                · go_wp2
                  first | exact ⟨rfl, rfl, Ext.refl _, hI⟩ | exact ⟨rfl, trivial, Ext.refl _, hI⟩
                · go_wp2
                  first | exact ⟨rfl, rfl, Ext.refl _, hI⟩ | exact ⟨rfl, trivial, Ext.refl _, hI⟩
                · go_wp2
                  first | exact ⟨rfl, rfl, Ext.refl _, hI⟩ | exact ⟨rfl, trivial, Ext.refl _, hI⟩
                · have e0 := hI.cell m1
                  go_wp2
                  exact ⟨rfl, rfl, Ext.refl _, hI⟩
                · go_wp2_with fail
                  refine (eight_any y1 _ Hy1.out).mono ?_
                  rintro e w9 ⟨rfl, hx9⟩
                  go_wp2
                  exact ⟨rfl, rfl, hx9, hI.then hx9⟩
                · go_wp2
                  first | exact ⟨rfl, rfl, Ext.refl _, hI⟩ | exact ⟨rfl, trivial, Ext.refl _, hI⟩
                · go_wp2
                  first | exact ⟨rfl, rfl, Ext.refl _, hI⟩ | exact ⟨rfl, trivial, Ext.refl _, hI⟩
                · have e0 := hI.cell c4
                  go_wp2
                  exact ⟨rfl, rfl, Ext.refl _, hI⟩
                · go_wp2
                  first | exact ⟨rfl, rfl, Ext.refl _, hI⟩ | exact ⟨rfl, trivial, Ext.refl _, hI⟩
                · go_wp2
                  first | exact ⟨rfl, rfl, Ext.refl _, hI⟩ | exact ⟨rfl, trivial, Ext.refl _, hI⟩
                · go_wp2
                  first | exact ⟨rfl, rfl, Ext.refl _, hI⟩ | exact ⟨rfl, trivial, Ext.refl _, hI⟩
                · have e0 := hI.cell m2
                  go_wp2
                  exact ⟨rfl, rfl, Ext.refl _, hI⟩
                · go_wp2_with fail
                  refine (reftext_any y2 _ (by omega)).mono ?_
                  rintro e w9 ⟨rfl, hx9⟩
                  go_wp2
                  exact ⟨rfl, rfl, hx9, hI.then hx9⟩
                · go_wp2
                  first | exact ⟨rfl, rfl, Ext.refl _, hI⟩ | exact ⟨rfl, trivial, Ext.refl _, hI⟩
                · go_wp2
                  first | exact ⟨rfl, rfl, Ext.refl _, hI⟩ | exact ⟨rfl, trivial, Ext.refl _, hI⟩
              · intro vs w' hI hd
                simp only [actD, List.range, List.range.loop, List.foldl_cons, List.foldl_nil, List.length_cons, List.length_nil, List.getD_cons_zero, List.getD_cons_succ]
                rw [show vs 17 = Value.string (bstr (M ++ (octets y1 8 ++ textsB [y2]))) from hd 17 (by decide)]
                clear hd
                go_simp
                go_wp2_with fail
                exact ⟨⟨k + 1, by go_num, by omega, by rw [HMn.out], ((Hext5.out).then hI)⟩, by simp [intOf]; omega⟩
            · obtain rfl : k = x.zset.length := by omega
              rw [List.take_length]
              go_wp2_with fail
              go_ret
              refine ⟨?_, Hx5.out⟩
              show Ending.returned (Value.string (bstr (M2 ++ zsetB x.zset))) = _
              rw [HPK.out, Hsz.out, ← HM2.out, ← HM1.out, ← HM0.out]
              simp only [List.append_assoc]
end Go.Proofs.Ythclkljdnmokcaa
