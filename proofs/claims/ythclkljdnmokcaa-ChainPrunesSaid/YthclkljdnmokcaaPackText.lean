/-
  value.packed: texts laid; walked.
-/
import Derived.Test.YthclkljdnmokcaaPacked
import Derived.Lib.AppendStr
set_option linter.unusedVariables false
set_option linter.unusedSimpArgs false
namespace Go.Proofs.Ythclkljdnmokcaa
open Go.RowKit Go.Proofs

theorem bsz (s : ByteArray) : s.toList.length = s.size := by rw [ByteArray.toList_eq]; simp
/-- append of a text's octets -/
theorem append_str {P : Program} {w : World} {ops : Array Oper} {rest : List Oper} {o : Oper} {a : Act} {Q : Exit → Act → World → Prop} {t u e : TypeId} {base : Nat} (hgd : o.guard = none) (s x : Operand)
    (ho : o.op = .call { callee := .builtin .append, args := #[s, x], argTypes := #[t, u] }) (i : TypeInfo) (ht : P.underlying t = some (.slice e)) (hu : P.underlying u = some .string) (hi : P.info? e = some i) (hz : i.zero = some (.int .u8 0)) (hsize : i.size = 1) (hby : i.bytes = 1)
    (v : Value) (l : List UInt8) (hs : a.eval s = v) (hown : Own rByte base e w v l) (str : ByteArray) (hx : a.eval x = .string str)
    (h63 : l.length + str.size ≤ maxLen) (hbytes : l.length + str.size ≤ 140737488355328) (hbase : base ≤ w.heap.size)
    (h : ∀ v' w', Own rByte base e w' v' (l ++ str.toList) → w.grownBy w' v.ownBlock → wpList P ops Q rest (a.put o.dst v') w') : wpList P ops Q (o :: rest) a w := by
  obtain ⟨cells, howns, hrows⟩ := hown
  refine Lib.wpList_append_own_string w hgd s x t u ho base e i ht hu hi hz hsize hby v _ cells hs howns str hx h63 hbytes hbase fun v' w' ho' hg' _ => ?_
  have hsz := bsz str
  refine h v' w' ⟨cells ++ Lib.strCells str, ?_, ?_⟩ hg'
  · rw [List.length_append, hsz]; exact ho'
  · refine RowsOf.append (hrows.keep fun cs y hy hr => hr) ⟨by rw [Lib.strCells_length, hsz]; exact (Nat.mul_one _).symm, fun j y hy => ?_⟩
    show _ = _
    have e1 : (Lib.strCells str)[j]? = some (.int .u8 (y.toNat : Int)) := by
      rw [ByteArray.toList_eq] at hy
      simp [Lib.strCells, hy]
    have e2 : rByte.size = 1 := rfl
    rw [e2, Nat.mul_one]
    obtain ⟨h1, h2⟩ := List.getElem?_eq_some_iff.1 e1
    rw [List.drop_eq_getElem_cons h1, h2]
    rfl
/-- texts, each with its length ahead -/
def textsB (ss : List ByteArray) : List UInt8 := (ss.map fun s => octets (s.size : Int) 2 ++ s.toList).flatten
theorem textsB_snoc (ss : List ByteArray) (s : ByteArray) : textsB (ss ++ [s]) = textsB ss ++ (octets (s.size : Int) 2 ++ s.toList) := by simp [textsB]
theorem textsB_take (ss : List ByteArray) (k : Nat) : (textsB (ss.take k)).length ≤ (textsB ss).length := by
  have h : textsB ss = textsB (ss.take k) ++ textsB (ss.drop k) := by
    conv => lhs; rw [← List.take_append_drop k ss]
    unfold textsB; rw [List.map_append, List.flatten_append]
  rw [h, List.length_append]
  omega
theorem octets_length (n : Int) (k : Nat) : (octets n k).length = k := by simp [octets]
set_option maxRecDepth 100000 in
set_option maxHeartbeats 2000000 in
theorem text_any (g : Nat) (l : List UInt8) (v sv : Value) (ss : List ByteArray) (w0 w : World) (hst : PackSt g w0 w l v) (hss : ∀ w', FrT g w w' → Ext w0 w' → SliceOf rStr w' sv ss) (hl : l.length + (textsB ss).length ≤ 100000000) (hl2 : ss.length ≤ 1000000) :
    Calls Try.prog 75 #[.pointer (some ⟨g, 0, none⟩), sv] w fun e w' => (∃ u, e = .returned u) ∧ ∃ v', PackSt g w0 w' (l ++ textsB ss) v' ∧ FrT g w w' := by
  obtain ⟨a, cap, rfl, hle, hm, _, _⟩ := id (hss w (FrT.refl _ _) hst.ext)
  unfold maxLen at hm
  obtain ⟨i, hi1, hi2, hi3, hi4⟩ := info_parts (P := Try.prog) (e := 5) (z := .int .u8 0) (size := 1) (bytes := 1) rfl
  have Hss := Lib.hid hss
  have Hi1 := Lib.hid hi1
  have Hi2 := Lib.hid hi2
  have Hi3 := Lib.hid hi3
  have Hi4 := Lib.hid hi4
  clear hss hi1 hi2 hi3 hi4
  go_enter Try.func75, Try.ntmps75
  go_wp2_with fail
  go_loopw [5, 8] (fun _ j wr => ∃ (k : Nat) (u : Value), j = .int .i64 (k : Int) ∧ k ≤ ss.length ∧ PackSt g w0 wr (l ++ textsB (ss.take k)) u ∧ FrT g w wr) (fun _ j _ => ss.length - (intOf j).toNat)
  case atStart => exact ⟨0, v, rfl, by omega, by simpa [textsB] using hst, FrT.refl _ _⟩
  case round =>
    obtain ⟨k, u, rfl, hk, hst', hfr⟩ := hrel
    have Hst := Lib.hid hst'
    have Hfr := Lib.hid hfr
    clear hst' hfr hst
    by_cases hlt : k < ss.length
    · have hsr := Hss.out wr Hfr.out Hst.out.ext
      obtain ⟨s, hs⟩ : ∃ s, ss[k]? = some s := ⟨_, List.getElem?_eq_getElem hlt⟩
      obtain ⟨g2, o2, y, rfl, hu, hy⟩ := hsr.at1 rfl hs
      have hy1 := hy.1
      have hy2 := hy.2
      obtain rfl : y = .string s := by simpa using hy1
      have htk : textsB (ss.take (k + 1)) = textsB (ss.take k) ++ (octets (s.size : Int) 2 ++ s.toList) := by
        rw [List.take_add_one, hs]; exact textsB_snoc _ _
      have Htk := Lib.hid htk
      have hle1 := textsB_take ss (k + 1)
      rw [htk] at hle1
      simp only [List.length_append, octets_length, bsz] at hle1
      have HL : Hid ((l ++ textsB (ss.take k)).length ≤ 100000000) := Lib.hid (by rw [List.length_append]; omega)
      have HS : Hid ((l ++ textsB (ss.take k) ++ octets (s.size : Int) 2).length + s.size ≤ 100000000) := Lib.hid (by rw [List.length_append, List.length_append, octets_length]; omega)
      have HF : Hid (-9223372036854775808 ≤ (s.size : Int) ∧ (s.size : Int) ≤ 9223372036854775807) := Lib.hid (by omega)
      unfold maxLen at hy2
      clear hy hy1 hs htk hsr hle1
      go_wp2_with fail
      refine (number_any g _ u (s.size : Int) 2 w0 _ Hst.out HF.out (by omega) HL.out).mono ?_
      rintro e w1 ⟨⟨x, rfl⟩, v1, hst1, hfr1⟩
      have Hst1 := Lib.hid hst1
      have c0 := hst1.cell
      have f0 := hst1.fz
      have hne : some g ≠ v1.ownBlock := fun e => by have := hst1.own.lt g e.symm; omega
      have hlow := hst1.lt
      have HA : Hid ((l ++ textsB (ss.take k) ++ octets (s.size : Int) 2).length + s.size ≤ maxLen) := Lib.hid (by have := HS.out; unfold maxLen; omega)
      have HB : Hid ((l ++ textsB (ss.take k) ++ octets (s.size : Int) 2).length + s.size ≤ 140737488355328) := Lib.hid (by have := HS.out; omega)
      clear hst1
      go_wp2_with (at_builtin; (refine append_str rfl (.tmp 20) (.tmp 21) rfl i Try.underlying38 Try.underlying9 Hi1.out Hi2.out Hi3.out Hi4.out v1 _ rfl Hst1.out.own s rfl HA.out HB.out (by omega) ?_); intro v2 w2 hown2 hgrow; obtain ⟨A2, C2, hv2, _, _, _, _⟩ := id hown2.slice; subst hv2; obtain ⟨q1, q2, q3⟩ : SatS g v1 w2 := (show SatS g v1 w1 from ⟨c0, f0, hlow⟩).grown hgrow hne)
      simp only [List.length_append, Nat.add_assoc] at hown2
      have hx2 : Ext w0 w2 := Hst1.out.ext.grown hgrow Hst1.out.ext.size (fun q hq => by have := Hst1.out.own.lt q hq; have := Hst1.out.low; omega)
      have Hx2 := Lib.hid hx2
      refine ⟨⟨k + 1, _, by go_num, by omega, ⟨World.cell?_setCell_same' _ _ _ (by rw [q1]; rfl), by rw [← q2]; exact World.frozen?_setCell .., ?_, Hst1.out.low, by simpa using q3, Below.setCell Hx2.out (p := ⟨g, 0, none⟩) Hst1.out.low _⟩, ((Hfr.out.trans hfr1).trans (FrT.grown Hst1.out.own hgrow)).trans (FrT.box _ _ _ _)⟩, by simp [intOf]; omega⟩
      have e : l ++ textsB (ss.take (k + 1)) = l ++ textsB (ss.take k) ++ octets (s.size : Int) 2 ++ s.toList := by rw [Htk.out]; simp
      rw [e]
      exact hown2.far (fun _ _ _ _ h => h) (fun e => by have := hown2.lt g e; omega) _
    · obtain rfl : k = ss.length := by omega
      have h1 := Hst.out
      rw [List.take_length] at h1
      have H1 := Lib.hid h1
      clear h1
      go_wp2_with fail
      refine bodyPost_end (results_none rfl _ _ _) rfl ?_
      exact ⟨⟨_, rfl⟩, u, H1.out, Hfr.out⟩
end Go.Proofs.Ythclkljdnmokcaa
