/-
  Octets behind a string's octets: 'append([]byte(s), tail...)'.
-/
import Derived.Test.YthclkljdnmokcaaUnpack1
import Derived.Laws.IdiomStrings
import Derived.Laws.IdiomCopy
set_option linter.unusedVariables false
set_option linter.unusedSimpArgs false
namespace Go.Proofs.Ythclkljdnmokcaa
open Go.RowKit Go.Proofs

def byteV (b : UInt8) : Value := .int .u8 (b.toNat : Int)
/-- a new row of octets, with room -/
structure FreshB (w : World) (g cap : Nat) (l : List UInt8) : Prop where
  le : l.length ≤ cap
  max : cap ≤ maxLen
  cell : ∀ j, j < cap → (w.cell? ⟨g, j, none⟩).isSome = true
  fz : ∀ j, j < cap → w.frozen? ⟨g, j, none⟩ = false
  val : ∀ (j : Nat) (x : UInt8), l[j]? = some x → w.cell? ⟨g, j, none⟩ = some (byteV x)
  lt : g < w.heap.size
theorem fresh_of {W : World} {g cap : Nat} {cs : Array Value} {e : TypeId} {l : List UInt8} (hb : W.heap[g]? = some (.cells cs e (cap, cap + 1))) (hcs : cs.size = cap) (hl : l.length ≤ cap) (hm : cap ≤ maxLen) (hv : ∀ (j : Nat) (x : UInt8), l[j]? = some x → cs[j]? = some (byteV x)) : FreshB W g cap l :=
  ⟨hl, hm, fun j hj => by simp [World.cell?, hb, hcs, hj], fun j hj => by simp [World.frozen?, hb]; omega, fun j x hx => by simp [World.cell?, hb, hv j x hx], (Array.getElem?_eq_some_iff.1 hb).1⟩
theorem bytesRow_size (s : ByteArray) (cap : Nat) (h : s.size ≤ cap) : (bytesRow s cap).size = cap := by
  unfold bytesRow
  rw [Array.size_append, Array.size_map, Array.size_replicate]
  show s.size + (cap - s.size) = cap
  omega
theorem bytesRow_at (s : ByteArray) (cap : Nat) (j : Nat) (x : UInt8) (hx : s.toList[j]? = some x) : (bytesRow s cap)[j]? = some (byteV x) := by
  rw [ByteArray.toList_eq] at hx
  have hx2 : s.data[j]? = some x := by simpa using hx
  have hj := (Array.getElem?_eq_some_iff.1 hx2).1
  unfold bytesRow byteV
  rw [Array.getElem?_append_left (by rw [Array.size_map]; exact hj), Array.getElem?_map, hx2]
  rfl
theorem conv_fresh (w : World) (s : ByteArray) (hs : s.size ≤ maxLen) {e : TypeId} : FreshB (w.drew.alloc (.cells (bytesRow s (grownCap w s.size 0 e)) e ((bytesRow s (grownCap w s.size 0 e)).size, (bytesRow s (grownCap w s.size 0 e)).size + 1))) w.heap.size (grownCap w s.size 0 e) s.toList := by
  have hge := grownCap_ge w s.size 0 e
  have hsz := bytesRow_size s _ hge
  refine fresh_of (cs := bytesRow s (grownCap w s.size 0 e)) (e := e) ?_ hsz (by rw [bsize]; exact hge) (grownCap_le_maxLen w s.size 0 e hs) (fun j x hx => bytesRow_at s _ j x hx)
  rw [hsz]
  exact heap_alloc_new w.drew _
theorem rows_bytes {w : World} {a : Option Addr} {n cap : Nat} {m : List UInt8} (hu : SliceOf rByte w (.slice a n cap) m) (ad : Addr) (ha : a = some ad) : ∀ j v, (m.map byteV)[j]? = some v → w.cell? (ad.add j) = some v := by
  intro j v hv
  rw [List.getElem?_map] at hv
  cases hm : m[j]? with
  | none => rw [hm] at hv; cases hv
  | some x =>
    rw [hm] at hv
    cases hv
    obtain ⟨g, o, u, ea, hc, hr⟩ := hu.at1 rfl hm
    rw [ha] at ea
    cases ea
    cases hr
    rw [Addr.add_lit]
    exact hc
theorem setCells_ext {w0 w : World} (h : Ext w0 w) {g : Nat} (hg : w0.heap.size ≤ g) (us : List Value) (j : Nat) : Ext w0 (w.setCells g j us) := Ext.setCells hg us h
theorem fresh_append {P : Program} (w : World) (g cap : Nat) (l m : List UInt8) (hf : FreshB w g cap l) (u : Value) (hu : SliceOf rByte w u m) (t ty e : TypeId) (i : TypeInfo) (ht : P.underlying t = some (.slice e)) (hi : P.info? e = some i) (hz : i.zero = some (.int .u8 0)) (hsize : i.size = 1) (hby : i.bytes = 1) (hsm : l.length + m.length ≤ 100000000) :
    ∃ v' w', (Builtin.append_ #[t, t] ty #[.slice (some ⟨g, 0, none⟩) l.length cap, u]).run P w = .ok v' w' ∧ SliceOf rByte w' v' (l ++ m) ∧ ∀ w0 : World, Ext w0 w → w0.heap.size ≤ g → Ext w0 w' := by
  obtain ⟨a, uc, rfl, _, _⟩ := len_of' hu
  have hslice : SliceOf rByte w (.slice (some ⟨g, 0, none⟩) l.length cap) l := by
    refine ⟨_, _, rfl, hf.le, hf.max, (fun h => by cases h), fun _ => ⟨g, 0, rfl, hf.lt, fun j x hx => ⟨[byteV x], rfl, fun k hk => ?_, rfl⟩⟩⟩
    obtain rfl : k = 0 := by have : rByte.size = 1 := rfl; omega
    have := hf.val j x hx
    show w.cell? ⟨g, 0 + j * 1 + 0, none⟩ = some (byteV x)
    rw [show 0 + j * 1 + 0 = j by omega]
    exact this
  by_cases hm0 : m = []
  · subst hm0
    refine ⟨_, w, ?_, by rw [List.append_nil]; exact hslice, fun w0 h _ => h⟩
    have hle := hf.le
    cases a with
    | none => simp [Builtin.append_, run_underlying ht, sizeOf, typeInfo, hi, Builtin.lenOf, hle, Builtin.firstCells, storeCells]
    | some ad => simp [Builtin.append_, run_underlying ht, sizeOf, typeInfo, hi, hsize, Builtin.lenOf, hle, Builtin.firstCells, loadCells, loadCellsFrom, storeCells]
  · obtain ⟨ad, rfl⟩ : ∃ ad, a = some ad := by
      obtain ⟨_, _, e1, _, _, _, h4⟩ := id hu
      obtain ⟨g', o', e2, _⟩ := h4 hm0
      injection e1 with e3 e4 e5
      exact ⟨_, e3.trans e2⟩
    have hnews := rows_bytes hu ad rfl
    have holds := rows_bytes hslice ⟨g, 0, none⟩ rfl
    by_cases hroom : l.length + m.length ≤ cap
    · have hfc := run_firstCells_some (P := P) w i.size m.length ad m.length uc (m.map byteV) (by rw [hsize]; simp) hnews
      have hst := run_storeCells_cells (P := P) g l.length (m.map byteV) 0 w (fun j hj => by
          have : j < m.length := by simpa using hj
          exact hf.cell _ (by omega)) (fun j hj => by
          have : j < m.length := by simpa using hj
          exact hf.fz _ (by omega)) (fun v hv => by
          obtain ⟨x, _, rfl⟩ := List.mem_map.1 hv
          rfl)
      rw [Nat.add_zero] at hst
      refine ⟨.slice (some ⟨g, 0, none⟩) (l.length + m.length) cap, w.setCells g l.length (m.map byteV), ?_, ?_, fun w0 h hg => setCells_ext h hg _ _⟩
      · simp [Builtin.append_, run_underlying ht, sizeOf, typeInfo, hi, hsize, Builtin.lenOf, hroom, Addr.add_lit]
        rw [hsize] at hfc
        simp [hfc, hst]
      · refine ⟨_, _, by rw [List.length_append], by rw [List.length_append]; exact hroom, hf.max, (fun h => by cases h), fun _ => ⟨g, 0, rfl, by rw [size_setCells]; exact hf.lt, fun j x hx => ⟨[byteV x], rfl, fun k hk => ?_, rfl⟩⟩⟩
        obtain rfl : k = 0 := by have : rByte.size = 1 := rfl; omega
        show (w.setCells g l.length (m.map byteV)).cell? ⟨g, 0 + j * 1 + 0, none⟩ = some (byteV x)
        rw [show 0 + j * 1 + 0 = j by omega]
        by_cases hj : j < l.length
        · rw [List.getElem?_append_left hj] at hx
          rw [World.cell?_setCells_out g (m.map byteV) l.length w ⟨g, j, none⟩ (fun _ _ => .inl hj)]
          exact hf.val j x hx
        · rw [List.getElem?_append_right (by omega)] at hx
          have hjm := (List.getElem?_eq_some_iff.1 hx)
          obtain ⟨hlt, hxe⟩ := hjm
          have h := World.cell?_setCells_in g (m.map byteV) l.length w (fun q hq => hf.cell _ (by have : q < m.length := (by simpa using hq); omega)) (j - l.length) (by simpa using hlt)
          rw [show l.length + (j - l.length) = j by omega] at h
          rw [h]
          simp [hxe]
    · have hr := run_append_grow (P := P) w t ty e i (.int .u8 0) ht hi hz ⟨g, 0, none⟩ l.length cap (l.map byteV) (by rw [hsize]; simp) holds ad m.length uc (m.map byteV) (by rw [hsize]; simp) hnews (by omega) (by omega) (growslice_fits (by omega) (by rw [hby]; omega))
      have hge := grownCap_ge w (l.length + m.length) cap e
      have hmx := grownCap_le_maxLen w (l.length + m.length) cap e (by unfold maxLen; omega)
      refine ⟨_, _, hr, ?_, fun w0 h _ => h.drew.alloc _⟩
      refine sliceOf_heap (heap_alloc_new w.drew _) (l ++ m) (by rw [List.length_append]) hge hmx fun j x hx => ⟨[byteV x], rfl, fun k hk => ?_, rfl⟩
      obtain rfl : k = 0 := by have : rByte.size = 1 := rfl; omega
      have hj := (List.getElem?_eq_some_iff.1 hx).1
      rw [List.length_append] at hj
      show ((l.map byteV).toArray ++ (m.map byteV).toArray ++ _)[0 + j * 1 + 0]? = some (byteV x)
      rw [show 0 + j * 1 + 0 = j by omega, Array.getElem?_append_left (by simp; omega)]
      have e1 : (l.map byteV).toArray ++ (m.map byteV).toArray = ((l ++ m).map byteV).toArray := by simp
      rw [e1, List.getElem?_toArray, List.getElem?_map, hx]
      rfl
/-- .. as an operation of a plain region -/
theorem conv_append_law {P : Program} {w : World} {ops : Array Oper} {rest : List Oper} {o : Oper} {a : Act} {Q : Exit → Act → World → Prop} {t e : TypeId} (hgd : o.guard = none) (s x : Operand)
    (ho : o.op = .call { callee := .builtin .append, args := #[s, x], argTypes := #[t, t] }) (E : El P t e 1 1) (hz : ∀ i, P.info? e = some i → i.zero = some (.int .u8 0))
    (g cap : Nat) (l m : List UInt8) (hs : a.eval s = .slice (some ⟨g, 0, none⟩) l.length cap) (hf : FreshB w g cap l) (u : Value) (hx : a.eval x = u) (hu : SliceOf rByte w u m) (hsm : l.length + m.length ≤ 100000000)
    (h : ∀ v' w', SliceOf rByte w' v' (l ++ m) → (∀ w0 : World, Ext w0 w → w0.heap.size ≤ g → Ext w0 w') → wpList P ops Q rest (a.put o.dst v') w') : wpList P ops Q (o :: rest) a w := by
  obtain ⟨i, z, hi, hz0, hsize, hby, hzs⟩ := E.info
  obtain ⟨v', w', hr, h1, h2⟩ := fresh_append (P := P) w g cap l m hf u hu t o.type e i E.und hi (hz i hi) hsize hby hsm
  refine wpList_plain hgd fun K hK => ?_
  unfold Oper.wp execOp
  simp only [ho, resolve, invoke, builtin, Sem.run_bind, Sem.run_pure, Result.andThen_ok, List.map_toArray, List.map_cons, List.map_nil, hs, hx, hr]
  exact hK _ _ (h v' w' h1 h2)
end Go.Proofs.Ythclkljdnmokcaa
