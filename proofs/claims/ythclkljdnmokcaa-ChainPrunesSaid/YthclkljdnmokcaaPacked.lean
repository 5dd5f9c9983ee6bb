/-
  value.packed: octets that grow; walked.
-/
import Derived.Test.YthclkljdnmokcaaClone
import Derived.Deep.RegionHeld3
import Derived.Deep.AppendLies
import Derived.Deep.DrawnRows
set_option linter.unusedVariables false
set_option linter.unusedSimpArgs false
namespace Go.Proofs.Ythclkljdnmokcaa
open Go.RowKit Go.Proofs
attribute [local go_sem ↓] Go.wp_at_zero Go.wp_at_succ

/-- append to a slice of the call's own, at a step of a region that draws its order -/
theorem step_append_own {P : Program} {w : World} {ops : Array Oper} {o : Oper} {a : Act} {K : Act → World → Prop} {Q : Exit → Act → World → Prop} {F : Prop} {α : Type} {r : Rep α} {t e : TypeId} {bytes base : Nat} (hgd : o.guard = none) (s x : Operand)
    (ho : o.op = .call { callee := .builtin .append, args := #[s, x], argTypes := #[t, t] }) (E : El P t e r.size bytes) (h1 : r.One) (hf : r.Flat)
    (v : Value) (l : List α) (hs : a.eval s = v) (hown : Own r base e w v l) (u : Value) (m : List α) (hx : a.eval x = u) (hsrc : SliceOf r w u m) (hm : 0 < m.length)
    (h63 : l.length + m.length ≤ maxLen) (hbytes : (l.length + m.length) * bytes ≤ 140737488355328) (hbase : base ≤ w.heap.size)
    (h : ∀ v' w', Own r base e w' v' (l ++ m) → w.grownBy w' v.ownBlock → (v'.ownBlock = v.ownBlock ∨ v'.ownBlock = some w.heap.size) → K (a.put o.dst v') w') :
    if Region.wanted o (yielded ops a.tmps) = true then Oper.wp P o a w K Q else F := by
  obtain ⟨i, z, hi, hz, hsize, hby, hzs⟩ := E.info
  obtain ⟨cells, howns, hrows⟩ := hown
  rcases hsrc.rows E.pos with ⟨rfl, rfl⟩ | ⟨ad, cap, news, rfl, hle, hmm, hnr, hcell⟩
  · simp at hm
  · have hone : ∀ u ∈ news, u.oneCell' = true := fun u hu => by
      obtain ⟨j, hj, rfl⟩ := List.getElem_of_mem hu
      have hq : j / r.size < m.length := Nat.div_lt_of_lt_mul (by rw [Nat.mul_comm, ← hnr.1]; exact hj)
      have h2 := hnr.2 (j / r.size) _ (List.getElem?_eq_getElem hq)
      refine (h1 _ _ _ h2).2 _ ?_
      have hmod := Nat.mod_lt j E.pos
      have hdm := Nat.div_add_mod j r.size
      rw [Nat.mul_comm] at hdm
      refine List.mem_of_getElem? (i := j % r.size) ?_
      rw [List.getElem?_take_of_lt hmod, List.getElem?_drop, hdm, List.getElem?_eq_getElem hj]
    refine step_append_lies w hgd s x t ho base e i z r.size bytes E.und hi hz hsize hby hzs E.pos v _ cells hs howns ad _ cap news hx hnr.1 hcell hone hm h63 hbytes hbase _ rfl fun g cap' w' ho' hg' hb' _ => ?_
    refine h _ w' ⟨cells ++ news, ?_, ?_⟩ hg' (hb'.elim (fun e => .inl e.symm) (fun e => .inr (by rw [e]; rfl)))
    · rw [List.length_append]; exact ho'
    · exact RowsOf.append (hrows.keep fun cs y hy hr => hf _ _ _ _ hr) (hnr.keep fun cs y hy hr => hf _ _ _ _ hr)
/-- a number's octet -/
def octet (n : Int) (i : Nat) : UInt8 := UInt8.ofNat ((n / 2 ^ (8 * i)) % 256).toNat
theorem octet_wrap (n : Int) (k : Nat) : IntKind.u8.wrap (n / 2 ^ (8 * k)) = ((octet n k).toNat : Int) := by
  unfold octet
  generalize n / 2 ^ (8 * k) = q
  rw [UInt8.toNat_ofNat']
  have h : IntKind.u8.wrap q = q % 256 := by simp [IntKind.wrap, IntKind.signed, IntKind.bits]
  rw [h]
  omega
/-- what a step needs of the box -/
def SatS (g : Nat) (u : Value) (w : World) : Prop := w.cell? ⟨g, 0, none⟩ = some u ∧ w.frozen? ⟨g, 0, none⟩ = false ∧ g < w.heap.size
theorem SatS.ext {g : Nat} {u : Value} {w w' : World} (h : SatS g u w) (hx : Ext w w') : SatS g u w' := by
  obtain ⟨h1, h2, h3⟩ := h
  refine ⟨hx.cell h1, ?_, Nat.lt_of_lt_of_le h3 hx.size⟩
  rw [← h2]
  exact World.frozen?_of_block (hx.block g h3)
theorem SatS.grown {g : Nat} {u : Value} {w w' : World} {row : Option Nat} (h : SatS g u w) (hg : w.grownBy w' row) (hne : some g ≠ row) : SatS g u w' := by
  obtain ⟨h1, h2, h3⟩ := h
  exact ⟨by rw [hg.cell_far ⟨g, 0, none⟩ h3 hne]; exact h1, by rw [hg.frozen_far ⟨g, 0, none⟩ h3 hne]; exact h2, Nat.lt_of_lt_of_le h3 hg.size⟩
theorem one_byte {G : Nat} (w : World) (hg : G = w.heap.size) (n : Int) (k : Nat) {ty : TypeId} : SliceOf rByte (w.alloc (.cells #[.int .u8 ((octet n k).toNat : Int)] ty)) (.slice (some ⟨G, 0, none⟩) 1 1) [octet n k] :=
  sliceOf_one rfl w hg _ ty _ rfl
/-- the octets of a number, from the highest on: those from size - 1 down to k -/
def octets (n : Int) (size : Nat) : List UInt8 := ((List.range size).map (octet n)).reverse
theorem octets_step (n : Int) (size : Nat) : octets n (size + 1) = octet n size :: octets n size := by
  unfold octets
  rw [List.range_succ, List.map_append, List.reverse_append]
  rfl
theorem el_B : El Try.prog 38 5 1 1 := El.mk' (z := .int .u8 0) Try.underlying38 (by kernel_rfl) rfl (by decide)
/-- the octets so far, behind a pointer -/
structure PackSt (g : Nat) (w0 w : World) (l : List UInt8) (v : Value) : Prop where
  cell : w.cell? ⟨g, 0, none⟩ = some v
  fz : w.frozen? ⟨g, 0, none⟩ = false
  own : Own rByte (g + 1) 5 w v l
  low : w0.heap.size ≤ g
  lt : g < w.heap.size
  ext : Ext w0 w
/-- blocks that hold no octets are left as they were, but one -/
def FrT (g : Nat) (w w' : World) : Prop :=
  w.heap.size ≤ w'.heap.size ∧ ∀ b, b < w.heap.size → b ≠ g → (∀ cs fr, w.heap[b]? ≠ some (.cells cs 5 fr)) → w'.heap[b]? = w.heap[b]?
theorem FrT.refl (g : Nat) (w : World) : FrT g w w := ⟨Nat.le_refl _, fun _ _ _ _ => rfl⟩
theorem FrT.trans {g : Nat} {w w2 w3 : World} (h : FrT g w w2) (k : FrT g w2 w3) : FrT g w w3 := by
  obtain ⟨h1, h2⟩ := h
  obtain ⟨k1, k2⟩ := k
  refine ⟨Nat.le_trans h1 k1, fun b hb hg hn => ?_⟩
  have e := h2 b hb hg hn
  rw [k2 b (by omega) hg (by rw [e]; exact hn), e]
theorem FrT.ext {g : Nat} {w w' : World} (hx : Ext w w') : FrT g w w' := ⟨hx.size, fun b hb _ _ => hx.block b hb⟩
theorem FrT.grown {g base : Nat} {v : Value} {w w' : World} {l : List UInt8} (hown : Own rByte base 5 w v l) (hg : w.grownBy w' v.ownBlock) : FrT g w w' :=
  ⟨hg.size, fun b hlt _ hn => hg.block b hlt (fun e => by
    obtain ⟨cells, ho, _⟩ := hown
    rcases ho.2 with ⟨h1, _⟩ | ⟨g', cap, cur, h1, _, h2, _⟩
    · rw [h1] at e; cases e
    · rw [h1] at e
      cases e
      exact hn _ _ h2)⟩
theorem FrT.box (g i : Nat) (x : Value) (w : World) : FrT g w (w.setCell ⟨g, i, none⟩ x) := ⟨by simp, fun b _ hb _ => Below.heap_setCell _ _ _ _ hb⟩
set_option maxRecDepth 100000 in
set_option maxHeartbeats 2000000 in
theorem number_any (g : Nat) (l : List UInt8) (v : Value) (n : Int) (size : Nat) (w0 w : World) (hst : PackSt g w0 w l v) (hn : -9223372036854775808 ≤ n ∧ n ≤ 9223372036854775807) (hs : size ≤ 8) (hl : l.length ≤ 100000000) :
    Calls Try.prog 74 #[.pointer (some ⟨g, 0, none⟩), .int .i64 n, .int .i64 (size : Int)] w fun e w' => (∃ u, e = .returned u) ∧ ∃ v', PackSt g w0 w' (l ++ octets n size) v' ∧ FrT g w w' := by
  obtain ⟨hn1, hn2⟩ := hn
  go_enter Try.func74, Try.ntmps74
  go_wp2_with fail
  go_loopw [6] (fun i wr => ∃ (k : Nat) (M : List UInt8) (u : Value), i = .int .i64 ((k : Int) - 1) ∧ k ≤ size ∧ PackSt g w0 wr M u ∧ FrT g w wr ∧ M.length + k = l.length + size ∧ M ++ octets n k = l ++ octets n size) (fun i _ => (intOf i + 1).toNat)
  case atStart => exact ⟨size, l, v, rfl, by omega, hst, FrT.refl _ _, rfl, rfl⟩
  case round =>
    obtain ⟨k', M, u, rfl, hk, hst', hfr, hlen, hM⟩ := hrel
    have Hfr := Lib.hid hfr
    have HM := Lib.hid hM
    have Hst := Lib.hid hst'
    clear hM hst hst' hfr
    by_cases hk0 : k' = 0
    · subst hk0
      go_wp2_with fail
      refine bodyPost_end (results_none rfl _ _ _) rfl ?_
      refine ⟨⟨_, rfl⟩, u, ?_, Hfr.out⟩
      have h1 := HM.out
      have h2 : octets n 0 = [] := rfl
      rw [h2, List.append_nil] at h1
      rw [← h1]
      exact Hst.out
    · obtain ⟨k, rfl⟩ : ∃ k, k' = k + 1 := ⟨k' - 1, by omega⟩
      have hke : ((k + 1 : Nat) : Int) - 1 = (k : Int) := by omega
      rw [hke]
      have c0 := Hst.out.cell
      have f0 := Hst.out.fz
      clear hke hk0
      have hlt := Hst.out.lt
      have h8 : (8 : Int) * (k : Int) ≤ 56 := by omega
      have hwr : IntKind.i64.wrap (8 * (k : Int)) = ((8 * k : Nat) : Int) := by rw [IntWalk.i64_in _ (by omega)]; omega
      have hkp : (8 * (k : Int)).toNat = 8 * k := by omega
      have hoc : IntKind.u8.wrap (n / 2 ^ (8 * k)) = ((octet n k).toNat : Int) := octet_wrap n k
      have hne : some g ≠ u.ownBlock := fun e => by have := Hst.out.own.lt g e.symm; omega
      have hSr : SatS g u wr := ⟨c0, f0, hlt⟩
      have HSr := Lib.hid hSr
      have HA : Hid (M.length + [octet n k].length ≤ maxLen) := Lib.hid (by unfold maxLen; simp; omega)
      have HB : Hid ((M.length + [octet n k].length) * 1 ≤ 140737488355328) := Lib.hid (by simp; omega)
      clear hSr
      go_wp2_with fail
      have hnn := World.new_ne wr _ c0
      go_region_law ((refine step_append_own (by rfl) (.tmp 17) (.tmp 23) (by rfl) el_B rByte_one (fun _ _ _ _ h => h) u M (by rfl) (Hst.out.own.mono rByte_mono (by first | exact ((Ext.refl wr).alloc _).drew | exact (Ext.refl wr).drew.alloc _)) _ [octet n k] (by rfl) (by first | exact (one_byte wr rfl n k).mono rByte_mono (Ext.refl _).drew | exact one_byte wr.drew rfl n k) (by simp) HA.out HB.out (by simp; omega) ?_; intro v1 w1 hown1 hgrow hnew; obtain ⟨A1, C1, hv1, _, _, _, _⟩ := id hown1.slice; subst hv1; obtain ⟨q1, q2, q3⟩ : SatS g u w1 := (HSr.out.ext (((Ext.refl wr).alloc _).drew)).grown hgrow hne; have hxr : Ext w0 w1 := (Hst.out.ext.then (((Ext.refl wr).alloc _).drew)).grown hgrow (Hst.out.ext.then (((Ext.refl wr).alloc _).drew)).size (fun q hq => by have := Hst.out.own.lt q hq; have := Hst.out.low; omega)))
      all_goals
        go_wp2
        have hown2 : Own rByte (g + 1) 5 w1 (.slice A1 (M.length + 1) C1) (M ++ [octet n k]) := by
          have e : (M ++ [octet n k]).length = M.length + 1 := by simp
          rw [e] at hown1
          exact hown1
        refine ⟨⟨k, M ++ [octet n k], _, rfl, by omega, ⟨World.cell?_setCell_same' _ _ _ (by rw [q1]; rfl), ?_, hown2.far (fun _ _ _ _ h => h) (fun e => by have := hown2.lt g e; omega) _, Hst.out.low, by simpa using q3, Below.setCell hxr (p := ⟨g, 0, none⟩) Hst.out.low _⟩, (Hfr.out.trans ((FrT.ext (((Ext.refl wr).alloc _).drew)).trans (FrT.grown (Hst.out.own.mono rByte_mono (((Ext.refl wr).alloc _).drew)) hgrow))).trans (FrT.box _ _ _ _), by simp; omega, ?_⟩, by simp [intOf]⟩
        · rw [← q2]; exact World.frozen?_setCell ..
        · have h1 := HM.out
          rw [octets_step] at h1
          rw [List.append_assoc]
          exact h1
end Go.Proofs.Ythclkljdnmokcaa
