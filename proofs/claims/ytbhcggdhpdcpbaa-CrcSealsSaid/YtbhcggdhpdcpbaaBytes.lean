/-
  slices.Clone and slices.Equal at []byte.
-/
import Derived.Test.YtbhcggdhpdcpbaaProg
import Derived.Test.YtbhcggdhpdcpbaaLib
import Derived.WalkKit
import Derived.WalkSpells
import Derived.WalkLawsBesides
import Derived.BigQuiet
import Derived.Deep.QuietTactic
import Derived.Lib.Hide
import Derived.Outline
namespace Go.Proofs.Ytbhcggdhpdcpbaa
open Go.RowKit Go.Proofs

theorem take_succ_get {α : Type} (l : List α) (k : Nat) (h : k < l.length) : l.take (k + 1) = l.take k ++ [l[k]] := by
  rw [List.take_succ_eq_append_getElem h]

theorem el_bytes : El Try.prog 24 5 1 1 := El.mk' (z := .int .u8 0) Try.underlying24 (by kernel_rfl) rfl (by decide)

/-- bytes as a text -/
def bstr (l : List UInt8) : ByteArray := ⟨l.toArray⟩
theorem bstr_toList (l : List UInt8) : (bstr l).toList = l := by rw [ByteArray.toList_eq]; rfl
theorem bstr_size (l : List UInt8) : (bstr l).size = l.length := by simp [bstr, ByteArray.size]
theorem strOfNums_bytes (l : List UInt8) : strOfNums (l.map fun (b : UInt8) => (b.toNat : Int)) = bstr l := by
  unfold bstr strOfNums
  congr 1
  rw [List.map_map]
  have : ((fun (n : Int) => UInt8.ofNat n.toNat) ∘ fun (b : UInt8) => (b.toNat : Int)) = id := by
    funext b
    simp
  rw [this, List.map_id]
theorem conv_bytes {w : World} {v : Value} {l : List UInt8} (hv : SliceOf rByte w v l) : (convert 24 9 v).run Try.prog w = .ok (.string (bstr l)) w := by
  rcases hv.cells1 rfl with ⟨rfl, a, cap, rfl, _, h0⟩ | ⟨hne, g, o, cap, rfl, hle, hm, hg, hc⟩
  · cases a with
    | none => exact run_convert_bytes_nil w _ 5 Try.underlying24 Try.underlying5 0 cap _ Try.underlying9
    | some ad =>
      rw [run_convert_bytes_string w _ _ _ _ _ _ Try.underlying24 Try.underlying5 Try.underlying9]
      simp [Conv.bytesToString, loadCells, loadCellsFrom]
      rfl
  · rw [run_convert_bytes_arg w _ 5 Try.underlying24 Try.underlying5 g o l.length cap (l.map fun (b : UInt8) => (b.toNat : Int)) (by simp) (fun i hi => ?_) _ Try.underlying9, strOfNums_bytes]
    obtain ⟨u, hu, hu'⟩ := hc i _ (List.getElem?_eq_getElem hi)
    have hu'' : [u] = [Value.int .u8 (l[i].toNat : Int)] := hu'
    obtain rfl : u = .int .u8 (l[i].toNat : Int) := by simpa using hu''
    rw [hu]
    simp [List.getD, hi]

set_option maxRecDepth 100000 in
set_option maxHeartbeats 400000 in
theorem clone_bytes (v : Value) (l : List UInt8) (w : World) (hv : SliceOf rByte w v l) (hl : l.length ≤ 140737488355328) :
    Calls Try.prog 38 #[v] w (RetOwn rByte 5 w l) := by
  obtain ⟨a, cap, rfl, hle, hm, h0, _⟩ := id hv
  have hnil := fun (w : World) (a : Option Addr) (n c n' c' : Nat) => Lib.run_eql_slice_nil (P := Try.prog) w 24 5 a n c n' c' Try.underlying24
  clear hm
  cases a with
  | none =>
    obtain rfl := h0 rfl
    obtain rfl : l = [] := List.eq_nil_of_length_eq_zero (by omega)
    go_enter Try.func38, Try.ntmps38
    go_wp2
    go_ret
    exact ⟨_, rfl, Own.nil _ _ _ _, Ext.refl _⟩
  | some ad =>
    have hA : ([] : List UInt8).length + l.length ≤ maxLen := by unfold maxLen; simp; omega
    have hB : (([] : List UInt8).length + l.length) * 1 ≤ 140737488355328 := by simp; omega
    have HA := Lib.hid hA
    have HB := Lib.hid hB
    clear hA hB h0
    go_enter Try.func38, Try.ntmps38
    go_wp2_with (at_builtin; go_loud (refine append_law rfl (.tmp 5) (.tmp 6) rfl el_bytes rByte_one _ _ rfl (Own.lit0 rByte 5 w rfl (Nat.le_refl _)) _ l rfl (hv.mono rByte_mono ((Ext.refl _).alloc _)) (fun _ _ _ _ _ h => h) HA.out HB.out (by simp) ?_); intro v' w' hown' hg')
    go_ret
    refine ⟨_, rfl, hown', ?_⟩
    exact ((Ext.refl w).alloc _).grown hg' (by simp) (by intro k hk; cases hk; exact Nat.le_refl _)

set_option maxRecDepth 100000 in
set_option maxHeartbeats 400000 in
theorem equal_bytes (v v2 : Value) (l l2 : List UInt8) (w : World) (hv : SliceOf rByte w v l) (hv2 : SliceOf rByte w v2 l2) :
    Calls Try.prog 39 #[v, v2] w fun e w' => e = .returned (.bool (decide (l = l2))) ∧ Ext w w' := by
  obtain ⟨a, cap, rfl, hle, hm, h0, _⟩ := id hv
  obtain ⟨a2, cap2, rfl, hle2, hm2, h02, _⟩ := id hv2
  unfold maxLen at hm hm2
  by_cases hlen : l.length = l2.length
  · have hne : ((l.length : Int) != (l2.length : Int)) = false := by rw [hlen]; simp
    have Hlen := Lib.hid hlen
    have hlle : l.length ≤ l2.length := by omega
    clear hlen h0 h02
    go_enter Try.func39, Try.ntmps39
    go_wp2
    go_loopw [13] (fun i wr => ∃ k : Nat, k ≤ l.length ∧ i = .int .i64 k ∧ l.take k = l2.take k ∧ Ext w wr) (fun i _ => l.length - (intOf i).toNat)
    case atStart => exact ⟨0, by omega, rfl, by simp, Ext.refl _⟩
    case round =>
      obtain ⟨k, hk, rfl, heq, hx⟩ := hrel
      have Heq := Lib.hid heq
      clear heq
      by_cases hlt : k < l.length
      · obtain ⟨g, o, u, rfl, hu, hu'⟩ := (hv.mono rByte_mono hx).at1 rfl (List.getElem?_eq_getElem hlt)
        obtain ⟨g2, o2, u2, rfl, hu2, hu2'⟩ := (hv2.mono rByte_mono hx).at1 rfl (List.getElem?_eq_getElem (show k < l2.length by omega))
        have hu'' : [u] = [Value.int .u8 (l[k].toNat : Int)] := hu'
        have hu2'' : [u2] = [Value.int .u8 (l2[k].toNat : Int)] := hu2'
        obtain rfl : u = .int .u8 (l[k].toNat : Int) := by simpa using hu''
        obtain rfl : u2 = .int .u8 (l2[k].toNat : Int) := by simpa using hu2''
        clear hu' hu2' hu'' hu2''
        have Hts := Lib.hid (take_succ_get l k hlt)
        have Hts2 := Lib.hid (take_succ_get l2 k (by omega))
        generalize l[k] = b at hu Hts
        generalize l2[k] = b2 at hu2 Hts2
        have hbb := b.toNat_lt
        have hbb2 := b2.toNat_lt
        by_cases hb : b = b2
        · subst hb
          have ht : ((b.toNat : Int) != (b.toNat : Int)) = false := by simp
          go_wp2
          go_quiet (fail)
          go_wp2
          refine ⟨⟨k + 1, by omega, by go_num, by rw [Hts.out, Hts2.out, Heq.out], hx.drewN _⟩, by simp [intOf]; omega⟩
        · have ht : ((b.toNat : Int) != (b2.toNat : Int)) = true := by
            simp only [bne_iff_ne, ne_eq]
            intro h
            exact hb (UInt8.toNat_inj.1 (by omega))
          have Hb := Lib.hid hb
          clear hb
          go_wp2
          go_quiet (fail)
          go_wp2
          go_ret
          refine ⟨?_, hx.drewN _⟩
          have hno : l ≠ l2 := fun e => Hb.out (by
            have h1 := Hts.out
            rw [e, Hts2.out] at h1
            have := List.append_inj_right' h1 rfl
            simpa using this.symm)
          rw [decide_eq_false hno]
          rfl
      · go_wp2
        go_ret
        refine ⟨?_, hx⟩
        have : l = l2 := by
          have h1 := Heq.out
          have h2 := Hlen.out
          rwa [List.take_of_length_le (by omega), List.take_of_length_le (by omega)] at h1
        rw [decide_eq_true this]
        rfl
  · have hne : ((l.length : Int) != (l2.length : Int)) = true := by
      simp only [bne_iff_ne, ne_eq]; omega
    have hno : decide (l = l2) = false := decide_eq_false fun e => hlen (by rw [e])
    have Hno := Lib.hid hno
    clear hlen hno h0 h02
    go_enter Try.func39, Try.ntmps39
    go_wp2
    go_ret
    exact ⟨by rw [Hno.out]; rfl, Ext.refl _⟩
end Go.Proofs.Ytbhcggdhpdcpbaa
