/-
  The statements' example (layer 14), walked.
-/
import Derived.Test.YthclkljdnmokcaaPackVal
import Derived.WalkKit
import Derived.WalkSpells
import Derived.WalkLawsBesides
import Derived.BigQuiet
import Derived.Deep.QuietTactic
import Derived.Lib.Hide
import Derived.Outline
set_option linter.unusedVariables false
set_option linter.unusedSimpArgs false
namespace Go.Proofs.Ythclkljdnmokcaa
open Go.RowKit Go.Proofs
def bstr (l : List UInt8) : ByteArray := ⟨l.toArray⟩
theorem bstr_toList (l : List UInt8) : (bstr l).toList = l := by rw [ByteArray.toList_eq]; rfl
theorem bstr_size (l : List UInt8) : (bstr l).size = l.length := by simp [bstr, ByteArray.size]
theorem strOfNums_bytes (l : List UInt8) : strOfNums (l.map fun (b : UInt8) => (b.toNat : Int)) = bstr l := by
  unfold bstr strOfNums
  congr 1
  rw [List.map_map]
  have : ((fun (n : Int) => UInt8.ofNat n.toNat) ∘ fun (b : UInt8) => (b.toNat : Int)) = id := by
    funext b
    simp
  rw [this, List.map_id]
theorem conv_bytes {w : World} {v : Value} {l : List UInt8} (hv : SliceOf rByte w v l) : (convert 38 9 v).run Try.prog w = .ok (.string (bstr l)) w := by
  rcases hv.cells1 rfl with ⟨rfl, a, cap, rfl, _, h0⟩ | ⟨hne, g, o, cap, rfl, hle, hm, hg, hc⟩
  · cases a with
    | none => exact run_convert_bytes_nil w _ 5 Try.underlying38 Try.underlying5 0 cap _ Try.underlying9
    | some ad =>
      rw [run_convert_bytes_string w _ _ _ _ _ _ Try.underlying38 Try.underlying5 Try.underlying9]
      simp [Conv.bytesToString, loadCells, loadCellsFrom]
      rfl
  · rw [run_convert_bytes_arg w _ 5 Try.underlying38 Try.underlying5 g o l.length cap (l.map fun (b : UInt8) => (b.toNat : Int)) (by simp) (fun i hi => ?_) _ Try.underlying9, strOfNums_bytes]
    obtain ⟨u, hu, hu'⟩ := hc i _ (List.getElem?_eq_getElem hi)
    have hu'' : [u] = [Value.int .u8 (l[i].toNat : Int)] := hu'
    obtain rfl : u = .int .u8 (l[i].toNat : Int) := by simpa using hu''
    rw [hu]
    simp [List.getD, hi]
set_option maxRecDepth 100000 in
set_option maxHeartbeats 2000000 in
theorem awake14 (w : World) :
    Calls Try.prog 16 #[] w fun e w' => e = .returned (.bool true) ∧ Ext w w' := by
  have Hb : Hid (octets 1 1 ++ textsB [⟨#[97, 98]⟩] = [1, 0, 2, 97, 98]) := Lib.hid (by decide +kernel)
  have hv : SliceOf rVal (w.alloc (.cells #[.int .i64 1, .string ⟨#[97, 98]⟩, .slice none 0 0, .slice none 0 0, .slice none 0 0] 30)) (.slice (some ⟨w.heap.size, 0, none⟩) 1 1) [⟨1, ⟨#[97, 98]⟩, [], [], []⟩] := by
    refine sliceOf_heap (heap_alloc_new w _) _ rfl (Nat.le_refl _) (by decide) fun j y hy => ?_
    obtain ⟨rfl, rfl⟩ : j = 0 ∧ (⟨1, ⟨#[97, 98]⟩, [], [], []⟩ : Val) = y := by cases j <;> simp_all
    refine ⟨_, rfl, fun i hi => ?_, ⟨_, _, _, rfl, by decide, by decide, sliceOf_nil _ _, sliceOf_nil _ _, sliceOf_nil _ _⟩⟩
    have hi' : i < 5 := hi
    match i, hi' with
    | 0, _ | 1, _ | 2, _ | 3, _ | 4, _ => rfl
  have Hv := Lib.hid hv
  have HB := Lib.hid (heap_alloc_new w (.cells #[.int .i64 1, .string ⟨#[97, 98]⟩, .slice none 0 0, .slice none 0 0, .slice none 0 0] 30))
  clear hv
  go_enter Try.func16, Try.ntmps16
  go_wp2_with fail
  refine (pack_str _ ⟨#[97, 98]⟩ _ Hv.out ⟨_, _, _, rfl, (cells_at (i := 0) HB.out rfl).1, (cells_at (i := 1) HB.out rfl).1, (cells_at (i := 2) HB.out rfl).1, (cells_at (i := 3) HB.out rfl).1, (cells_at (i := 4) HB.out rfl).1⟩ (by decide)).mono ?_
  rintro e w1 ⟨v1, rfl, hs1, hx1⟩
  rw [Hb.out] at hs1
  have hc := conv_bytes hs1
  have hq : ((bstr [1, 0, 2, 97, 98]).toList == [1, 0, 2, 97, 98]) = true := by rw [bstr_toList]; rfl
  clear Hv HB hs1
  go_wp2
  go_ret
  exact ⟨by first | rfl | simp, ((Ext.refl w).alloc _).then hx1⟩
end Go.Proofs.Ythclkljdnmokcaa
