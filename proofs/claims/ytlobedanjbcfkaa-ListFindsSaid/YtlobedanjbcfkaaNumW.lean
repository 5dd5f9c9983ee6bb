/-
  The walks of num's functions, and of the reference's.
-/
import Derived.Test.YtlobedanjbcfkaaProg
import Derived.Test.YtlobedanjbcfkaaLib
import Derived.Test.YtlobedanjbcfkaaNumMath
import Derived.WalkKit
import Derived.WalkSpells
import Derived.WalkLawsBesides
import Derived.BigQuiet
import Derived.Deep.QuietTactic
import Derived.Lib.Hide
import Derived.Outline
set_option linter.unusedVariables false
namespace Go.Proofs.Ytlobedanjbcfkaa
open Go.RowKit Go.Proofs

theorem tmod_neg10 (m : Nat) : (-(m : Int)).tmod 10 = -((m % 10 : Nat) : Int) := by rw [Int.neg_tmod]; rfl
theorem tdiv_neg10 (m : Nat) : (-(m : Int)).tdiv 10 = -((m / 10 : Nat) : Int) := by rw [Int.neg_tdiv]; rfl
theorem dig_byte (m : Nat) : ((UInt8.ofNat (48 + m % 10)).toNat : Int) = 48 + ((m % 10 : Nat) : Int) := by rw [UInt8.toNat_ofNat']; omega
theorem set_mid {α : Type} (P : List α) (y x : α) (L : List α) (k : Nat) (hk : P.length = k) : (P ++ [y] ++ L).set k x = P ++ x :: L := by
  subst hk
  simp
theorem snoc_of_ne {α : Type} {P : List α} (h : P ≠ []) : ∃ P' y, P = P' ++ [y] := ⟨P.dropLast, P.getLast h, (List.dropLast_concat_getLast h).symm⟩
theorem slice_array (g k : Nat) (hk : k < 20) (w : World) : (Instr.sliceAt 51 (.pointer (some ⟨g, 0, none⟩)) (some (.int .i64 (k : Int))) none none).run Try.prog w = .ok (.slice (some ⟨g, k, none⟩) (20 - k) (20 - k)) w := by
  have hlen : Try.prog.arrayLen 51 = 20 := by kernel_rfl
  have hel : Try.prog.elem 51 = 5 := by kernel_rfl
  have hsz : (sizeOf 5).run Try.prog w = .ok 1 w := by kernel_rfl
  rw [run_sliceAt_array_l w 51 ⟨g, 0, none⟩ (by rw [hlen, hel]; exact Try.underlying51) .i64 (k : Int) (by omega) (by rw [hlen]; omega), hel, hsz]
  simp only [Result.andThen_ok, hlen, slicedAt, Int.toNat_natCast, Nat.mul_one]
  rw [if_neg (by omega)]
  congr 2
  unfold Addr.add
  split
  · rename_i h; subst h; rfl
  · simp
/-- bytes as a text -/
def bstr (l : List UInt8) : ByteArray := ⟨l.toArray⟩
theorem bstr_toList (l : List UInt8) : (bstr l).toList = l := by rw [ByteArray.toList_eq]; rfl
theorem bstr_size (l : List UInt8) : (bstr l).size = l.length := by simp [bstr, ByteArray.size]
theorem strOfNums_bytes (l : List UInt8) : strOfNums (l.map fun (b : UInt8) => (b.toNat : Int)) = bstr l := by
  unfold bstr strOfNums
  congr 1
  rw [List.map_map]
  have : ((fun (n : Int) => UInt8.ofNat n.toNat) ∘ fun (b : UInt8) => (b.toNat : Int)) = id := by
    funext b
    simp
  rw [this, List.map_id]
theorem conv_bytes {w : World} {v : Value} {l : List UInt8} (hv : SliceOf rByte w v l) : (convert 52 9 v).run Try.prog w = .ok (.string (bstr l)) w := by
  rcases hv.cells1 rfl with ⟨rfl, a, cap, rfl, _, h0⟩ | ⟨hne, g, o, cap, rfl, hle, hm, hg, hc⟩
  · cases a with
    | none => exact run_convert_bytes_nil w _ 5 Try.underlying52 Try.underlying5 0 cap _ Try.underlying9
    | some ad =>
      rw [run_convert_bytes_string w _ _ _ _ _ _ Try.underlying52 Try.underlying5 Try.underlying9]
      simp [Conv.bytesToString, loadCells, loadCellsFrom]
      rfl
  · rw [run_convert_bytes_arg w _ 5 Try.underlying52 Try.underlying5 g o l.length cap (l.map fun (b : UInt8) => (b.toNat : Int)) (by simp) (fun i hi => ?_) _ Try.underlying9, strOfNums_bytes]
    obtain ⟨u, hu, hu'⟩ := hc i _ (List.getElem?_eq_getElem hi)
    have hu'' : [u] = [Value.int .u8 (l[i].toNat : Int)] := hu'
    obtain rfl : u = .int .u8 (l[i].toNat : Int) := by simpa using hu''
    rw [hu]
    simp [List.getD, hi]
/-- the state at the head of Print's loop -/
def PrintAt (n : Int) (w0 : World) (g : Nat) (at_ left : Value) (w : World) : Prop :=
  ∃ (m : Nat) (q : Int) (P L : List UInt8), at_ = .int .i64 (P.length : Int) ∧ left = .int .i64 q ∧ q.natAbs = m ∧ Fits q ∧ Blk w g (P ++ L) 51 ∧ P.length + L.length = 20 ∧
    dig n.natAbs = dig m ++ L ∧ (dig m).length + L.length ≤ 19 ∧ (n < 0 → q < 0) ∧ (0 ≤ n → 0 ≤ q) ∧ Ext w0 w
set_option maxRecDepth 100000 in
set_option maxHeartbeats 1000000 in
theorem print_any (n : Int) (w : World) (hn : Fits n) :
    Calls Try.prog 10 #[.int .i64 n] w fun e w' => e = .returned (.string (decS n)) ∧ Ext w w' := by
  have hn' := hn
  obtain ⟨hn1, hn2⟩ := hn
  go_enter Try.func10, Try.ntmps10
  go_wp2_with fail
  go_loopw [4, 5, 6] (fun a l d wr => PrintAt n w w.heap.size a l wr) (fun _ l _ _ => (intOf l).natAbs)
  case atStart =>
    refine ⟨n.natAbs, n, List.replicate 20 0, [], by simp, rfl, rfl, hn', heap_alloc_new w _, by simp, by simp, ?_, id, id, (Ext.refl w).alloc _⟩
    have := dig_le19 (m := n.natAbs) (by omega)
    simpa using this
  case round =>
    obtain ⟨m, q, P, L, rfl, rfl, hm, ⟨hq1, hq2⟩, hblk, hPL, hdig, hlen, hs1, hs2, hx⟩ := hrel
    have hdl : 0 < (dig m).length := List.length_pos_iff.2 (dig_ne m)
    obtain ⟨P', y, rfl⟩ : ∃ P' y, P = P' ++ [y] := by
      exact snoc_of_ne (by rintro rfl; simp at hPL; omega)
    have hPL' : P'.length + 1 + L.length = 20 := by simpa [Nat.add_assoc] using hPL
    have hcell := hblk.cell (i := P'.length) (x := y) (by simp)
    have hfz := hblk.frozen P'.length
    have hset := hblk.set P'.length (UInt8.ofNat (48 + m % 10))
    rw [set_mid P' y _ L _ rfl, dig_byte] at hset
    have hext2 := Below.setCell hx (p := ⟨w.heap.size, P'.length, none⟩) (Nat.le_refl _) (.int .u8 (48 + ((m % 10 : Nat) : Int)))
    have Hset := Lib.hid hset
    have Hext := Lib.hid hext2
    have Hdig := Lib.hid hdig
    have Hblk := Lib.hid hblk
    have hPl : ((P' ++ [y]).length : Int) = (P'.length : Int) + 1 := by simp
    rw [hPl]
    clear hset hext2 hdig hblk hPl hPL
    have hml : m % 10 < 10 := Nat.mod_lt _ (by omega)
    by_cases hneg : q < 0
    · obtain rfl : q = -(m : Int) := by omega
      have hmod := tmod_neg10 m
      have hdiv := tdiv_neg10 m
      generalize hd : m % 10 = d at hmod Hset Hext hml
      have Hd := Lib.hid hd
      clear hd hm
      by_cases hlast : m < 10
      · have hn0 : n < 0 := by
          by_cases h : n < 0
          · exact h
          · have := hs2 (by omega); omega
        have hd0 : 0 < d := by have := Hd.out; omega
        obtain ⟨P2, y2, rfl⟩ := snoc_of_ne (P := P') (by rintro rfl; simp at hPL'; omega)
        have hk : P2.length + 2 + L.length = 20 := by simpa [Nat.add_assoc] using hPL'
        have e0 : (P2 ++ [y2]).length = P2.length + 1 := by simp
        have hset1 := Hset.out
        have hext1 := Hext.out
        rw [e0] at hcell hfz hset1 hext1 hPL'
        rw [e0]
        clear Hset Hext e0
        have Hset := Lib.hid hset1
        have Hext := Lib.hid hext1
        clear hset1 hext1
        have hcell2 := Hblk.out.cell (i := P2.length) (x := y2) (by simp)
        have hfz2 := Hblk.out.frozen P2.length
        have hset2 := Hset.out.set P2.length 45
        have e1 : (P2 ++ [y2] ++ UInt8.ofNat (48 + d) :: L).set P2.length 45 = P2 ++ (45 :: UInt8.ofNat (48 + d) :: L) := by
          simp
        have e45 : (((45 : UInt8).toNat : Nat) : Int) = 45 := rfl
        rw [e1, e45] at hset2
        have hsl := hset2.slice P2.length (20 - P2.length) (20 - P2.length) (45 :: UInt8.ofNat (48 + d) :: L) (by simp; omega) (Nat.le_refl _) (by unfold maxLen; omega) (fun j x hx => by rw [List.getElem?_append_right (by omega)]; simpa using hx)
        have hconv := conv_bytes hsl
        have hsa := slice_array w.heap.size P2.length (by omega)
        have hext2 := Below.setCell Hext.out (p := ⟨w.heap.size, P2.length, none⟩) (Nat.le_refl _) (.int .u8 ((45 : UInt8).toNat : Int))
        rw [e45] at hext2
        have Hext2 := Lib.hid hext2
        have hdec : decL n = 45 :: UInt8.ofNat (48 + d) :: L := by
          have h1 := Hdig.out
          have h2 := Hd.out
          rw [Nat.mod_eq_of_lt hlast] at h2
          rw [dig_small hlast, h2] at h1
          unfold decL
          rw [if_pos hn0, h1]
          rfl
        have Hdec := Lib.hid hdec
        clear hsl hset2 e1 hext2 hdec e45
        go_wp2
        go_ret
        refine ⟨?_, Hext2.out⟩
        show Ending.returned (Value.string _) = _
        unfold decS
        rw [Hdec.out, UInt8.ofNat_add]
        rfl
      · have hm2 : ((m / 10 : Nat) : Int) ≤ 9223372036854775807 := by omega
        have hrel2 : dig n.natAbs = dig (m / 10) ++ (UInt8.ofNat (48 + d) :: L) := by
          have h1 := Hdig.out
          rw [dig_big hlast, Hd.out] at h1
          simpa using h1
        have hlen2 : (dig m).length = (dig (m / 10)).length + 1 := by rw [dig_big hlast]; simp
        have Hrel2 := Lib.hid hrel2
        have Hlen2 := Lib.hid hlen2
        have Hl := Lib.hid hlen
        clear hrel2 hlen2
        by_cases hd0 : d = 0
        · subst hd0
          have hmod0 : (-(m : Int)).tmod 10 = 0 := hmod
          clear hmod
          have hs0 := Hset.out
          have hx0 := Hext.out
          have e48 : (48 + ((0 : Nat) : Int)) = 48 := rfl
          rw [e48] at hs0 hx0
          have Hs0 := Lib.hid hs0
          have Hx0 := Lib.hid hx0
          clear hs0 hx0 e48 Hset Hext
          go_wp2
          refine ⟨⟨m / 10, _, P', _, rfl, rfl, by omega, ⟨by omega, by omega⟩, Hs0.out, by simp; omega, Hrel2.out, ?_, fun h => by omega, fun h => ?_, Hx0.out⟩, by simp [intOf]; omega⟩
          · have := Hlen2.out; have := Hl.out; simp; omega
          · have := hs2 h; omega
        · have hd1 : 0 < d := by omega
          go_wp2
          refine ⟨⟨m / 10, _, P', _, rfl, rfl, by omega, ⟨by omega, by omega⟩, Hset.out, by simp; omega, Hrel2.out, ?_, fun h => by omega, fun h => ?_, Hext.out⟩, by simp [intOf]; omega⟩
          · have := Hlen2.out; have := Hl.out; simp; omega
          · have := hs2 h; omega
    · obtain rfl : q = (m : Int) := by omega
      have hs0 := Hset.out
      have hx0 := Hext.out
      have ec : ((m % 10 : Nat) : Int) = (m : Int) % 10 := by omega
      rw [ec] at hs0 hx0
      have Hs0 := Lib.hid hs0
      have Hx0 := Lib.hid hx0
      clear hs0 hx0 ec Hset Hext hm
      have hn0 : ¬ n < 0 := fun h => by have := hs1 h; omega
      by_cases hlast : m < 10
      · have hsl := Hs0.out.slice P'.length (20 - P'.length) (20 - P'.length) (UInt8.ofNat (48 + m % 10) :: L) (by simp; omega) (Nat.le_refl _) (by unfold maxLen; omega) (fun j x hx => by rw [List.getElem?_append_right (by omega)]; simpa using hx)
        have hconv := conv_bytes hsl
        have hsa := slice_array w.heap.size P'.length (by omega)
        have hdec : decL n = UInt8.ofNat (48 + m % 10) :: L := by
          have h1 := Hdig.out
          rw [dig_small hlast] at h1
          unfold decL
          rw [if_neg hn0, h1, Nat.mod_eq_of_lt hlast]
          rfl
        have Hdec := Lib.hid hdec
        clear hsl hdec
        go_wp2
        go_ret
        refine ⟨?_, Hx0.out⟩
        show Ending.returned (Value.string _) = _
        unfold decS
        rw [Hdec.out, UInt8.ofNat_add]
        rfl
      · have hrel2 : dig n.natAbs = dig (m / 10) ++ (UInt8.ofNat (48 + m % 10) :: L) := by
          have h1 := Hdig.out
          rw [dig_big hlast] at h1
          simpa using h1
        have hlen2 : (dig m).length = (dig (m / 10)).length + 1 := by rw [dig_big hlast]; simp
        have Hrel2 := Lib.hid hrel2
        have Hlen2 := Lib.hid hlen2
        have Hl := Lib.hid hlen
        clear hrel2 hlen2
        go_wp2
        refine ⟨⟨m / 10, _, P', _, rfl, rfl, by omega, ⟨by omega, by omega⟩, Hs0.out, by simp; omega, Hrel2.out, ?_, fun h => absurd h hn0, fun h => ?_, Hx0.out⟩, by simp [intOf]; omega⟩
        · have := Hlen2.out; have := Hl.out; simp; omega
        · omega
end Go.Proofs.Ytlobedanjbcfkaa
