/-
  The walks of crc's functions: octet, Sum, and the reference's Sum.
-/
import Derived.Test.YtbhcggdhpdcpbaaProg
import Derived.Test.YtbhcggdhpdcpbaaLib
import Derived.Test.YtbhcggdhpdcpbaaBytes
import Derived.Test.YtbhcggdhpdcpbaaCrcMath
import Derived.WalkKit
import Derived.WalkSpells
import Derived.WalkLawsBesides
import Derived.BigQuiet
import Derived.Deep.QuietTactic
import Derived.Lib.Hide
import Derived.Lib.SlBytesConst
import Derived.Outline
namespace Go.Proofs.Ytbhcggdhpdcpbaa
open Go.RowKit Go.Proofs

set_option maxRecDepth 100000 in
set_option maxHeartbeats 400000 in
theorem octet_any (r : BitVec 32) (c : UInt8) (w : World) :
    Calls Try.prog 37 #[.int .u32 (r.toNat : Int), .int .u8 (c.toNat : Int)] w fun e w' => e = .returned (.int .u32 ((crcO r c).toNat : Int)) ∧ w = w' := by
  have hr := r.isLt
  have hc := c.toNat_lt
  go_enter Try.func37, Try.ntmps37
  go_wp2
  go_loop [0, 9] (fun t i => ∃ (k : Nat) (q : BitVec 32), k ≤ 8 ∧ i = .int .i64 k ∧ t = .int .u32 (q.toNat : Int) ∧ crcN (8 - k) q = crcO r c) (fun _ i => 8 - (intOf i).toNat)
  case atStart => exact ⟨0, r ^^^ c.toBitVec.setWidth 32, by omega, rfl, by rw [impl_in], rfl⟩
  case round =>
    obtain ⟨k, q, hk, rfl, rfl, hq⟩ := hrel
    have Hq := Lib.hid hq
    clear hq
    have hql := q.isLt
    by_cases hlt : k < 8
    · go_wp2
      refine ⟨⟨k + 1, crcS q, by omega, by go_num, by rw [← impl_step], ?_⟩, by simp [intOf]; omega⟩
      rw [← Hq.out, show 8 - k = (8 - (k + 1)) + 1 by omega]
      rfl
    · go_wp2
      go_ret
      have : k = 8 := by omega
      subst this
      refine ⟨?_, rfl⟩
      rw [← Hq.out]
      rfl


set_option maxRecDepth 100000 in
set_option maxHeartbeats 400000 in
theorem sum_any (v : Value) (ls : List (List UInt8)) (w : World) (hv : SliceOf (rSlice rByte) w v ls) :
    Calls Try.prog 13 #[v] w fun e w' => e = .returned (.int .u32 ((crcSum ls.flatten).toNat : Int)) ∧ w = w' := by
  rcases hv.cells1 rfl with ⟨rfl, a, cap, rfl, _⟩ | ⟨hne, g, o, cap, rfl, hle, hm, hg, hc⟩
  · go_enter Try.func13, Try.ntmps13
    go_wp2
    go_loop [3, 10] (fun t i => i = .int .i64 0 ∧ t = .int .u32 4294967295) (fun _ i => (intOf i).toNat)
    case atStart => exact ⟨rfl, rfl⟩
    case round =>
      obtain ⟨rfl, rfl⟩ := hrel
      go_wp2
      go_ret
      exact ⟨by rfl, rfl⟩
  · unfold maxLen at hm
    go_enter Try.func13, Try.ntmps13
    go_wp2
    go_loop [3, 10] (fun t i => ∃ (k : Nat) (q : BitVec 32), k ≤ ls.length ∧ i = .int .i64 k ∧ t = .int .u32 (q.toNat : Int) ∧ q = crcR (BitVec.allOnes 32) (ls.take k).flatten) (fun _ i => ls.length - (intOf i).toNat)
    case atStart => exact ⟨0, BitVec.allOnes 32, by omega, rfl, rfl, rfl⟩
    case round =>
      obtain ⟨k, q, hk, rfl, rfl, hq⟩ := hrel
      have Hq := Lib.hid hq
      clear hq
      by_cases hlt : k < ls.length
      · obtain ⟨u, hu, u', hu', hs⟩ := hc k _ (List.getElem?_eq_getElem hlt)
        have Hts := Lib.hid (take_succ_get ls k hlt)
        generalize ls[k] = l at hs Hts
        obtain rfl : u = u' := by simpa using hu'
        clear hu' hc
        rcases hs.cells1 rfl with ⟨rfl, a1, cap1, rfl, _⟩ | ⟨hne1, g1, o1, cap1, rfl, hle1, hm1, hg1, hc1⟩
        · go_wp2
          go_loop [3, 16] (fun t i => i = .int .i64 0 ∧ t = .int .u32 (q.toNat : Int)) (fun _ i => (intOf i).toNat)
          case atStart => exact ⟨rfl, rfl⟩
          case round =>
            obtain ⟨rfl, rfl⟩ := hrel
            go_wp2
            refine ⟨⟨k + 1, q, by omega, by go_num, rfl, ?_⟩, by simp [intOf]; omega⟩
            rw [Hts.out, Hq.out]; simp
        · unfold maxLen at hm1
          go_wp2
          go_loop [3, 16] (fun t i => ∃ (j : Nat) (q1 : BitVec 32), j ≤ l.length ∧ i = .int .i64 j ∧ t = .int .u32 (q1.toNat : Int) ∧ q1 = crcR q (l.take j)) (fun _ i => l.length - (intOf i).toNat)
          case atStart => exact ⟨0, q, by omega, rfl, rfl, rfl⟩
          case round =>
            obtain ⟨j, q1, hj, rfl, rfl, hq1⟩ := hrel
            have Hq1 := Lib.hid hq1
            clear hq1
            by_cases hlt1 : j < l.length
            · obtain ⟨u, hu1, hu1'⟩ := hc1 j _ (List.getElem?_eq_getElem hlt1)
              have Hts1 := Lib.hid (take_succ_get l j hlt1)
              generalize l[j] = b at hu1' Hts1
              have hu1'' : [u] = [Value.int .u8 b.toNat] := hu1'
              obtain rfl : u = .int .u8 b.toNat := by simpa using hu1''
              clear hu1'' hu1' hc1
              go_wp2_with (go_at_call 37; refine (octet_any _ _ _).mono ?_; rintro e w' ⟨rfl, rfl⟩)
              refine ⟨⟨j + 1, crcO q1 b, by omega, by go_num, rfl, ?_⟩, by simp [intOf]; omega⟩
              rw [Hts1.out, crcR_snoc, Hq1.out]
            · go_wp2
              refine ⟨⟨k + 1, q1, by omega, by go_num, rfl, ?_⟩, by simp [intOf]; omega⟩
              rw [Hts.out, Hq1.out, Hq.out, List.take_of_length_le (show l.length ≤ j by omega)]
              simp [crcR_append]
      · go_wp2
        go_ret
        refine ⟨?_, rfl⟩
        rw [List.take_of_length_le (by omega)] at Hq
        have e1 : crcSum ls.flatten = ~~~ q := by unfold crcSum; rw [Hq.out]
        rw [e1, ← impl_not]
        rfl

set_option maxRecDepth 100000 in
set_option maxHeartbeats 400000 in
theorem refsum_any (v : Value) (l : List UInt8) (w : World) (hv : SliceOf rByte w v l) :
    Calls Try.prog 14 #[v] w fun e w' => e = .returned (.int .u32 ((crcSum l).toNat : Int)) ∧ w = w' := by
  rcases hv.cells1 rfl with ⟨rfl, a, cap, rfl, _⟩ | ⟨hne, g, o, cap, rfl, hle, hm, hg, hc⟩
  · go_enter Try.func14, Try.ntmps14
    go_wp2
    go_loop [3, 4] (fun t i => i = .int .i64 0 ∧ t = .int .u32 4294967295) (fun _ i => (intOf i).toNat)
    case atStart => exact ⟨rfl, rfl⟩
    case round =>
      obtain ⟨rfl, rfl⟩ := hrel
      go_wp2
      go_ret
      exact ⟨by rfl, rfl⟩
  · unfold maxLen at hm
    go_enter Try.func14, Try.ntmps14
    go_wp2
    go_loop [3, 4] (fun t i => ∃ (k : Nat) (q : BitVec 32), k ≤ l.length ∧ i = .int .i64 k ∧ t = .int .u32 (q.toNat : Int) ∧ q = crcR (BitVec.allOnes 32) (l.take k)) (fun _ i => l.length - (intOf i).toNat)
    case atStart => exact ⟨0, BitVec.allOnes 32, by omega, rfl, rfl, rfl⟩
    case round =>
      obtain ⟨k, q, hk, rfl, rfl, hq⟩ := hrel
      have Hq := Lib.hid hq
      clear hq
      by_cases hlt : k < l.length
      · obtain ⟨u, hu1, hu1'⟩ := hc k _ (List.getElem?_eq_getElem hlt)
        have Hts1 := Lib.hid (take_succ_get l k hlt)
        generalize l[k] = b at hu1' Hts1
        have hu1'' : [u] = [Value.int .u8 b.toNat] := hu1'
        obtain rfl : u = .int .u8 b.toNat := by simpa using hu1''
        clear hu1'' hu1' hc
        have hb := b.toNat_lt
        go_wp2
        go_loop [3, 5, 6] (fun t i x => ∃ (j : Nat) (q1 : BitVec 32), j ≤ 8 ∧ i = .int .i64 j ∧ t = .int .u32 (q1.toNat : Int) ∧ crcN (8 - j) q1 = crcO q b) (fun _ i _ => 8 - (intOf i).toNat)
        case atStart => exact ⟨0, q ^^^ b.toBitVec.setWidth 32, by omega, rfl, by rw [impl_in], rfl⟩
        case round =>
          obtain ⟨j, q1, hj, rfl, rfl, hq1⟩ := hrel
          have Hq1 := Lib.hid hq1
          clear hq1
          have hql := q1.isLt
          by_cases hlt1 : j < 8
          · by_cases hbit : (q1.toNat : Int) % 2 = 1
            · have hb1 : ((q1.toNat : Int) % 2 == 1) = true := by rw [hbit]; rfl
              have Hbit := Lib.hid hbit
              clear hbit
              go_wp2
              refine ⟨⟨j + 1, crcS q1, by omega, by go_num, by rw [← impl_odd _ Hbit.out], ?_⟩, by simp [intOf]; omega⟩
              rw [← Hq1.out, show 8 - j = (8 - (j + 1)) + 1 by omega]
              rfl
            · have hb1 : ((q1.toNat : Int) % 2 == 1) = false := by simpa using hbit
              have Hbit := Lib.hid hbit
              clear hbit
              go_wp2
              refine ⟨⟨j + 1, crcS q1, by omega, by go_num, by rw [← impl_half _ (by have := Hbit.out; omega)], ?_⟩, by simp [intOf]; omega⟩
              rw [← Hq1.out, show 8 - j = (8 - (j + 1)) + 1 by omega]
              rfl
          · go_wp2
            refine ⟨⟨k + 1, q1, by omega, by go_num, rfl, ?_⟩, by simp [intOf]; omega⟩
            have : j = 8 := by omega
            subst this
            rw [Hts1.out, crcR_snoc, ← Hq.out, ← Hq1.out]
            rfl
      · go_wp2
        go_ret
        refine ⟨?_, rfl⟩
        rw [List.take_of_length_le (by omega)] at Hq
        have e1 : crcSum l = ~~~ q := by unfold crcSum; rw [Hq.out]
        rw [e1, ← impl_not']
        rfl


set_option maxRecDepth 100000 in
set_option maxHeartbeats 400000 in
theorem seal_any (v : Value) (l : List UInt8) (w : World) (hv : SliceOf rByte w v l) (hl : l.length ≤ 1000000) :
    Calls Try.prog 15 #[v] w (RetOwn rByte 5 w (crcSeal l)) := by
  obtain ⟨a, cap, rfl, _, _, _, _⟩ := id hv
  go_enter Try.func15, Try.ntmps15
  go_wp2_with fail
  refine (sum_any _ [l] _ ?_).mono ?_
  · exact sliceOf_one (r := rSlice rByte) rfl _ (by simp) _ _ _ ⟨_, rfl, SliceOf.mono rByte_mono ((Ext.refl _).alloc _) hv⟩
  rintro e w' ⟨rfl, rfl⟩
  rw [show [l].flatten = l by simp]
  go_wp2_with fail
  refine (clone_bytes _ l _ (SliceOf.mono rByte_mono ((Ext.refl _).alloc _) hv) (by omega)).mono ?_
  rintro e w1 ⟨v1, rfl, hown, hx⟩
  obtain ⟨A, c, rfl, _, _, _, _⟩ := id hown.slice
  have h4 : ∀ W : World, SliceOf rByte (W.alloc (.cells #[Value.int .u8 (((crcSum l).toNat : Int) % 256), Value.int .u8 (((crcSum l).toNat : Int) / 256 % 256), Value.int .u8 (((crcSum l).toNat : Int) / 65536 % 256), Value.int .u8 (((crcSum l).toNat : Int) / 16777216)] 5)) (.slice (some ⟨W.heap.size, 0, none⟩) 4 4) (le4 (crcSum l)) := fun W => by
    have := sliceOf_bytes W rfl (le4 (crcSum l)) 5 (0, 0) 4 rfl (by decide)
    rwa [le4_cells] at this
  have hA : l.length + (le4 (crcSum l)).length ≤ maxLen := by unfold maxLen; simp [le4]; omega
  have hB : (l.length + (le4 (crcSum l)).length) * 1 ≤ 140737488355328 := by simp [le4]; omega
  have H4 := Lib.hid h4
  have HA := Lib.hid hA
  have HB := Lib.hid hB
  have hown2 := hown
  clear h4 hA hB hown
  have Hx := Lib.hid hx
  have hsz := hx.size
  simp only [World.size_alloc] at hsz
  go_wp2_with (at_builtin; go_loud (refine append_law rfl (.tmp 8) (.tmp 20) rfl el_bytes rByte_one _ _ rfl (hown2.mono rByte_mono ((Ext.refl _).alloc _)) _ (le4 (crcSum l)) rfl (H4.out w1) (fun _ _ _ _ _ h => h) HA.out HB.out (by simp; omega) ?_); intro v' w' hown' hg')
  go_ret
  refine RetOwn.intro rfl hown' (by simp) ?_
  refine ((((Ext.refl w).alloc _).then hx).alloc _).grown hg' (by simp; omega) fun k hk => ?_
  have := hown2.lt k hk
  simp at this
  omega

set_option maxRecDepth 100000 in
set_option maxHeartbeats 400000 in
theorem refseal_any (v : Value) (l : List UInt8) (w : World) (hv : SliceOf rByte w v l) (hl : l.length ≤ 1000000) :
    Calls Try.prog 17 #[v] w (RetOwn rByte 5 w (crcSeal l)) := by
  obtain ⟨a, cap, rfl, _, _, _, _⟩ := id hv
  have h4 : ∀ W : World, SliceOf rByte (W.alloc (.cells #[Value.int .u8 (((crcSum l).toNat : Int) % 256), Value.int .u8 (((crcSum l).toNat : Int) / 256 % 256), Value.int .u8 (((crcSum l).toNat : Int) / 65536 % 256), Value.int .u8 (((crcSum l).toNat : Int) / 16777216)] 5)) (.slice (some ⟨W.heap.size, 0, none⟩) 4 4) (le4 (crcSum l)) := fun W => by
    have := sliceOf_bytes W rfl (le4 (crcSum l)) 5 (0, 0) 4 rfl (by decide)
    rwa [le4_cells] at this
  have hA : l.length + (le4 (crcSum l)).length ≤ maxLen := by unfold maxLen; simp [le4]; omega
  have hB : (l.length + (le4 (crcSum l)).length) * 1 ≤ 140737488355328 := by simp [le4]; omega
  have hA0 : ([] : List UInt8).length + l.length ≤ maxLen := by unfold maxLen; simp; omega
  have hB0 : (([] : List UInt8).length + l.length) * 1 ≤ 140737488355328 := by simp; omega
  have H4 := Lib.hid h4
  have HA := Lib.hid hA
  have HB := Lib.hid hB
  have HA0 := Lib.hid hA0
  have HB0 := Lib.hid hB0
  clear h4 hA hB hA0 hB0
  have hsl := (crcSum l).isLt
  go_enter Try.func17, Try.ntmps17
  go_wp2_with fail
  refine (refsum_any _ l _ hv).mono ?_
  rintro e w' ⟨rfl, rfl⟩
  have own0 := Own.lit0 rByte 5 w rfl (Nat.le_refl _)
  go_wp2_with (first | (at_builtin; refine append_ext (w0 := w) rfl (.tmp 7) (.tmp 8) rfl el_bytes rByte_one rByte_flat (.slice (some ⟨w.heap.size, 0, none⟩) 0 0) [] rfl own0 _ l rfl (hv.mono rByte_mono ((Ext.refl _).alloc _)) HA0.out HB0.out (by simp) ((Ext.refl w).alloc _) (Nat.le_refl _) ?_; intro v1 w1 hown1 hx1 hb1 _; obtain ⟨A1, c1, rfl, _, _, _, _⟩ := id hown1.slice; clear own0) | (at_builtin; refine append_ext (w0 := w) rfl (.tmp 10) (.tmp 25) rfl el_bytes rByte_one rByte_flat _ l rfl (hown1.mono rByte_mono ((Ext.refl _).alloc _)) _ (le4 (crcSum l)) rfl (H4.out w1) HA.out HB.out (by simp; omega) (hx1.alloc _) (Nat.le_refl _) ?_; intro v2 w2 hown2 hx2 hb2 _))
  go_ret
  exact ⟨_, rfl, hown2, hx2⟩

def sealedB (l : List UInt8) : Bool := decide (4 ≤ l.length) && decide (crcSeal (l.take (l.length - 4)) = l)
def OpenPost (w : World) (l : List UInt8) (en : Ending) (w' : World) : Prop :=
  Ext w w' ∧ ((sealedB l = true ∧ ∃ v, en = .returned (.tuple #[v, .bool true]) ∧ Own rByte w.heap.size 5 w' v (l.take (l.length - 4))) ∨ (sealedB l = false ∧ en = .returned (.tuple #[.slice none 0 0, .bool false])))

set_option maxRecDepth 100000 in
set_option maxHeartbeats 400000 in
theorem open_any (v : Value) (l : List UInt8) (w : World) (hv : SliceOf rByte w v l) (hl : l.length ≤ 1000000) :
    Calls Try.prog 16 #[v] w (OpenPost w l) := by
  obtain ⟨a, cap, rfl, hle, hcap, _, _⟩ := id hv
  unfold maxLen at hcap
  by_cases h4 : l.length < 4
  · have hs : sealedB l = false := by simp [sealedB]; omega
    have Hs := Lib.hid hs
    clear hs
    go_enter Try.func16, Try.ntmps16
    go_wp2
    go_ret2
    exact ⟨Ext.refl _, .inr ⟨Hs.out, rfl⟩⟩
  · have e4 : ((l.length : Int) - 4) = ((l.length - 4 : Nat) : Int) := by omega
    generalize hn : l.length - 4 = n at e4
    have hnl : n + 4 = l.length := by omega
    have hnl' : n ≤ l.length := by omega
    have Hn := Lib.hid hn
    clear hn
    go_enter Try.func16, Try.ntmps16
    go_wp2_with fail
    refine (seal_any _ (l.take n) _ (hv.take n hnl') (by simp; omega)).mono ?_
    rintro e w1 ⟨v1, rfl, hown, hx⟩
    have hs1 := hown.slice
    have hv1 := hv.mono rByte_mono hx
    generalize hS : crcSeal (l.take n) = S at hs1
    have HS := Lib.hid hS
    clear hS hown
    obtain ⟨A1, c1, rfl, _, _, _, _⟩ := id hs1
    by_cases heq : S = l
    · have hb : decide (S = l) = true := decide_eq_true heq
      have Heq := Lib.hid heq
      clear heq
      go_wp2_with fail
      refine (equal_bytes _ _ S l _ hs1 hv1).mono ?_
      rintro e w2 ⟨rfl, hx2⟩
      rw [hb]
      go_wp2_with fail
      refine (clone_bytes _ (l.take n) _ ((hv1.mono rByte_mono hx2).take n hnl') (by simp; omega)).mono ?_
      rintro e w3 ⟨v3, rfl, hown3, hx3⟩
      go_wp2
      go_ret2
      refine ⟨(hx.then hx2).then hx3, .inl ⟨?_, v3, rfl, ?_⟩⟩
      · have h1 := HS.out
        have h2 := Heq.out
        have h3 := Hn.out
        simp only [sealedB, Bool.and_eq_true, decide_eq_true_eq]
        exact ⟨by omega, by rw [h3, h1, h2]⟩
      · rw [Hn.out]
        exact hown3.base (hx.then hx2).size
    · have hb : decide (S = l) = false := decide_eq_false heq
      have Heq := Lib.hid heq
      clear heq
      go_wp2_with fail
      refine (equal_bytes _ _ S l _ hs1 hv1).mono ?_
      rintro e w2 ⟨rfl, hx2⟩
      rw [hb]
      go_wp2
      go_ret2
      refine ⟨hx.then hx2, .inr ⟨?_, rfl⟩⟩
      have h1 := HS.out
      have h2 := Heq.out
      have h3 := Hn.out
      simp only [sealedB, h3, h1]
      simp [h2]

set_option maxRecDepth 100000 in
set_option maxHeartbeats 400000 in
theorem awake3 (w : World) :
    Calls Try.prog 12 #[] w fun e w' => e = .returned (.bool true) ∧ Ext w w' := by
  have kc := fun (w : World) (C : Array Value) (n c : Nat) => Lib.run_convert_bytes_const (P := Try.prog) w 24 5 C n c Try.underlying24 Try.underlying5
  go_enter Try.func12, Try.ntmps12
  have hs : ((crcSum ([[49, 50, 51, 52, 53, 54, 55, 56, 57]] : List (List UInt8)).flatten).toNat : Int) = 3421780262 := by decide +kernel
  have hs0 : ((crcSum ([] : List (List UInt8)).flatten).toNat : Int) = 0 := by decide +kernel
  have Hs := Lib.hid hs; clear hs
  have Hs0 := Lib.hid hs0; clear hs0
  go_wp2_with fail
  refine (sum_any _ [[49, 50, 51, 52, 53, 54, 55, 56, 57]] _ ?_).mono ?_
  · refine sliceOf_one (r := rSlice rByte) rfl _ (by simp) _ _ _ ⟨_, rfl, SliceOf.mono rByte_mono ((Ext.refl _).alloc _) ?_⟩
    exact sliceOf_bytes w rfl [49, 50, 51, 52, 53, 54, 55, 56, 57] _ _ 9 rfl (by decide)
  rintro e w' ⟨rfl, rfl⟩
  rw [Hs.out]
  go_wp2_with fail
  refine (sum_any _ [] _ (sliceOf_nil _ _)).mono ?_
  rintro e w' ⟨rfl, rfl⟩
  rw [Hs0.out]
  go_wp2
  go_ret
  exact ⟨rfl, ((Ext.refl w).alloc _).alloc _⟩
end Go.Proofs.Ytbhcggdhpdcpbaa
