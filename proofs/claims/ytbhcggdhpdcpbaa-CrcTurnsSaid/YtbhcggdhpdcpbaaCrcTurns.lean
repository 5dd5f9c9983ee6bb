/-
  The statement CrcTurns: a change of up to four consecutive bytes is detected. For every input.
-/
import Derived.Test.YtbhcggdhpdcpbaaCrcApart
import Derived.RegionTactic
import Derived.ChangeAlike
import Derived.ChangeKeysEq
namespace Go.Proofs.Ytbhcggdhpdcpbaa
open Go.RowKit Go.Proofs

theorem eq4_items (d : Nat) (a b c d' : Int) (w : World) : (Op.eqItems (d + 1) 5 1 #[.int .u8 a, .int .u8 b, .int .u8 c, .int .u8 d'] #[.int .u8 0, .int .u8 0, .int .u8 0, .int .u8 0] [0, 1, 2, 3]).run Try.prog w = .ok (decide (a = 0 ∧ b = 0 ∧ c = 0 ∧ d' = 0)) w := by
  have hp : ∀ (x0 x1 x2 x3 : Value) (w : World), (part 5 #[x0, x1, x2, x3] 0).run Try.prog w = .ok x0 w ∧ (part 5 #[x0, x1, x2, x3] 1).run Try.prog w = .ok x1 w ∧ (part 5 #[x0, x1, x2, x3] 2).run Try.prog w = .ok x2 w ∧ (part 5 #[x0, x1, x2, x3] 3).run Try.prog w = .ok x3 w := fun x0 x1 x2 x3 w => ⟨by kernel_rfl, by kernel_rfl, by kernel_rfl, by kernel_rfl⟩
  have h0 := fun x0 x1 x2 x3 w => (hp x0 x1 x2 x3 w).1
  have h1 := fun x0 x1 x2 x3 w => (hp x0 x1 x2 x3 w).2.1
  have h2 := fun x0 x1 x2 x3 w => (hp x0 x1 x2 x3 w).2.2.1
  have h3 := fun x0 x1 x2 x3 w => (hp x0 x1 x2 x3 w).2.2.2
  have he := fun (x y : Int) (w : World) => run_equalIn_int (P := Try.prog) w d 5 .u8 .u8 x y Try.underlying5
  simp only [Op.eqItems, Sem.run_bind, Nat.mul_one, h0, Result.andThen_ok, he]
  by_cases ha : a = 0
  · subst ha
    by_cases hb : b = 0
    · subst hb
      by_cases hc : c = 0
      · subst hc
        by_cases hd : d' = 0
        · subst hd; simp [h1, h2, h3, he]
        · simp [hd, h1, h2, h3, he]
      · simp [hc, h1, h2, he]
    · simp [hb, h1, he]
  · simp [ha]
theorem eq4 (a b c d : Int) (w : World) : (Op.equalIn 10000 29 (.agg #[.int .u8 a, .int .u8 b, .int .u8 c, .int .u8 d]) (.agg #[.int .u8 0, .int .u8 0, .int .u8 0, .int .u8 0])).run Try.prog w = .ok (decide (a = 0 ∧ b = 0 ∧ c = 0 ∧ d = 0)) w := by
  obtain ⟨i, z, hi, _⟩ := (El.mk' (P := Try.prog) (t := 24) (e := 5) (z := .int .u8 0) (size := 1) (bytes := 1) Try.underlying24 (by kernel_rfl) rfl (by decide)).info
  rw [show (10000 : Nat) = 9998 + 1 + 1 from rfl, run_equalIn_array _ (9998 + 1) _ _ Try.underlying29 hi]
  have hc : Try.prog.cellsOf 5 = 1 := by kernel_rfl
  rw [hc]
  exact eq4_items 9998 a b c d w

theorem xor_self8 {u b : UInt8} (h : u = u ^^^ b) : b = 0 := by
  have h1 : u ^^^ u = u ^^^ (u ^^^ b) := congrArg (u ^^^ ·) h
  rw [← UInt8.xor_assoc, UInt8.xor_self, UInt8.zero_xor] at h1
  exact h1.symm
theorem bits_xor8 (a b : UInt8) : bits .xor .u8 (a.toNat : Int) (b.toNat : Int) = ((a ^^^ b).toNat : Int) := by
  rw [u8_xor_nat _ _ a.toNat_lt b.toNat_lt, UInt8.toNat_xor]

/-- four bytes of a list from a place on -/
theorem window {l : List UInt8} {k : Nat} (h : k + 4 ≤ l.length) : ∃ u0 u1 u2 u3, (l.drop k).take 4 = [u0, u1, u2, u3] ∧ ∀ j x, [u0, u1, u2, u3][j]? = some x → l[k + j]? = some x := by
  obtain ⟨a, b, c, d, e⟩ := four_of_length (l := (l.drop k).take 4) (by simp; omega)
  refine ⟨a, b, c, d, e, fun j x hj => ?_⟩
  rw [← e] at hj
  have hj4 : j < 4 := by
    have := (List.getElem?_eq_some_iff.1 hj).1
    simp at this; omega
  rwa [List.getElem?_take_of_lt hj4, List.getElem?_drop] at hj
theorem patch_get {α : Type} (l : List α) (k : Nat) (u : List α) (h : k + u.length ≤ l.length) : (patch l k u)[k + u.length]? = l[k + u.length]? := by
  unfold patch
  rw [List.getElem?_append_right (by simp; omega), List.getElem?_drop]
  congr 1
  simp; omega
theorem patch_same (l : List UInt8) (k : Nat) (h : k + 4 ≤ l.length) (u : List UInt8) (hu : (l.drop k).take 4 = u) (hl : u.length = 4) : patch l k u = l := by
  rw [patch, hl, ← hu]
  exact (patch_split l k h).symm

/-- a sealed text with a burst over it is sealed just where nothing was turned -/
theorem sealed_patch (l : List UInt8) (k : Nat) (u v : List UInt8) (h : k + 4 ≤ (crcSeal l).length) (hu : ((crcSeal l).drop k).take 4 = u) (hul : u.length = 4) (hv : v.length = 4) : sealedB (patch (crcSeal l) k v) = decide (u = v) := by
  have hlen : (patch (crcSeal l) k v).length = (crcSeal l).length := patch_length _ _ _ (by omega)
  have h4 : 4 ≤ (patch (crcSeal l) k v).length := by omega
  have e1 : sealedB (patch (crcSeal l) k v) = decide (crcR (BitVec.allOnes 32) (patch (crcSeal l) k v) = crcRes) := by
    unfold sealedB
    rw [decide_eq_true h4, Bool.true_and]
    exact decide_eq_decide.2 (sealed_iff _ h4)
  rw [e1]
  refine decide_eq_decide.2 ?_
  have hs := patch_same (crcSeal l) k h u hu hul
  have hr := crcSeal_res l
  have e2 : patch (crcSeal l) k v = (crcSeal l).take k ++ v ++ (crcSeal l).drop (k + 4) := by rw [patch, hv]
  have e3 : crcSeal l = (crcSeal l).take k ++ u ++ (crcSeal l).drop (k + 4) := by conv => lhs; rw [← hs, patch, hul]
  have hb := crcR_burst (BitVec.allOnes 32) ((crcSeal l).take k) u v ((crcSeal l).drop (k + 4)) hul hv
  rw [← e2, ← e3, hr] at hb
  constructor
  · intro e; exact hb.1 e.symm
  · intro e; exact (hb.2 e).symm

set_option maxRecDepth 100000 in
set_option maxHeartbeats 1000000 in
theorem crcTurns_walk (w : World) (v : Value) (l : List UInt8) (hv : SliceOf rByte w v l) (at_ : Int) (_wat : (Lit.int .i64 at_).wf = true) (cs : Array Value) (y : List UInt8) (hcs : cs.size = 4) (hy : (rArr 4 rByte).rel w cs.toList y) :
    Calls Try.prog 6 #[v, .int .i64 at_, .agg cs] w fun e w' => e = .returned (.bool true) ∧ Ext w w' := by
  obtain ⟨a, cap, rfl, hle, hm, h0, _⟩ := id hv
  obtain ⟨b0, b1, b2, b3, rfl, rfl⟩ := arr4 hcs hy
  unfold maxLen at hm
  by_cases hbig : 1000 < l.length
  · go_enter Try.func6, Try.ntmps6
    go_wp2_with fail
    refine (awake3 _).mono ?_
    rintro e w1 ⟨rfl, hx1⟩
    go_wp2_with fail
    refine (awake3 _).mono ?_
    rintro e w2 ⟨rfl, hx2⟩
    go_wp2
    go_ret
    exact ⟨rfl, (((Ext.refl w).alloc _).then hx1).then hx2⟩
  · go_enter Try.func6, Try.ntmps6
    go_wp2_with fail
    refine (awake3 _).mono ?_
    rintro e w1 ⟨rfl, hx1⟩
    have hext := ((Ext.refl w).alloc _).then hx1
    go_wp2_with fail
    refine (refseal_any _ l _ (hv.mono rByte_mono hext) (by omega)).mono ?_
    rintro e w2 ⟨v2, rfl, hown2, hx2⟩
    have hslen : (crcSeal l).length = l.length + 4 := by simp [crcSeal, le4]
    obtain ⟨k, hk, hk4⟩ := place_mod at_ (crcSeal l).length (by omega) (by omega)
    have hsp := fun v (hv : v.length = 4) u hu hul => sealed_patch l k u v hk4 hu hul hv
    generalize crcSeal l = S at hown2 hslen hk hk4 hsp
    obtain ⟨u0, u1, u2, u3, hw, hwin⟩ := window hk4
    obtain ⟨g, cap2, rfl, hbg, hg, hlc, hcap2, _, _⟩ := hown2.form (by rintro rfl; simp at hslen)
    have hown3 : Own rByte w1.heap.size 5 w2 (.slice (some ⟨g, 0, none⟩) S.length cap2) (patch S k []) := by rw [patch_nil]; exact hown2
    have hbox : ∀ (j : Nat) (x : UInt8), [b0, b1, b2, b3][j]? = some x → ∀ wr, Ext w1 wr → wr.cell? ⟨w.heap.size, j, none⟩ = some (.int .u8 (x.toNat : Int)) := fun j x hj wr hxr => by
      refine (hx1.then hxr).cell ?_
      have e1 := heap_alloc_new w (.cells #[Value.int .u8 (b0.toNat : Int), .int .u8 (b1.toNat : Int), .int .u8 (b2.toNat : Int), .int .u8 (b3.toNat : Int)] 29)
      simp only [World.cell?, e1]
      match j, hj with
      | 0, hj => simp at hj; simp [hj]
      | 1, hj => simp at hj; simp [hj]
      | 2, hj => simp at hj; simp [hj]
      | 3, hj => simp at hj; simp [hj]
    have Hbox := Lib.hid hbox
    have Hk := Lib.hid hk
    have Hw := Lib.hid hw
    have Hwin := Lib.hid hwin
    have Hsp := Lib.hid (hsp [u0 ^^^ b0, u1 ^^^ b1, u2 ^^^ b2, u3 ^^^ b3] rfl [u0, u1, u2, u3] hw rfl)
    clear hbox hk hown2 hy hw hwin hsp
    have hS1 : 4 ≤ S.length := by omega
    have hS2 : S.length ≤ 2000 := by omega
    clear hslen
    go_wp2_with fail
    rw [Hk.out]
    go_loopw [9] (fun i wr => ∃ j : Nat, j ≤ 4 ∧ i = .int .i64 j ∧ Own rByte w1.heap.size 5 wr (.slice (some ⟨g, 0, none⟩) S.length cap2) (patch S k ([u0 ^^^ b0, u1 ^^^ b1, u2 ^^^ b2, u3 ^^^ b3].take j)) ∧ Ext w1 wr) (fun i _ => 4 - (intOf i).toNat)
    case atStart => exact ⟨0, by omega, rfl, hown3, hx2⟩
    case round =>
      obtain ⟨j, hj, rfl, hown, hx⟩ := hrel
      by_cases hlt : j < 4
      · have hjl : j < [b0, b1, b2, b3].length := by simpa using hlt
        have hjl2 : j < [u0, u1, u2, u3].length := by simpa using hlt
        have hjl3 : j < [u0 ^^^ b0, u1 ^^^ b1, u2 ^^^ b2, u3 ^^^ b3].length := by simpa using hlt
        have hcell := Hbox.out j _ (List.getElem?_eq_getElem hjl) _ hx
        have htl : ([u0 ^^^ b0, u1 ^^^ b1, u2 ^^^ b2, u3 ^^^ b3].take j).length = j := by simp; omega
        have hpl := patch_length S k ([u0 ^^^ b0, u1 ^^^ b1, u2 ^^^ b2, u3 ^^^ b3].take j) (by omega)
        have hget := patch_get S k ([u0 ^^^ b0, u1 ^^^ b1, u2 ^^^ b2, u3 ^^^ b3].take j) (by omega)
        rw [htl, Hwin.out j _ (List.getElem?_eq_getElem hjl2)] at hget
        obtain ⟨g', o', u, eg, hu, hu'⟩ := hown.slice.at1 rfl hget
        injection eg with eg
        injection eg with eg1 eg2
        subst eg1 eg2
        rw [Nat.zero_add] at hu
        have hu'' : [u] = [Value.int .u8 ([u0, u1, u2, u3][j].toNat : Int)] := hu'
        obtain rfl : u = .int .u8 ([u0, u1, u2, u3][j].toNat : Int) := by simpa using hu''
        clear hu' hu'' hget
        obtain ⟨_, hfz, _⟩ := hown.formAt rfl (show k + j < (patch S k ([u0 ^^^ b0, u1 ^^^ b1, u2 ^^^ b2, u3 ^^^ b3].take j)).length by omega)
        have hxor : [u0 ^^^ b0, u1 ^^^ b1, u2 ^^^ b2, u3 ^^^ b3][j] = [u0, u1, u2, u3][j] ^^^ [b0, b1, b2, b3][j] := by
          match j, hlt with
          | 0, _ => rfl
          | 1, _ => rfl
          | 2, _ => rfl
          | 3, _ => rfl
        have hset := hown.set1 rfl rByte_flat (show k + j < (patch S k ([u0 ^^^ b0, u1 ^^^ b1, u2 ^^^ b2, u3 ^^^ b3].take j)).length by omega) (u := .int .u8 (bits .xor .u8 ([u0, u1, u2, u3][j].toNat : Int) ([b0, b1, b2, b3][j].toNat : Int))) (x := [u0 ^^^ b0, u1 ^^^ b1, u2 ^^^ b2, u3 ^^^ b3][j]) (fun _ => by rw [bits_xor8, ← hxor]; rfl)
        have hps := patch_snoc S k ([u0 ^^^ b0, u1 ^^^ b1, u2 ^^^ b2, u3 ^^^ b3].take j) [u0 ^^^ b0, u1 ^^^ b1, u2 ^^^ b2, u3 ^^^ b3][j] (by omega)
        rw [htl, ← take_succ_get _ j hjl3] at hps
        rw [hps] at hset
        clear hps hxor
        generalize [b0, b1, b2, b3][j] = bj at hcell hset
        generalize [u0, u1, u2, u3][j] = uj at hu hset
        have hbj := bj.toNat_lt
        have huj := uj.toNat_lt
        have Hset := Lib.hid hset
        have hext2 := Lib.hid (Below.setCell hx (p := ⟨g, k + j, none⟩) hbg (.int .u8 (bits .xor .u8 (uj.toNat : Int) (bj.toNat : Int))))
        clear hset hpl htl
        go_wp2_with fail
        go_region
        go_wp2
        refine ⟨⟨j + 1, by omega, by go_num, Hset.out.mono rByte_mono (Ext.refl _).drew, hext2.out.drew⟩, by simp [intOf]; omega⟩
      · have hj4 : j = 4 := by omega
        subst hj4
        have hM : patch S k ([u0 ^^^ b0, u1 ^^^ b1, u2 ^^^ b2, u3 ^^^ b3].take 4) = patch S k [u0 ^^^ b0, u1 ^^^ b1, u2 ^^^ b2, u3 ^^^ b3] := rfl
        rw [hM] at hown
        have hvM := hown.slice
        have hMl : (patch S k [u0 ^^^ b0, u1 ^^^ b1, u2 ^^^ b2, u3 ^^^ b3]).length = S.length := patch_length _ _ _ (by simpa using hk4)
        generalize patch S k [u0 ^^^ b0, u1 ^^^ b1, u2 ^^^ b2, u3 ^^^ b3] = M at hvM Hsp hMl
        have hMl2 : M.length ≤ 1000000 := by omega
        clear hM hown hMl
        go_wp2_with fail
        refine (open_any _ M _ hvM hMl2).mono ?_
        rintro e w3 ⟨hx3, hpost⟩
        have hx4 := hx.then hx3
        have hc0 := Hbox.out 0 b0 rfl _ hx4
        have hc1 := Hbox.out 1 b1 rfl _ hx4
        have hc2 := Hbox.out 2 b2 rfl _ hx4
        have hc3 := Hbox.out 3 b3 rfl _ hx4
        have heq := eq4 (b0.toNat : Int) (b1.toNat : Int) (b2.toNat : Int) (b3.toNat : Int)
        rcases hpost with ⟨hsb, v3, rfl, _⟩ | ⟨hsb, rfl⟩
        · rw [Hsp.out] at hsb
          have hz : ((b0.toNat : Int) = 0 ∧ (b1.toNat : Int) = 0 ∧ (b2.toNat : Int) = 0 ∧ (b3.toNat : Int) = 0) := by
            have := of_decide_eq_true hsb
            simp only [List.cons.injEq, and_true] at this
            obtain ⟨h0, h1, h2, h3⟩ := this
            rw [xor_self8 h0, xor_self8 h1, xor_self8 h2, xor_self8 h3]
            decide
          rw [decide_eq_true hz] at heq
          clear hsb hz
          go_wp2
          go_ret
          exact ⟨rfl, hext.then hx4⟩
        · rw [Hsp.out] at hsb
          have hz : ¬ ((b0.toNat : Int) = 0 ∧ (b1.toNat : Int) = 0 ∧ (b2.toNat : Int) = 0 ∧ (b3.toNat : Int) = 0) := fun h => by
            have h' := of_decide_eq_false hsb
            apply h'
            have e0 : b0 = 0 := UInt8.toNat_inj.1 (by have := h.1; simp; omega)
            have e1 : b1 = 0 := UInt8.toNat_inj.1 (by have := h.2.1; simp; omega)
            have e2 : b2 = 0 := UInt8.toNat_inj.1 (by have := h.2.2.1; simp; omega)
            have e3 : b3 = 0 := UInt8.toNat_inj.1 (by have := h.2.2.2; simp; omega)
            rw [e0, e1, e2, e3]
            simp
          rw [decide_eq_false hz] at heq
          clear hsb hz
          go_wp2
          go_ret
          exact ⟨rfl, hext.then hx4⟩
end Go.Proofs.Ytbhcggdhpdcpbaa
