/-
  zset.find, walked.
-/
import Derived.Test.YthclkljdnmokcaaZsetW
set_option linter.unusedVariables false
set_option linter.unusedSimpArgs false
namespace Go.Proofs.Ythclkljdnmokcaa
open Go.RowKit Go.Proofs

set_option maxRecDepth 100000 in
set_option maxHeartbeats 400000 in
theorem zclo_any (n : Int) (t s : ByteArray) (g : Nat) (w : World) (hc : w.cell? ⟨g, 0, none⟩ = some (.string s)) :
    Calls Try.prog 89 #[.agg #[.int .i64 n, .string t], .pointer (some ⟨g, 0, none⟩)] w fun e w' => e = .returned (.bool (decide (t = s))) ∧ Ext w w' := by
  have hbq := beq_str t s
  have hlt := World.block_lt_of_cell? w _ hc
  have hc2 := ((Ext.refl w).alloc (.cells #[.int .i64 n, .string t] 45)).cell hc
  generalize hb : decide (t = s) = b at hbq
  have Hb := Lib.hid hb
  clear hb hlt
  go_enter Try.func89, Try.ntmps89
  go_wp2
  go_ret
  exact ⟨by first | rfl | (rw [hbq]; rfl), (Ext.refl w).alloc _⟩
set_option maxRecDepth 100000 in
set_option maxHeartbeats 1000000 in
theorem idxM_any (v : Value) (l : List (Int × ByteArray)) (s : ByteArray) (g0 : Nat) (w : World) (hv : SliceOf rMb w v l) (hl : l.length ≤ 1000000) (hc : w.cell? ⟨g0, 0, none⟩ = some (.string s)) :
    Calls Try.prog 88 #[v, .func (Fn.func 89) #[] #[.pointer (some ⟨g0, 0, none⟩)]] w fun e w' => e = .returned (.int .i64 (atZ l s)) ∧ Ext w w' := by
  obtain ⟨a, cap, rfl, hle, hm, h0, _⟩ := id hv
  unfold maxLen at hm
  have Hc := Lib.hid hc
  clear hc
  go_enter Try.func88, Try.ntmps88
  go_wp2_with fail
  go_loopw [5, 8] (fun _ i wr => ∃ k : Nat, i = .int .i64 (k : Int) ∧ k ≤ l.length ∧ (∀ j x, j < k → l[j]? = some x → decide (x.2 ≠ s) = true) ∧ Ext w wr) (fun _ i _ => l.length - (intOf i).toNat)
  case atStart => exact ⟨0, rfl, by omega, fun j x hj => by omega, Ext.refl _⟩
  case round =>
    obtain ⟨k, rfl, hk, hall, hx0⟩ := hrel
    have Hall := Lib.hid hall
    have Hx0 := Lib.hid hx0
    have hvr := hv.mono rMb_mono hx0
    clear hall hx0
    by_cases hlt : k < l.length
    · obtain ⟨x, hx⟩ : ∃ x, l[k]? = some x := ⟨_, List.getElem?_eq_getElem hlt⟩
      obtain ⟨g, o, rfl, hu, hu', hs1, hs2⟩ := hvr.atMb hx
      have Hx := Lib.hid hx
      obtain ⟨n, t⟩ := x
      simp only at hu hu'
      clear hx hs1 hs2
      by_cases hts : t = s
      · have Hat : Hid (atZ l s = (k : Int)) := Lib.hid (by
          have e1 : atF l s = k := tw_len _ l k (by omega) Hall.out (fun x hx => by rw [Hx.out] at hx; cases hx; simp [hts])
          unfold atZ
          rw [e1, if_pos hlt])
        have Hts := Lib.hid (decide_eq_true hts)
        clear hts
        go_wp2_with fail
        refine (zclo_any n t s g0 _ (Hx0.out.cell Hc.out)).mono ?_
        rintro e w1 ⟨rfl, hx1⟩
        rw [Hts.out]
        go_wp2_with fail
        go_ret
        exact ⟨by rw [Hat.out]; rfl, Hx0.out.then hx1⟩
      · have Hall2 : Hid (∀ j x, j < k + 1 → l[j]? = some x → decide (x.2 ≠ s) = true) := Lib.hid (fun j x hj hx => by
          by_cases e : j = k
          · rw [e, Hx.out] at hx; cases hx; simpa using hts
          · exact Hall.out j x (by omega) hx)
        have Hts := Lib.hid (decide_eq_false hts)
        clear hts
        go_wp2_with fail
        refine (zclo_any n t s g0 _ (Hx0.out.cell Hc.out)).mono ?_
        rintro e w1 ⟨rfl, hx1⟩
        rw [Hts.out]
        go_wp2_with fail
        exact ⟨⟨k + 1, by go_num, by omega, Hall2.out, Hx0.out.then hx1⟩, by simp [intOf]; omega⟩
    · obtain rfl : k = l.length := by omega
      have Hat : Hid (atZ l s = -1) := Lib.hid (by
        have e1 : atF l s = l.length := tw_len _ l _ (by omega) Hall.out (fun x hx => by simp at hx)
        unfold atZ
        rw [e1, if_neg (by omega)])
      go_wp2_with fail
      go_ret
      exact ⟨by rw [Hat.out]; rfl, Hx0.out⟩
set_option maxRecDepth 100000 in
set_option maxHeartbeats 400000 in
theorem zfind_any (v : Value) (l : List (Int × ByteArray)) (s : ByteArray) (w : World) (hv : SliceOf rMb w v l) (hl : l.length ≤ 1000000) :
    Calls Try.prog 84 #[v, .string s] w fun e w' => e = .returned (.int .i64 (atZ l s)) ∧ Ext w w' := by
  have hc := box1 w #[.string s] 9 (g := w.heap.size) (i := 0) (v := .string s) rfl rfl
  have Hc := Lib.hid hc
  clear hc
  go_enter Try.func84, Try.ntmps84
  go_wp2_with fail
  refine (idxM_any v l s w.heap.size _ (hv.mono rMb_mono ((Ext.refl w).alloc _)) hl Hc.out).mono ?_
  rintro e w1 ⟨rfl, hx1⟩
  go_wp2_with fail
  go_ret
  exact ⟨rfl, ((Ext.refl w).alloc _).then hx1⟩
end Go.Proofs.Ythclkljdnmokcaa
