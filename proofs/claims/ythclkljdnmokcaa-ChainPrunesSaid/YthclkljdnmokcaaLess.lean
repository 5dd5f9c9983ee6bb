/-
  The reference's order of texts, and which lists of pairs, of texts are right: walked.
-/
import Derived.Test.YthclkljdnmokcaaSame14
set_option linter.unusedVariables false
set_option linter.unusedSimpArgs false
namespace Go.Proofs.Ythclkljdnmokcaa
open Go.RowKit Go.Proofs

/-- octet by octet -/
def lessL : List UInt8 → List UInt8 → Bool
  | [], [] => false
  | [], _ :: _ => true
  | _ :: _, [] => false
  | x :: a, y :: b => if x = y then lessL a b else decide (x.toNat < y.toNat)
def lessB (a b : ByteArray) : Bool := lessL a.toList b.toList
theorem bget (s : ByteArray) (k : Nat) (h : k < s.size) : s.toList[k]? = some s[k] := by
  rw [ByteArray.toList_eq]
  simp [ByteArray.getElem_eq_getElem_data]
theorem bsize (s : ByteArray) : s.toList.length = s.size := by rw [ByteArray.toList_eq]; simp
theorem lessL_step {a b : List UInt8} {k : Nat} {x y : UInt8} (hx : a[k]? = some x) (hy : b[k]? = some y) : lessL (a.drop k) (b.drop k) = if x = y then lessL (a.drop (k + 1)) (b.drop (k + 1)) else decide (x.toNat < y.toNat) := by
  obtain ⟨h1, h2⟩ := List.getElem?_eq_some_iff.1 hx
  obtain ⟨h3, h4⟩ := List.getElem?_eq_some_iff.1 hy
  rw [List.drop_eq_getElem_cons h1, List.drop_eq_getElem_cons h3, h2, h4, lessL]
theorem lessL_end {a b : List UInt8} {k : Nat} (ha : k ≤ a.length) (hb : k ≤ b.length) (h : a.length = k ∨ b.length = k) : lessL (a.drop k) (b.drop k) = decide (a.length < b.length) := by
  rcases h with h | h
  · rw [List.drop_of_length_le (by omega : a.length ≤ k)]
    by_cases hb2 : b.length = k
    · rw [List.drop_of_length_le (by omega : b.length ≤ k)]
      simp [lessL]; omega
    · rw [List.drop_eq_getElem_cons (by omega : k < b.length)]
      simp [lessL]; omega
  · rw [List.drop_of_length_le (by omega : b.length ≤ k)]
    by_cases ha2 : a.length = k
    · rw [List.drop_of_length_le (by omega : a.length ≤ k)]
      simp [lessL]; omega
    · rw [List.drop_eq_getElem_cons (by omega : k < a.length)]
      simp [lessL]; omega
set_option maxRecDepth 100000 in
set_option maxHeartbeats 1000000 in
theorem less_any (a b : ByteArray) (w : World) (ha : a.size ≤ maxLen) (hb : b.size ≤ maxLen) :
    Calls Try.prog 71 #[.string a, .string b] w fun e w' => e = .returned (.bool (lessB a b)) ∧ ∃ n, w' = w.drewN n := by
  unfold maxLen at ha hb
  have hla := bsize a
  have hlb := bsize b
  go_enter Try.func71, Try.ntmps71
  go_wp2_with fail
  go_loopw [5] (fun i wr => ∃ k n : Nat, i = .int .i64 (k : Int) ∧ k ≤ a.size ∧ k ≤ b.size ∧ lessB a b = lessL (a.toList.drop k) (b.toList.drop k) ∧ wr = w.drewN n) (fun i _ => a.size - (intOf i).toNat)
  case atStart => exact ⟨0, 0, rfl, by omega, by omega, by simp [lessB], rfl⟩
  case round =>
    obtain ⟨k, n, rfl, hka, hkb, hL, rfl⟩ := hrel
    by_cases h1 : k < a.size
    · by_cases h2 : k < b.size
      · have hx := bget a k h1
        have hy := bget b k h2
        have hst := lessL_step hx hy
        rw [← hL] at hst
        clear hx hy hL hla hlb
        by_cases heq : a[k] = b[k]
        · rw [if_pos heq] at hst
          have hne : ((a[k].toNat : Int) != (b[k].toNat : Int)) = false := by rw [heq]; simp
          have Hst := Lib.hid hst
          clear hst heq
          go_wp2_with fail
          go_quiet (fail)
          go_wp2_with fail
          exact ⟨⟨k + 1, _, by go_num, by omega, by omega, Hst.out, rfl⟩, by simp [intOf]; omega⟩
        · rw [if_neg heq] at hst
          have hne : ((a[k].toNat : Int) != (b[k].toNat : Int)) = true := by
            rw [bne_iff_ne]
            exact fun e => heq (UInt8.toNat_inj.1 (by omega))
          have Hst := Lib.hid hst
          clear hst heq
          go_wp2_with fail
          go_quiet (fail)
          go_wp2_with fail
          go_quiet (fail)
          go_wp2
          go_ret
          exact ⟨by rw [Hst.out]; simp, _, by rw [World.drewN_drewN, World.drewN_drewN]⟩
      · have hend := lessL_end (a := a.toList) (b := b.toList) (k := k) (by omega) (by omega) (by omega)
        rw [← hL, hla, hlb] at hend
        have Hend := Lib.hid hend
        clear hend hL hla hlb
        go_wp2_with fail
        go_ret
        exact ⟨by rw [Hend.out]; simp, _, rfl⟩
    · have hend := lessL_end (a := a.toList) (b := b.toList) (k := k) (by omega) (by omega) (by omega)
      rw [← hL, hla, hlb] at hend
      have Hend := Lib.hid hend
      clear hend hL hla hlb
      go_wp2_with fail
      go_ret
      exact ⟨by rw [Hend.out]; simp, _, rfl⟩
/-- which pairs may stand where -/
def okP (l : List (ByteArray × ByteArray)) (k : Nat) : Bool :=
  match l[k]? with
  | none => true
  | some x => !decide (4096 < x.1.size) && (!decide (4096 < x.2.size) && (match k with | 0 => true | j + 1 => match l[j]? with | some y => lessB y.1 x.1 | none => true))
def allN (n : Nat) (f : Nat → Bool) : Bool := (List.range n).all f
theorem allN_false {n : Nat} {f : Nat → Bool} {k : Nat} (hk : k < n) (h : f k = false) : allN n f = false := by
  unfold allN
  rw [List.all_eq_false]
  exact ⟨k, List.mem_range.2 hk, by rw [h]; simp⟩
theorem allN_true {n : Nat} {f : Nat → Bool} (h : ∀ k, k < n → f k = true) : allN n f = true := by
  unfold allN
  rw [List.all_eq_true]
  exact fun k hk => h k (List.mem_range.1 hk)
def rightP (l : List (ByteArray × ByteArray)) : Bool := decide (l.length ≤ 512) && allN l.length (okP l)
set_option maxRecDepth 100000 in
set_option maxHeartbeats 2000000 in
theorem right10_any (v : Value) (l : List (ByteArray × ByteArray)) (w : World) (hv : SliceOf rPr w v l) :
    Calls Try.prog 40 #[v] w fun e w' => e = .returned (.bool (rightP l)) ∧ ∃ n, w' = w.drewN n := by
  obtain ⟨a, cap, rfl, hle, hm, h0, _⟩ := id hv
  unfold maxLen at hm
  by_cases hbig : 512 < l.length
  · have Hr : Hid (rightP l = false) := Lib.hid (by unfold rightP; rw [decide_eq_false (by omega)]; rfl)
    go_enter Try.func40, Try.ntmps40
    go_wp2_with fail
    go_ret
    exact ⟨by rw [Hr.out]; rfl, 0, rfl⟩
  · have Hr : Hid (rightP l = allN l.length (okP l)) := Lib.hid (by unfold rightP; rw [decide_eq_true (by omega)]; rfl)
    go_enter Try.func40, Try.ntmps40
    go_wp2_with fail
    go_loopw [3] (fun i wr => ∃ k : Nat, i = .int .i64 (k : Int) ∧ k ≤ l.length ∧ (∀ j, j < k → okP l j = true) ∧ ∃ n, wr = w.drewN n) (fun i _ => l.length - (intOf i).toNat)
    case atStart => exact ⟨0, rfl, by omega, fun j hj => by omega, 0, rfl⟩
    case round =>
      obtain ⟨k, rfl, hk, hall, n, hw⟩ := hrel
      have Hall := Lib.hid hall
      have Hw := Lib.hid hw
      have hvr : SliceOf rPr wr (.slice a l.length cap) l := hw ▸ (hv.mono rPr_mono ((Ext.refl w).drewN n))
      clear hall hw
      by_cases hlt : k < l.length
      · obtain ⟨x, hx⟩ : ∃ x, l[k]? = some x := ⟨_, List.getElem?_eq_getElem hlt⟩
        obtain ⟨g, o, rfl, hu, hu', hs1, hs2⟩ := hvr.atPr hx
        have Hx := Lib.hid hx
        unfold maxLen at hs1 hs2
        obtain ⟨x1, x2⟩ := x
        simp only at hu hu' hs1 hs2
        clear hx
        by_cases hA : 4096 < x1.size
        · have hd : decide ((4096 : Int) < (x1.size : Int)) = true := decide_eq_true (by omega)
          have Hf : Hid (rightP l = false) := Lib.hid (by rw [Hr.out]; exact allN_false hlt (by unfold okP; rw [Hx.out]; simp [hA]))
          go_wp2_with fail
          go_quiet (fail)
          go_wp2_with fail
          go_ret
          exact ⟨by rw [Hf.out]; rfl, _, by rw [Hw.out, World.drewN_drewN]⟩
        · have hd : decide ((4096 : Int) < (x1.size : Int)) = false := decide_eq_false (by omega)
          by_cases hB : 4096 < x2.size
          · have hd2 : decide ((4096 : Int) < (x2.size : Int)) = true := decide_eq_true (by omega)
            have Hf : Hid (rightP l = false) := Lib.hid (by rw [Hr.out]; exact allN_false hlt (by unfold okP; rw [Hx.out]; simp [hB]))
            go_wp2_with fail
            go_quiet (fail)
            go_wp2_with fail
            go_ret
            exact ⟨by rw [Hf.out]; rfl, _, by rw [Hw.out, World.drewN_drewN]⟩
          · have hd2 : decide ((4096 : Int) < (x2.size : Int)) = false := decide_eq_false (by omega)
            by_cases hk0 : k = 0
            · have Hok : Hid (okP l k = true) := Lib.hid (by unfold okP; rw [Hx.out, hk0]; simp; omega)
              have Hk0 := Lib.hid hk0
              have hd3 : decide ((0 : Int) < (k : Int)) = false := decide_eq_false (by omega)
              have hd4 : decide (0 < k) = false := decide_eq_false (by omega)
              clear hk0
              go_wp2_with fail
              go_quiet (fail)
              go_wp2_with fail
              exact ⟨⟨k + 1, by go_num, by omega, fun j hj => by (obtain rfl : j = k := by have := Hk0.out; omega); exact Hok.out, _, by rw [Hw.out, World.drewN_drewN]⟩, by simp [intOf]; omega⟩
            · obtain ⟨j, hj⟩ : ∃ j : Nat, (k : Int) - 1 = (j : Int) := ⟨k - 1, by omega⟩
              have hkj := Lib.hid (show k = j + 1 by omega)
              have hjl : j < l.length := by omega
              obtain ⟨y, hy⟩ : ∃ y, l[j]? = some y := ⟨_, List.getElem?_eq_getElem hjl⟩
              obtain ⟨g', o', e', hv1, hv1', ht1, ht2⟩ := hvr.atPr hy
              obtain ⟨rfl, rfl⟩ : g = g' ∧ o = o' := by
                have h := e'
                simp at h
                exact h
              obtain ⟨y1, y2⟩ := y
              have Hy := Lib.hid hy
              have hkp : 0 < k := by omega
              have hd3 : decide ((0 : Int) < (k : Int)) = true := decide_eq_true (by omega)
              simp only at hv1 hv1' ht1 ht2
              have hs1' : x1.size ≤ maxLen := by unfold maxLen; omega
              clear e' hy hk0
              have Hokv : Hid (okP l k = lessB y1 x1) := Lib.hid (by
                have e1 : l[j + 1]? = some (x1, x2) := by rw [← hkj.out]; exact Hx.out
                rw [hkj.out]
                unfold okP
                rw [e1]
                simp only [Hy.out]
                simp [hA, hB])
              cases hle : lessB y1 x1 with
              | true =>
                have Hle := Lib.hid hle
                have Hok : Hid (okP l k = true) := Lib.hid (by rw [Hokv.out, hle])
                clear hle
                go_wp2_with fail
                go_quiet ((go_at_call 71; exact Calls.quiet_of (Hle.out ▸ less_any y1 x1 _ ht1 hs1')))
                go_wp2_with fail
                exact ⟨⟨k + 1, by go_num, by omega, fun j hj => by
                  by_cases e : j = k
                  · rw [e]; exact Hok.out
                  · exact Hall.out j (by omega), _, by rw [Hw.out, World.drewN_drewN]⟩, by simp [intOf]; omega⟩
              | false =>
                have Hle := Lib.hid hle
                have Hf : Hid (rightP l = false) := Lib.hid (by rw [Hr.out]; exact allN_false hlt (by rw [Hokv.out, hle]))
                clear hle
                go_wp2_with fail
                go_quiet ((go_at_call 71; exact Calls.quiet_of (Hle.out ▸ less_any y1 x1 _ ht1 hs1')))
                go_wp2_with fail
                go_ret
                exact ⟨by rw [Hf.out]; rfl, _, by rw [Hw.out, World.drewN_drewN]⟩
      · obtain rfl : k = l.length := by omega
        have Hf : Hid (rightP l = true) := Lib.hid (by rw [Hr.out]; exact allN_true Hall.out)
        go_wp2_with fail
        go_ret
        exact ⟨by rw [Hf.out]; rfl, _, Hw.out⟩
end Go.Proofs.Ythclkljdnmokcaa
