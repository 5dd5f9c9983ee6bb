/-
  The reference's Word, walked.
-/
import Derived.Test.YthclkljdnmokcaaUnpack1
set_option linter.unusedVariables false
set_option linter.unusedSimpArgs false
namespace Go.Proofs.Ythclkljdnmokcaa
open Go.RowKit Go.Proofs

def wordI (l : List UInt8) (i : Int) : ByteArray × Int := if i < 0 then (ByteArray.empty, -1) else match wordAt l i.toNat with | some r => (r.1, (r.2 : Int)) | none => (ByteArray.empty, -1)
theorem wordI_neg (l : List UInt8) : wordI l (-1) = (ByteArray.empty, -1) := rfl
theorem wordI_nat (l : List UInt8) (i : Nat) : wordI l (i : Int) = match wordAt l i with | some r => (r.1, (r.2 : Int)) | none => (ByteArray.empty, -1) := by
  unfold wordI
  rw [if_neg (by omega)]
  rfl
theorem slice_mid {w : World} {a : Option Addr} {N cap : Nat} {l : List UInt8} (h : SliceOf rByte w (.slice a N cap) l) {p n : Nat} (hp : p + n ≤ l.length) (hpos : 0 < p) :
    SliceOf rByte w (.slice (if cap = p then a else a.map (·.add (p * 1))) n (cap - p)) ((l.drop p).take n) := by
  have hlen : ((l.drop p).take n).length = n := by simp; omega
  obtain ⟨a', c', e, h1, h2, h3, h4⟩ := h
  injection e with e1 e2 e3
  subst e1; subst e3
  have hl : l ≠ [] := by rintro rfl; simp at hp; omega
  obtain ⟨g, o, rfl, hg, hc⟩ := h4 hl
  rw [show (some (⟨g, o, none⟩ : Addr)).map (·.add (p * 1)) = some ⟨g, o + p * 1, none⟩ by simp [Addr.add_lit]]
  by_cases hn : n = 0
  · subst hn
    by_cases hcp : cap = p
    · rw [if_pos hcp]
      exact ⟨_, cap - p, by rw [hlen], by simp, by unfold maxLen at h2 ⊢; omega, (fun h => by cases h), fun h => absurd (by simp) h⟩
    · rw [if_neg hcp]
      exact ⟨_, cap - p, by rw [hlen], by simp, by unfold maxLen at h2 ⊢; omega, (fun h => by cases h), fun h => absurd (by simp) h⟩
  · rw [if_neg (by omega)]
    refine ⟨some ⟨g, o + p * 1, none⟩, cap - p, by rw [hlen], by omega, by unfold maxLen at h2 ⊢; omega, (fun h => by cases h), fun _ => ⟨g, o + p * 1, rfl, hg, fun j x hj => ?_⟩⟩
    have hjn : j < n := by have := (List.getElem?_eq_some_iff.1 hj).1; omega
    rw [List.getElem?_take_of_lt hjn, List.getElem?_drop] at hj
    obtain ⟨ecs, el, hcs, hre⟩ := hc (p + j) x hj
    refine ⟨ecs, el, fun i hi => ?_, hre⟩
    rw [← hcs i hi]
    congr 2
    show o + p * 1 + j * 1 + i = o + (p + j) * 1 + i
    omega
set_option maxRecDepth 100000 in
set_option maxHeartbeats 4000000 in
theorem refword_any (v : Value) (l : List UInt8) (i : Int) (w : World) (hv : SliceOf rByte w v l) (hl : l.length ≤ 100000000) (hi : -1 ≤ i ∧ i ≤ 200000000) :
    Calls Try.prog 56 #[v, .int .i64 i] w fun e w' => e = .returned (.tuple #[.string (wordI l i).1, .int .i64 (wordI l i).2]) ∧ Ext w w' := by
  obtain ⟨a, cap, rfl, hle, hm⟩ := len_of' hv
  obtain ⟨hi1, hi2⟩ := hi
  have hw1 : IntKind.i64.wrap ((l.length : Int) - i) = (l.length : Int) - i := IntWalk.i64_in _ (by omega)
  by_cases h0 : i < 0
  · obtain rfl : i = -1 := by omega
    rw [wordI_neg]
    go_enter Try.func56, Try.ntmps56
    go_wp2
    refine bodyPost_ret (v := .tuple #[.string ⟨#[]⟩, .int .i64 (-1)]) (by simp [results, Try.results56, go_sem]) rfl ?_
    exact ⟨rfl, Ext.refl _⟩
  · obtain ⟨k, rfl⟩ : ∃ k : Nat, i = (k : Int) := ⟨i.toNat, by omega⟩
    rw [wordI_nat]
    have hd0 : decide ((k : Int) < 0) = false := decide_eq_false (by omega)
    by_cases h2 : k + 2 ≤ l.length
    · obtain ⟨x, hx⟩ : ∃ x, l[k]? = some x := ⟨_, List.getElem?_eq_getElem (by omega)⟩
      obtain ⟨y, hy⟩ : ∃ y, l[k + 1]? = some y := ⟨_, List.getElem?_eq_getElem (by omega)⟩
      have hn := two_at hx hy
      obtain ⟨g, o, u, rfl, hu, hcu⟩ := hv.at1 rfl hx
      obtain ⟨g', o', u', e', hu2, hcu2⟩ := hv.at1 rfl hy
      obtain ⟨rfl, rfl⟩ : g = g' ∧ o = o' := by simpa using e'
      cases hcu
      cases hcu2
      have hxl := x.toNat_lt
      have hyl := y.toNat_lt
      have hd1 : decide ((l.length : Int) - (k : Int) < 2) = false := decide_eq_false (by omega)
      have hd2 : decide (l.length - k < 2) = false := decide_eq_false (by omega)
      obtain ⟨m, hmm⟩ : ∃ m, x.toNat * 256 + y.toNat = m := ⟨_, rfl⟩
      have hmi : (x.toNat : Int) * 256 + (y.toNat : Int) = (m : Int) := by omega
      have hm2 : m < 65536 := by omega
      rw [hmm] at hn
      have hw2 : IntKind.i64.wrap ((l.length : Int) - (k : Int) - 2) = (l.length : Int) - (k : Int) - 2 := IntWalk.i64_in _ (by omega)
      by_cases h3 : k + 2 + m ≤ l.length
      · have hwa : wordAt l k = some (bstr ((l.drop (k + 2)).take m), k + 2 + m) := by
          unfold wordAt
          rw [if_pos h2, hn, if_pos h3]; rfl
        rw [hwa]
        have hd3 : decide ((l.length : Int) - (k : Int) - 2 < (m : Int)) = false := decide_eq_false (by omega)
        have hsl := slice_mid hv (p := k + 2) (n := m) (by omega) (by omega)
        clear hn hwa hx hy
        by_cases hcap : cap = k + 2
        · rw [if_pos hcap, show cap - (k + 2) = 0 by omega] at hsl
          have hc := fun n => conv_bytes (hsl.mono rByte_mono ((Ext.refl w).drewN n))
          clear hv hsl
          go_enter Try.func56, Try.ntmps56
          go_wp2_with fail
          go_quiet (fail)
          go_wp2_with fail
          refine bodyPost_ret (v := .tuple #[.string (bstr ((l.drop (k + 2)).take m)), .int .i64 ((k + 2 + m : Nat) : Int)]) (by simp [results, Try.results56, go_sem]) rfl ?_
          exact ⟨rfl, (Ext.refl _).drewN _⟩
        · rw [if_neg hcap, Nat.mul_one] at hsl
          rw [show (some (⟨g, o, none⟩ : Addr)).map (·.add (k + 2)) = some ⟨g, o + (k + 2), none⟩ by simp [Addr.add_lit]] at hsl
          have hc := fun n => conv_bytes (hsl.mono rByte_mono ((Ext.refl w).drewN n))
          clear hv hsl
          go_enter Try.func56, Try.ntmps56
          go_wp2_with fail
          go_quiet (fail)
          go_wp2_with fail
          refine bodyPost_ret (v := .tuple #[.string (bstr ((l.drop (k + 2)).take m)), .int .i64 ((k + 2 + m : Nat) : Int)]) (by simp [results, Try.results56, go_sem]) rfl ?_
          exact ⟨rfl, (Ext.refl _).drewN _⟩
      · have hwa : wordAt l k = none := by
          unfold wordAt
          rw [if_pos h2, hn, if_neg h3]
        rw [hwa]
        have hd3 : decide ((l.length : Int) - (k : Int) - 2 < (m : Int)) = true := decide_eq_true (by omega)
        clear hv hn hwa hx hy
        go_enter Try.func56, Try.ntmps56
        go_wp2_with fail
        go_quiet (fail)
        go_wp2_with fail
        refine bodyPost_ret (v := .tuple #[.string ⟨#[]⟩, .int .i64 (-1)]) (by simp [results, Try.results56, go_sem]) rfl ?_
        exact ⟨rfl, (Ext.refl _).drewN _⟩
    · have hwa : wordAt l k = none := by
        unfold wordAt
        rw [if_neg h2]
      rw [hwa]
      have hd1 : decide ((l.length : Int) - (k : Int) < 2) = true := decide_eq_true (by omega)
      go_enter Try.func56, Try.ntmps56
      go_wp2
      refine bodyPost_ret (v := .tuple #[.string ⟨#[]⟩, .int .i64 (-1)]) (by simp [results, Try.results56, go_sem]) rfl ?_
      exact ⟨rfl, Ext.refl _⟩
end Go.Proofs.Ythclkljdnmokcaa
