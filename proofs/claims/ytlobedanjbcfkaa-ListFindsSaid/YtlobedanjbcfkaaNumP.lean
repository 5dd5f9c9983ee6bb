/-
  num.Parse, walked: a number's own text is parsed, no other is.
-/
import Derived.Test.YtlobedanjbcfkaaNumW
set_option linter.unusedVariables false
namespace Go.Proofs.Ytlobedanjbcfkaa
open Go.RowKit Go.Proofs

theorem tdiv10_le (x : Int) (h : x ≤ 0) : x ≤ 10 * x.tdiv 10 ∧ 10 * x.tdiv 10 < x + 10 := by
  obtain ⟨m, rfl⟩ : ∃ m : Nat, x = -(m : Int) := ⟨(-x).toNat, by omega⟩
  rw [tdiv_neg10]
  omega
theorem str_ext {a b : ByteArray} (h : a.toList = b.toList) : a = b := by
  rw [ByteArray.toList_eq, ByteArray.toList_eq] at h
  cases a with | mk a => cases b with | mk b => congr 1; exact Array.toList_inj.1 h
theorem str_ne {a b : ByteArray} (h : a ≠ b) : (a.toList == b.toList) = false := by
  rw [beq_eq_false_iff_ne]
  exact fun e => h (str_ext e)
theorem isEmpty_false {t : ByteArray} (h : t.size ≠ 0) : t.toList.isEmpty = false := by
  rw [ByteArray.toList_eq, ← Bool.not_eq_true, List.isEmpty_iff_length_eq_zero]
  have : t.data.size ≠ 0 := h
  simpa using this
theorem isEmpty_true {t : ByteArray} (h : t.size = 0) : t.toList.isEmpty = true := by
  rw [ByteArray.toList_eq, List.isEmpty_iff_length_eq_zero]
  have : t.data.size = 0 := h
  simpa using this

set_option maxRecDepth 100000 in
set_option maxHeartbeats 1000000 in
theorem parse_bad (s : ByteArray) (w : World) (hs : s.size ≤ 9223372036854775807) (hbad : ∀ n, Fits n → decS n ≠ s) :
    Calls Try.prog 30 #[.string s] w fun e w' => e = .returned (.tuple #[.int .i64 0, .bool false]) ∧ Ext w w' := by
  have Hbad := Lib.hid hbad
  clear hbad
  by_cases h0 : 0 < s.size
  · by_cases h45 : s[0].toNat = 45
    · have hb : ((s[0].toNat : Int) == 45) = true := by simp; omega
      have hts : (s.extract 1 s.size).size = s.size - 1 := by simp
      by_cases h1 : s.size ≤ 1
      · have he := isEmpty_true (t := s.extract 1 s.size) (by omega)
        clear hts
        go_enter Try.func30, Try.ntmps30
        go_wp2
        go_ret2
        exact ⟨rfl, Ext.refl _⟩
      · have he := isEmpty_false (t := s.extract 1 s.size) (by omega)
        by_cases h19 : 20 < s.size
        · go_enter Try.func30, Try.ntmps30
          go_wp2_with fail
          go_ret2
          exact ⟨rfl, Ext.refl _⟩
        · go_enter Try.func30, Try.ntmps30
          go_wp2_with fail
          generalize hT : s.extract 1 s.size = t at hts
          have HT := Lib.hid hT
          rw [← hts]
          have htl : t.size ≤ 9223372036854775807 := by omega
          clear hT he hts
          go_loopw [4, 7, 8, 30] (fun n i7 d i wr => ∃ (k : Nat) (q : Int), k ≤ t.size ∧ i = .int .i64 k ∧ n = .int .i64 q ∧ -9223372036854775808 ≤ q ∧ q ≤ 0 ∧ wr = w) (fun _ _ _ i _ => t.size - (intOf i).toNat)
          case atStart => exact ⟨0, 0, by omega, rfl, rfl, by omega, by omega, rfl⟩
          case round =>
            obtain ⟨k, q, hk, rfl, rfl, hq1, hq2, rfl⟩ := hrel
            by_cases hlt : k < t.size
            · have hc := t[k].toNat_lt
              by_cases hd1 : t[k].toNat < 48
              · go_wp2_with fail
                go_ret2
                exact ⟨rfl, Ext.refl _⟩
              · by_cases hd2 : 57 < t[k].toNat
                · go_wp2_with fail
                  go_ret2
                  exact ⟨rfl, Ext.refl _⟩
                · have ht := tdiv10_le (-9223372036854775808 + ((t[k].toNat : Int) - 48)) (by omega)
                  by_cases hov : q < (-9223372036854775808 + ((t[k].toNat : Int) - 48)).tdiv 10
                  · go_wp2_with fail
                    go_ret2
                    exact ⟨rfl, Ext.refl _⟩
                  · go_wp2_with fail
                    exact ⟨⟨k + 1, _, by omega, by go_num, rfl, by omega, by omega, by first | exact trivial | rfl⟩, by simp [intOf]; omega⟩
            · go_wp2_with fail
              refine (print_any q _ ⟨by omega, by omega⟩).mono ?_
              rintro e w1 ⟨rfl, hx1⟩
              have hne2 := str_ne (Hbad.out q ⟨by omega, by omega⟩)
              go_wp2
              go_ret2
              exact ⟨rfl, hx1⟩
    · have hb : ((s[0].toNat : Int) == 45) = false := by simp; omega
      have he := isEmpty_false (t := s) (by omega)
      by_cases h19 : 19 < s.size
      · go_enter Try.func30, Try.ntmps30
        go_wp2_with fail
        go_ret2
        exact ⟨rfl, Ext.refl _⟩
      · go_enter Try.func30, Try.ntmps30
        go_wp2_with fail
        go_loopw [4, 7, 8, 30] (fun n i7 d i wr => ∃ (k : Nat) (q : Int), k ≤ s.size ∧ i = .int .i64 k ∧ n = .int .i64 q ∧ -9223372036854775808 ≤ q ∧ q ≤ 0 ∧ wr = w) (fun _ _ _ i _ => s.size - (intOf i).toNat)
        case atStart => exact ⟨0, 0, by omega, rfl, rfl, by omega, by omega, rfl⟩
        case round =>
          obtain ⟨k, q, hk, rfl, rfl, hq1, hq2, rfl⟩ := hrel
          by_cases hlt : k < s.size
          · have hc := s[k].toNat_lt
            by_cases hd1 : s[k].toNat < 48
            · go_wp2_with fail
              go_ret2
              exact ⟨rfl, Ext.refl _⟩
            · by_cases hd2 : 57 < s[k].toNat
              · go_wp2_with fail
                go_ret2
                exact ⟨rfl, Ext.refl _⟩
              · have ht := tdiv10_le (-9223372036854775808 + ((s[k].toNat : Int) - 48)) (by omega)
                by_cases hov : q < (-9223372036854775808 + ((s[k].toNat : Int) - 48)).tdiv 10
                · go_wp2_with fail
                  go_ret2
                  exact ⟨rfl, Ext.refl _⟩
                · go_wp2_with fail
                  exact ⟨⟨k + 1, _, by omega, by go_num, rfl, by omega, by omega, by first | exact trivial | rfl⟩, by simp [intOf]; omega⟩
          · by_cases hql : q = -9223372036854775808
            · subst hql
              go_wp2
              go_ret2
              exact ⟨rfl, Ext.refl _⟩
            · have hqe : (q == -9223372036854775808) = false := by simpa using hql
              have hq3 : -9223372036854775807 ≤ q := by omega
              have hne2 := str_ne (Hbad.out (-q) ⟨by omega, by omega⟩)
              clear hql
              go_wp2_with fail
              refine (print_any (-q) _ ⟨by omega, by omega⟩).mono ?_
              rintro e w1 ⟨rfl, hx1⟩
              go_wp2
              go_ret2
              exact ⟨rfl, hx1⟩
  · have hsz : s.size = 0 := by omega
    obtain rfl : s = ⟨#[]⟩ := by
      cases s with | mk d => congr 1; exact Array.eq_empty_of_size_eq_zero hsz
    go_enter Try.func30, Try.ntmps30
    go_wp2
    go_ret2
    exact ⟨rfl, Ext.refl _⟩

theorem take_snoc {α : Type} (l : List α) (k : Nat) (h : k < l.length) : l.take (k + 1) = l.take k ++ [l[k]] := by
  rw [List.take_succ_eq_append_getElem h]
theorem get_of_data {t : ByteArray} {D : List UInt8} (h : t.data.toList = D) (k : Nat) (h1 : k < t.size) (h2 : k < D.length) : t[k] = D[k] := by
  subst h
  rfl

set_option maxRecDepth 100000 in
set_option maxHeartbeats 1000000 in
theorem parse_good (n : Int) (w : World) (hn : Fits n) :
    Calls Try.prog 30 #[.string (decS n)] w fun e w' => e = .returned (.tuple #[.int .i64 n, .bool true]) ∧ Ext w w' := by
  obtain ⟨hn1, hn2⟩ := hn
  generalize hm : n.natAbs = m
  have hml : m ≤ 9223372036854775808 := by omega
  have hdl := dig_le19 hml
  have hdp : 0 < (dig m).length := List.length_pos_iff.2 (dig_ne m)
  generalize hD : dig m = D at hdl hdp
  have hdD : ∀ c ∈ D, isDigit c := by rw [← hD]; exact dig_digits m
  generalize hS : decS n = s
  have HS := Lib.hid hS
  have HvD : Hid (valD D = m) := Lib.hid (by rw [← hD, valD_dig])
  have HdD := Lib.hid hdD
  by_cases hneg : n < 0
  · have hmn : n = -(m : Int) := by omega
    have hsl : s.data.toList = 45 :: D := by
      rw [← hS]
      unfold decS decL
      rw [if_pos hneg, hm, hD]
    have hss : s.size = D.length + 1 := by
      rw [show s.size = s.data.toList.length from Array.length_toList.symm, hsl]
      try rfl
    have h0 : 0 < s.size := by omega
    have h45 : s[0].toNat = 45 := by
      have := get_of_data hsl 0 h0 (by simp)
      rw [this]; rfl
    have hb : ((s[0].toNat : Int) == 45) = true := by simp; omega
    have hts : (s.extract 1 s.size).size = s.size - 1 := by simp
    have htd : (s.extract 1 s.size).data.toList = D := by
      rw [ByteArray.data_extract]
      have := hsl
      simp only [Array.toList_extract, List.extract_eq_take_drop, hsl, List.drop_succ_cons, List.drop_zero]
      rw [hss]
      simp
    have he := isEmpty_false (t := s.extract 1 s.size) (by omega)
    have h20 : s.size ≤ 20 := by omega
    have Hss := Lib.hid hss
    clear hsl hD hS hm hdD hss
    go_enter Try.func30, Try.ntmps30
    go_wp2_with fail
    generalize hT : s.extract 1 s.size = t at hts htd
    have Hget := Lib.hid (get_of_data htd)
    have hts3 : t.size = D.length := by have := Hss.out; omega
    have Hts := Lib.hid hts3
    rw [← hts]
    have htl : t.size ≤ 20 := by omega
    have Hmn := Lib.hid hmn
    clear hT he hts htd hts3
    go_loopw [4, 7, 8, 30] (fun n7 i7 d i wr => ∃ (k : Nat) (q : Int), k ≤ t.size ∧ i = .int .i64 k ∧ n7 = .int .i64 q ∧ -9223372036854775808 ≤ q ∧ q ≤ 0 ∧ q = -((valD (D.take k) : Nat) : Int) ∧ wr = w) (fun _ _ _ i _ => t.size - (intOf i).toNat)
    case atStart => exact ⟨0, 0, by omega, rfl, rfl, by omega, by omega, by simp [valD], rfl⟩
    case round =>
      obtain ⟨k, q, hk, rfl, rfl, hq1, hq2, hq, rfl⟩ := hrel
      have Hq := Lib.hid hq
      have hp := valD_take_le D (k + 1)
      clear hq
      by_cases hlt : k < t.size
      · have hkD : k < D.length := by have := Hts.out; omega
        have hcD := Hget.out k hlt hkD
        have hdg : isDigit D[k] := HdD.out _ (List.getElem_mem hkD)
        rw [take_snoc D k hkD, valD_snoc, HvD.out] at hp
        have hrel2 : -((valD (D.take (k + 1)) : Nat) : Int) = 10 * q - ((t[k].toNat : Int) - 48) := by
          rw [take_snoc D k hkD, valD_snoc, hcD]
          have := Hq.out
          unfold isDigit at hdg
          omega
        have Hrel2 := Lib.hid hrel2
        unfold isDigit at hdg
        rw [← hcD] at hdg hp
        have ht := tdiv10_le (-9223372036854775808 + ((t[k].toNat : Int) - 48)) (by omega)
        have hlow : -9223372036854775808 ≤ 10 * q - ((t[k].toNat : Int) - 48) := by have := Hq.out; omega
        have hov : ¬ q < (-9223372036854775808 + ((t[k].toNat : Int) - 48)).tdiv 10 := by omega
        have hc := t[k].toNat_lt
        clear hrel2 hp hcD
        go_wp2_with fail
        refine ⟨⟨k + 1, _, by omega, by go_num, rfl, by omega, by omega, Hrel2.out.symm, by first | exact trivial | rfl⟩, by simp [intOf]; omega⟩
      · have hvm : valD (D.take k) = m := by rw [List.take_of_length_le (by have := Hts.out; omega), HvD.out]
        clear hp
        have hqn : q = n := by have := Hq.out; omega
        have Hqn := Lib.hid hqn
        have heq := HS.out
        rw [← hqn] at heq
        have hse : ((decS q).toList == s.toList) = true := by rw [heq]; simp
        clear hqn heq hvm
        go_wp2_with fail
        refine (print_any q _ ⟨by omega, by omega⟩).mono ?_
        rintro e w1 ⟨rfl, hx1⟩
        go_wp2
        go_ret2
        exact ⟨by rw [← Hqn.out]; rfl, hx1⟩
  · have hmn : n = (m : Int) := by omega
    have hsl : s.data.toList = D := by
      rw [← hS]
      unfold decS decL
      rw [if_neg hneg, hm, hD]
    have hss : s.size = D.length := by
      rw [show s.size = s.data.toList.length from Array.length_toList.symm, hsl]
      try rfl
    have h0 : 0 < s.size := by omega
    have h45 : ¬ s[0].toNat = 45 := by
      have h1 := get_of_data hsl 0 h0 hdp
      have := hdD D[0] (List.getElem_mem hdp)
      unfold isDigit at this
      rw [h1]; omega
    have hb : ((s[0].toNat : Int) == 45) = false := by simp; omega
    have he := isEmpty_false (t := s) (by omega)
    have Hget := Lib.hid (get_of_data hsl)
    have Hts := Lib.hid hss
    have h20 : s.size ≤ 19 := by omega
    have Hmn := Lib.hid hmn
    clear hsl hD hS hm hdD hss
    go_enter Try.func30, Try.ntmps30
    go_wp2_with fail
    go_loopw [4, 7, 8, 30] (fun n7 i7 d i wr => ∃ (k : Nat) (q : Int), k ≤ s.size ∧ i = .int .i64 k ∧ n7 = .int .i64 q ∧ -9223372036854775808 ≤ q ∧ q ≤ 0 ∧ q = -((valD (D.take k) : Nat) : Int) ∧ wr = w) (fun _ _ _ i _ => s.size - (intOf i).toNat)
    case atStart => exact ⟨0, 0, by omega, rfl, rfl, by omega, by omega, by simp [valD], rfl⟩
    case round =>
      obtain ⟨k, q, hk, rfl, rfl, hq1, hq2, hq, rfl⟩ := hrel
      have Hq := Lib.hid hq
      have hp := valD_take_le D (k + 1)
      clear hq
      by_cases hlt : k < s.size
      · have hkD : k < D.length := by have := Hts.out; omega
        have hcD := Hget.out k hlt hkD
        have hdg : isDigit D[k] := HdD.out _ (List.getElem_mem hkD)
        rw [take_snoc D k hkD, valD_snoc, HvD.out] at hp
        have hrel2 : -((valD (D.take (k + 1)) : Nat) : Int) = 10 * q - ((s[k].toNat : Int) - 48) := by
          rw [take_snoc D k hkD, valD_snoc, hcD]
          have := Hq.out
          unfold isDigit at hdg
          omega
        have Hrel2 := Lib.hid hrel2
        unfold isDigit at hdg
        rw [← hcD] at hdg hp
        have ht := tdiv10_le (-9223372036854775808 + ((s[k].toNat : Int) - 48)) (by omega)
        have hlow : -9223372036854775808 ≤ 10 * q - ((s[k].toNat : Int) - 48) := by have := Hq.out; omega
        have hov : ¬ q < (-9223372036854775808 + ((s[k].toNat : Int) - 48)).tdiv 10 := by omega
        have hc := s[k].toNat_lt
        clear hrel2 hp hcD
        go_wp2_with fail
        refine ⟨⟨k + 1, _, by omega, by go_num, rfl, by omega, by omega, Hrel2.out.symm, by first | exact trivial | rfl⟩, by simp [intOf]; omega⟩
      · have hvm : valD (D.take k) = m := by rw [List.take_of_length_le (by have := Hts.out; omega), HvD.out]
        clear hp
        have hqn : -q = n := by have := Hq.out; omega
        have hqe : (q == -9223372036854775808) = false := by
          have : q ≠ -9223372036854775808 := by omega
          simpa using this
        have hq3 : -9223372036854775807 ≤ q := by omega
        have Hqn := Lib.hid hqn
        have heq := HS.out
        rw [← hqn] at heq
        have hse : ((decS (-q)).toList == s.toList) = true := by rw [heq]; simp
        clear hqn heq hvm
        go_wp2_with fail
        refine (print_any (-q) _ ⟨by omega, by omega⟩).mono ?_
        rintro e w1 ⟨rfl, hx1⟩
        go_wp2
        go_ret2
        exact ⟨by rw [← Hqn.out]; rfl, hx1⟩
end Go.Proofs.Ytlobedanjbcfkaa
