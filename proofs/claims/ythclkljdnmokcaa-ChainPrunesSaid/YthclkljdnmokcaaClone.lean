/-
  Slices cloned: walked.
-/
import Derived.Test.YthclkljdnmokcaaSame14
import Derived.Test.YthclkljdnmokcaaOwn2
set_option linter.unusedVariables false
set_option linter.unusedSimpArgs false
namespace Go.Proofs.Ythclkljdnmokcaa
open Go.RowKit Go.Proofs

theorem el_S : El Try.prog 27 9 1 16 := El.mk' (z := .string ByteArray.empty) Try.underlying27 (by kernel_rfl) rfl (by decide)
theorem el_P : El Try.prog 26 43 2 32 := El.mk' (z := .agg #[.string ByteArray.empty, .string ByteArray.empty]) Try.underlying26 (by kernel_rfl) rfl (by decide)
theorem el_M : El Try.prog 28 45 2 24 := El.mk' (z := .agg #[.int .i64 0, .string ByteArray.empty]) Try.underlying28 (by kernel_rfl) rfl (by decide)
theorem rPr_flat : rPr.Flat := fun _ _ _ _ h => h
theorem rMb_flat : rMb.Flat := fun _ _ _ _ h => h
theorem rPr_one : rPr.One := fun _ _ _ h => by obtain ⟨rfl, _⟩ := h; exact ⟨rfl, by simp [Value.oneCell']⟩
theorem rMb_one : rMb.One := fun _ _ _ h => by obtain ⟨rfl, _⟩ := h; exact ⟨rfl, by simp [Value.oneCell']⟩
set_option maxRecDepth 100000 in
set_option maxHeartbeats 400000 in
theorem clone_S (v : Value) (l : List ByteArray) (w : World) (hv : SliceOf rStr w v l) (hl : l.length ≤ 1000000) :
    Calls Try.prog 48 #[v] w (RetOwn rStr 9 w l) := by
  obtain ⟨a, cap, rfl, hle, hm, h0, _⟩ := id hv
  have hnil := fun (w : World) (a : Option Addr) (n c n' c' : Nat) => Lib.run_eql_slice_nil (P := Try.prog) w 27 9 a n c n' c' Try.underlying27
  clear hm
  cases a with
  | none =>
    obtain rfl := h0 rfl
    obtain rfl : l = [] := List.eq_nil_of_length_eq_zero (by omega)
    go_enter Try.func48, Try.ntmps48
    go_wp2
    go_ret
    exact ⟨_, rfl, Own.nil _ _ _ _, Ext.refl _⟩
  | some ad =>
    have hA : ([] : List ByteArray).length + l.length ≤ maxLen := by unfold maxLen; simp; omega
    have hB : (([] : List ByteArray).length + l.length) * 16 ≤ 140737488355328 := by simp; omega
    have HA := Lib.hid hA
    have HB := Lib.hid hB
    clear hA hB h0
    go_enter Try.func48, Try.ntmps48
    go_wp2_with (at_builtin; go_loud (refine append_law rfl (.tmp 5) (.tmp 6) rfl el_S rStr_one _ _ rfl (Own.lit0 rStr 9 w rfl (Nat.le_refl _)) _ l rfl (hv.mono rStr_mono ((Ext.refl _).alloc _)) (fun _ _ _ _ _ h => h) HA.out HB.out (by simp) ?_); intro v' w' hown' hg')
    go_ret
    refine ⟨_, rfl, hown', ?_⟩
    exact ((Ext.refl w).alloc _).grown hg' (by simp) (by intro k hk; cases hk; exact Nat.le_refl _)

set_option maxRecDepth 100000 in
set_option maxHeartbeats 400000 in
theorem clone_P (v : Value) (l : List (ByteArray × ByteArray)) (w : World) (hv : SliceOf rPr w v l) (hl : l.length ≤ 1000000) :
    Calls Try.prog 47 #[v] w (RetOwn rPr 43 w l) := by
  obtain ⟨a, cap, rfl, hle, hm, h0, _⟩ := id hv
  have hnil := fun (w : World) (a : Option Addr) (n c n' c' : Nat) => Lib.run_eql_slice_nil (P := Try.prog) w 26 43 a n c n' c' Try.underlying26
  clear hm
  cases a with
  | none =>
    obtain rfl := h0 rfl
    obtain rfl : l = [] := List.eq_nil_of_length_eq_zero (by omega)
    go_enter Try.func47, Try.ntmps47
    go_wp2
    go_ret
    exact ⟨_, rfl, Own.nil _ _ _ _, Ext.refl _⟩
  | some ad =>
    have hA : ([] : List (ByteArray × ByteArray)).length + l.length ≤ maxLen := by unfold maxLen; simp; omega
    have hB : (([] : List (ByteArray × ByteArray)).length + l.length) * 32 ≤ 140737488355328 := by simp; omega
    have HA := Lib.hid hA
    have HB := Lib.hid hB
    clear hA hB h0
    go_enter Try.func47, Try.ntmps47
    go_wp2_with (at_builtin; go_loud (refine append_law rfl (.tmp 5) (.tmp 6) rfl el_P rPr_one _ _ rfl (Own.lit0 rPr 43 w rfl (Nat.le_refl _)) _ l rfl (hv.mono rPr_mono ((Ext.refl _).alloc _)) (fun _ _ _ _ _ h => h) HA.out HB.out (by simp) ?_); intro v' w' hown' hg')
    go_ret
    refine ⟨_, rfl, hown', ?_⟩
    exact ((Ext.refl w).alloc _).grown hg' (by simp) (by intro k hk; cases hk; exact Nat.le_refl _)

set_option maxRecDepth 100000 in
set_option maxHeartbeats 400000 in
theorem clone_M (v : Value) (l : List (Int × ByteArray)) (w : World) (hv : SliceOf rMb w v l) (hl : l.length ≤ 1000000) :
    Calls Try.prog 49 #[v] w (RetOwn rMb 45 w l) := by
  obtain ⟨a, cap, rfl, hle, hm, h0, _⟩ := id hv
  have hnil := fun (w : World) (a : Option Addr) (n c n' c' : Nat) => Lib.run_eql_slice_nil (P := Try.prog) w 28 45 a n c n' c' Try.underlying28
  clear hm
  cases a with
  | none =>
    obtain rfl := h0 rfl
    obtain rfl : l = [] := List.eq_nil_of_length_eq_zero (by omega)
    go_enter Try.func49, Try.ntmps49
    go_wp2
    go_ret
    exact ⟨_, rfl, Own.nil _ _ _ _, Ext.refl _⟩
  | some ad =>
    have hA : ([] : List (Int × ByteArray)).length + l.length ≤ maxLen := by unfold maxLen; simp; omega
    have hB : (([] : List (Int × ByteArray)).length + l.length) * 24 ≤ 140737488355328 := by simp; omega
    have HA := Lib.hid hA
    have HB := Lib.hid hB
    clear hA hB h0
    go_enter Try.func49, Try.ntmps49
    go_wp2_with (at_builtin; go_loud (refine append_law rfl (.tmp 5) (.tmp 6) rfl el_M rMb_one _ _ rfl (Own.lit0 rMb 45 w rfl (Nat.le_refl _)) _ l rfl (hv.mono rMb_mono ((Ext.refl _).alloc _)) (fun _ _ _ _ _ h => h) HA.out HB.out (by simp) ?_); intro v' w' hown' hg')
    go_ret
    refine ⟨_, rfl, hown', ?_⟩
    exact ((Ext.refl w).alloc _).grown hg' (by simp) (by intro k hk; cases hk; exact Nat.le_refl _)

end Go.Proofs.Ythclkljdnmokcaa
