/-
  The law ValueUnpacks, walked.
-/
import Derived.Test.YthclkljdnmokcaaRefUnp1
set_option linter.unusedVariables false
set_option linter.unusedSimpArgs false
namespace Go.Proofs.Ythclkljdnmokcaa
open Go.RowKit Go.Proofs

theorem wordAt_ge {l : List UInt8} {i : Nat} {r : ByteArray × Nat} (h : wordAt l i = some r) : i + 2 ≤ r.2 := by
  unfold wordAt at h
  split at h
  · split at h
    · cases h; simp only; omega
    · cases h
  · cases h
theorem many_ge {α : Type} (f : Nat → Option (α × Nat)) (hf : ∀ i r, f i = some r → i ≤ r.2) : ∀ n i r, many f n i = some r → i ≤ r.2
  | 0, i, r, h => by cases h; exact Nat.le_refl _
  | n + 1, i, r, h => by
    simp only [many] at h
    cases h1 : many f n i with
    | none => rw [h1] at h; cases h
    | some r1 =>
      rw [h1] at h
      simp only [Option.bind_some] at h
      cases h2 : f r1.2 with
      | none => rw [h2] at h; cases h
      | some r2 =>
        rw [h2] at h
        cases h
        have := many_ge f hf n i r1 h1
        have := hf _ _ h2
        simp only
        omega
theorem unpackB_pos {l : List UInt8} {r : Val × Nat} (h : unpackB l = some r) : 0 < r.2 := by
  unfold unpackB at h
  split at h
  · cases hr : readB l with
    | none => rw [hr] at h; cases h
    | some q =>
      rw [hr] at h
      simp only [Option.bind_some] at h
      split at h
      · cases h
        unfold readB at hr
        split at hr
        · cases h1 : wordAt l 1 with
          | none => rw [h1] at hr; cases hr
          | some s => rw [h1] at hr; cases hr; have := wordAt_ge h1; simp only; omega
        · split at hr
          · cases h1 : many (pairAt l) (bNum ((l.drop 1).take 2)) 3 with
            | none => rw [h1] at hr; cases hr
            | some s =>
              rw [h1] at hr; cases hr
              have := many_ge (pairAt l) (fun i r hir => by
                unfold pairAt at hir
                cases h2 : wordAt l i with
                | none => rw [h2] at hir; cases hir
                | some s1 =>
                  rw [h2] at hir
                  simp only [Option.bind_some] at hir
                  cases h3 : wordAt l s1.2 with
                  | none => rw [h3] at hir; cases hir
                  | some s2 => rw [h3] at hir; cases hir; have := wordAt_ge h2; have := wordAt_ge h3; simp only; omega) _ _ _ h1
              simp only; omega
          · split at hr
            · cases h1 : many (membAt l) (bNum ((l.drop 1).take 2)) 3 with
              | none => rw [h1] at hr; cases hr
              | some s =>
                rw [h1] at hr; cases hr
                have := many_ge (membAt l) (fun i r hir => by
                  unfold membAt at hir
                  split at hir
                  · cases h2 : wordAt l (i + 8) with
                    | none => rw [h2] at hir; cases hir
                    | some s1 => rw [h2] at hir; cases hir; have := wordAt_ge h2; simp only; omega
                  · cases hir) _ _ _ h1
                simp only; omega
            · cases h1 : many (wordAt l) (bNum ((l.drop 1).take 2)) 3 with
              | none => rw [h1] at hr; cases hr
              | some s =>
                rw [h1] at hr; cases hr
                have := many_ge (wordAt l) (fun i r hir => by have := wordAt_ge hir; omega) _ _ _ h1
                simp only; omega
      · cases h
  · cases h
theorem resU_ok (l : List UInt8) : (resU l).2.2 = decide (0 < (resU l).2.1) := by
  unfold resU
  cases h : unpackB l with
  | none => rfl
  | some r => have := unpackB_pos h; simp only; rw [decide_eq_true this]
set_option maxRecDepth 100000 in
set_option maxHeartbeats 4000000 in
theorem valueUnpacks_walk (w : World) (v : Value) (l : List UInt8) (hv : SliceOf rByte w v l) :
    Calls Try.prog 6 #[v] w fun e w' => e = .returned (.bool true) ∧ Ext w w' := by
  obtain ⟨a, cap, rfl, hle, hm⟩ := len_of' hv
  have Hv := Lib.hid hv
  clear hv
  go_enter Try.func6, Try.ntmps6
  go_wp2_with fail
  refine (awake14 _).mono ?_
  rintro e w1 ⟨rfl, hx1⟩
  have Hx1 := Lib.hid hx1
  clear hx1
  by_cases hlen : 4000 < l.length
  · have hd : decide ((4000 : Int) < (l.length : Int)) = true := decide_eq_true (by omega)
    have hd2 : decide (4000 < l.length) = true := decide_eq_true hlen
    go_wp2_with fail
    refine (awake14 _).mono ?_
    rintro e w2 ⟨rfl, hx2⟩
    go_wp2
    go_ret
    exact ⟨rfl, Hx1.out.then hx2⟩
  · have hd : decide ((4000 : Int) < (l.length : Int)) = false := decide_eq_false (by omega)
    have hd2 : decide (4000 < l.length) = false := decide_eq_false hlen
    have HA : Hid (([] : List UInt8).length + l.length ≤ maxLen) := Lib.hid (by unfold maxLen; simp; omega)
    have HB : Hid ((([] : List UInt8).length + l.length) * 1 ≤ 140737488355328) := Lib.hid (by simp; omega)
    go_wp2_with (at_builtin; (refine append_law rfl (.tmp 17) (.tmp 18) rfl el_B rByte_one _ _ rfl (Own.lit0 rByte 5 w1 rfl (Nat.le_refl _)) _ l rfl (Hv.out.mono rByte_mono (Hx1.out.then ((Ext.refl _).alloc _))) (fun _ _ _ _ _ h => h) HA.out HB.out (by simp) ?_); intro v2 w2 hown2 hg2; obtain ⟨A2, C2, hv2, _, _, _, _⟩ := id hown2.slice; subst hv2)
    have hx2 : Ext w1 w2 := ((Ext.refl w1).alloc _).grown hg2 (by simp) (by intro k hk; cases hk; exact Nat.le_refl _)
    have Hx2 := Lib.hid (Hx1.out.then hx2)
    refine (unpack_any _ l _ (by have := hown2.slice; rwa [List.nil_append] at this) (by omega)).mono ?_
    rintro e w3 ⟨p, t, z, rfl, hpts, hkw, hsw, hx3⟩
    have hok := resU_ok l
    obtain ⟨X, n, b, hres⟩ : ∃ X n b, resU l = (X, n, b) := ⟨_, _, _, rfl⟩
    rw [hres] at hpts hkw hsw hok ⊢
    simp only at hpts hkw hsw hok ⊢
    obtain ⟨pa, pc, rfl, _, _⟩ := len_of' hpts.1
    obtain ⟨ta, tc, rfl, _, _⟩ := len_of' hpts.2.1
    obtain ⟨za, zc, rfl, _, _⟩ := len_of' hpts.2.2
    have Hres := Lib.hid hres
    have Hok := Lib.hid hok
    have Hx3 := Lib.hid (Hx2.out.then hx3)
    have Hpts := Lib.hid hpts
    have hbx := vbox_new w3 rfl X (.slice pa X.pairs.length pc) (.slice ta X.texts.length tc) (.slice za X.zset.length zc) (ty := 30)
    have Hbx := Lib.hid hbx
    have hxa : Ext w3 (w3.alloc (.cells #[.int .i64 X.kind, .string X.text, .slice pa X.pairs.length pc, .slice ta X.texts.length tc, .slice za X.zset.length zc] 30)) := (Ext.refl w3).alloc _
    have Hxa := Lib.hid hxa
    have HwS := Lib.hid (heap_alloc_new w3 (.cells #[.int .i64 X.kind, .string X.text, .slice pa X.pairs.length pc, .slice ta X.texts.length tc, .slice za X.zset.length zc] 30))
    clear hx2 hx3 hpts hok hres hown2 hg2 hbx hxa
    go_wp2_with fail
    refine (refunpack_any _ l _ (Hv.out.mono rByte_mono (Hx3.out.then Hxa.out)) (by omega)).mono ?_
    rintro e w4 ⟨p2, t2, z2, rfl, hpts2, hkw2, hsw2, hx4⟩
    rw [Hres.out] at hpts2 hkw2 hsw2 ⊢
    simp only at hpts2 hkw2 hsw2 ⊢
    obtain ⟨pa2, pc2, rfl, _, _⟩ := len_of' hpts2.1
    obtain ⟨ta2, tc2, rfl, _, _⟩ := len_of' hpts2.2.1
    obtain ⟨za2, zc2, rfl, _, _⟩ := len_of' hpts2.2.2
    have Hx4 := Lib.hid ((Hx3.out.then Hxa.out).then hx4)
    have hxb : Ext w4 (w4.alloc (.cells #[.int .i64 X.kind, .string X.text, .slice pa2 X.pairs.length pc2, .slice ta2 X.texts.length tc2, .slice za2 X.zset.length zc2] 30)) := (Ext.refl w4).alloc _
    obtain ⟨c0, c1, c2, c3, c4⟩ := (Hbx.out.mono hx4).mono hxb
    obtain ⟨d0, d1, d2, d3, d4⟩ := vbox_new w4 rfl X (.slice pa2 X.pairs.length pc2) (.slice ta2 X.texts.length tc2) (.slice za2 X.zset.length zc2) (ty := 30)
    have HP1 := Lib.hid (((Hpts.out.mono Hxa.out).mono hx4).mono hxb)
    have HP2 := Lib.hid (hpts2.mono hxb)
    have Hx5 := Lib.hid (Hx4.out.then hxb)
    have hnI : ∀ m : Nat, decide ((0 : Int) < (m : Int)) = decide (0 < m) := fun m => decide_eq_decide.2 (by omega)
    have hbd : decide ((0 : Int) < (n : Int)) = b := by rw [Hok.out]; exact hnI n
    have hbd2 : decide (0 < n) = b := Hok.out.symm
    clear hx4 hpts2 hxb
    cases b with
    | true =>
      go_wp2_with fail
      refine (same14 X X _ _ _ _ _ _ _ HP1.out HP2.out).mono ?_
      rintro e w6 ⟨rfl, hx6⟩
      rw [decide_eq_true (rfl : X = X)]
      go_wp2
      go_ret
      exact ⟨rfl, Hx5.out.then hx6⟩
    | false =>
      go_wp2_with fail
      refine (same14 X X _ _ _ _ _ _ _ HP1.out HP2.out).mono ?_
      rintro e w6 ⟨rfl, hx6⟩
      rw [decide_eq_true (rfl : X = X)]
      go_wp2
      go_ret
      exact ⟨rfl, Hx5.out.then hx6⟩
end Go.Proofs.Ythclkljdnmokcaa
