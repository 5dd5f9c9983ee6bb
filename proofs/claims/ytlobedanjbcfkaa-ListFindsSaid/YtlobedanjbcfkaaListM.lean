/-
  Remove, walked.
-/
import Derived.Test.YtlobedanjbcfkaaListR
set_option linter.unusedVariables false
set_option linter.unusedSimpArgs false
namespace Go.Proofs.Ytlobedanjbcfkaa
open Go.RowKit Go.Proofs

def remOut (c : Int) (s : ByteArray) (l : List ByteArray) : List ByteArray × Int :=
  if c < 0 then ((remF c s 0 l.reverse).1.reverse, (remF c s 0 l.reverse).2) else remF c s 0 l
theorem remF_len (c : Int) (s : ByteArray) (n : Int) (l : List ByteArray) : (remF c s n l).1.length ≤ l.length := by
  induction l generalizing n with
  | nil => simp [remF]
  | cons x l ih =>
    rw [remF]
    split
    · have := ih (n + 1); simp; omega
    · have := ih n; simp; omega
set_option maxRecDepth 100000 in
set_option maxHeartbeats 400000 in
theorem remove_any (v : Value) (l : List ByteArray) (c : Int) (s : ByteArray) (w : World) (hv : SliceOf rStr w v l) (hl : l.length ≤ 1000) (hc : Fits c) :
    Calls Try.prog 20 #[v, .int .i64 c, .string s] w fun e w' => ∃ v', e = .returned (.tuple #[v', .int .i64 (remOut c s l).2]) ∧ Own rStr w.heap.size 9 w' v' (remOut c s l).1 ∧ Ext w w' := by
  have Hc := Lib.hid hc
  obtain ⟨hc1, hc2⟩ := hc
  have hx2 : Ext w ((w.alloc (.cells #[.int .i64 c] 3)).alloc (.cells #[.string s] 9)) := ((Ext.refl w).alloc _).alloc _
  have hcc : ((w.alloc (.cells #[.int .i64 c] 3)).alloc (.cells #[.string s] 9)).cell? ⟨w.heap.size, 0, none⟩ = some (.int .i64 c) := by
    refine Lib.cell?_alloc_some _ ?_
    unfold World.cell?; rw [heap_alloc_new]; rfl
  have hcs : ((w.alloc (.cells #[.int .i64 c] 3)).alloc (.cells #[.string s] 9)).cell? ⟨w.heap.size + 1, 0, none⟩ = some (.string s) := by
    have h := heap_alloc_new (w.alloc (.cells #[.int .i64 c] 3)) (.cells #[.string s] 9)
    rw [show (w.alloc (.cells #[.int .i64 c] 3)).heap.size = w.heap.size + 1 by simp] at h
    unfold World.cell?; rw [h]; rfl
  have hsz2 : ((w.alloc (.cells #[.int .i64 c] 3)).alloc (.cells #[.string s] 9)).heap.size = w.heap.size + 2 := by simp
  have hv2 := hv.mono rStr_mono hx2
  go_enter Try.func20, Try.ntmps20
  go_wp2_with fail
  generalize hW2 : (w.alloc (.cells #[.int .i64 c] 3)).alloc (.cells #[.string s] 9) = w2 at hx2 hcc hcs hsz2 hv2
  clear hW2
  refine (clone_S v l _ hv2 (by omega)).mono ?_
  rintro e w3 ⟨v3, rfl, hown3, hx3⟩
  have hcc3 := hx3.cell hcc
  have hcs3 := hx3.cell hcs
  have hcc2 := hcc
  have hcs2 := hcs
  clear hcc hcs hv2
  by_cases hneg : c < 0
  · have hout : remOut c s l = ((remF c s 0 l.reverse).1.reverse, (remF c s 0 l.reverse).2) := if_pos hneg
    have Hout := Lib.hid hout
    clear hout
    go_wp2_with fail
    refine (reverse_S v3 l w2 w3 w2.heap.size (Nat.le_refl _) hx3 hown3).mono ?_
    rintro e w4 ⟨⟨u, rfl⟩, hown4, hsz4, hx4, _⟩
    have hcc4 := hx4.cell hcc2
    have hcs4 := hx4.cell hcs2
    clear hown3 hcc3 hcs3
    have hg3 : w2.heap.size ≤ w3.heap.size := hx3.size
    have ho5 := hown4.mono rStr_mono ((Ext.refl w4).alloc (.cells #[.int .i64 0] 3))
    have hst5 : CloSt c s 0 (w.heap.size + 1) w.heap.size w3.heap.size (w4.alloc (.cells #[.int .i64 0] 3)) := by
      refine ⟨Lib.cell?_alloc_some _ hcc4, Lib.cell?_alloc_some _ hcs4, ?_, ?_⟩
      · have h := heap_alloc_new w4 (.cells #[.int .i64 0] 3)
        rw [hsz4] at h
        unfold World.cell?; rw [h]; rfl
      · have h := heap_alloc_new w4 (.cells #[.int .i64 0] 3)
        rw [hsz4] at h
        unfold World.frozen?; rw [h]; rfl
    have hlt := hown4.lt
    have hlt2 := hown4.lt2
    rw [hsz4] at hlt2
    have Hlt := Lib.hid hlt
    have Hlt2 := Lib.hid hlt2
    have Ho5 := Lib.hid ho5
    have Hst5 := Lib.hid hst5
    have Hx5 := Lib.hid (hx4.alloc (.cells #[.int .i64 0] 3))
    clear hlt hlt2 ho5 hst5 hown4
    have hdel := delf_any v3 l.reverse c s (w.heap.size + 1) w.heap.size w3.heap.size w2.heap.size w2 (w4.alloc (.cells #[.int .i64 0] 3)) Ho5.out (by first | omega | (simp; omega)) Hc.out Hst5.out (Nat.le_refl _) hg3 Hx5.out (by omega) (by omega) (fun e => by have := Hlt.out _ e; omega) (fun e => by have := Hlt.out _ e; omega) (fun e => by have := Hlt2.out _ e; omega)
    unfold cloV at hdel
    have Hdel := Lib.hid hdel
    clear hdel
    go_wp2_with fail
    refine Hdel.out.mono ?_
    rintro e w6 ⟨v6, rfl, hown6, hst6, hsz6, hx6, hob6⟩
    have Hob6 := Lib.hid hob6
    clear hob6
    have hn6 := hst6.2.2.1
    have hc6 := hst6.1
    have hf6 := hst6.2.2.2
    clear hst6
    have Hn6 := Lib.hid hn6
    clear hn6
    go_wp2_with fail
    have hg6 : ∀ k, v6.ownBlock = some k → k ≠ w3.heap.size := fun k e h => by
      rw [Hob6.out] at e
      have := Hlt2.out k e
      omega
    refine (reverse_S v6 _ w2 w6 w2.heap.size (Nat.le_refl _) hx6 hown6).mono ?_
    rintro e w7 ⟨⟨u7, rfl⟩, hown7, hsz7, hx7, hfr7⟩
    have hn7 := hfr7 ⟨w3.heap.size, 0, none⟩ _ (fun e => hg6 _ e rfl) Hn6.out
    have Hown7 := Lib.hid hown7
    clear hown6 hown7 hfr7
    go_wp2_with fail
    go_quiet (fail)
    go_wp2
    go_ret2
    refine ⟨v6, ?_, ?_, ?_⟩
    · rw [Hout.out]; rfl
    · rw [Hout.out]
      exact (Hown7.out.base (by omega)).mono rStr_mono ((Ext.refl _).drewN _)
    · exact (hx2.then hx7).drewN _
  · have hout : remOut c s l = remF c s 0 l := if_neg hneg
    have Hout := Lib.hid hout
    clear hout
    clear hcc2 hcs2
    have hg3 : w2.heap.size ≤ w3.heap.size := hx3.size
    have ho5 := hown3.mono rStr_mono ((Ext.refl w3).alloc (.cells #[.int .i64 0] 3))
    have hst5 : CloSt c s 0 (w.heap.size + 1) w.heap.size w3.heap.size (w3.alloc (.cells #[.int .i64 0] 3)) := by
      refine ⟨Lib.cell?_alloc_some _ hcc3, Lib.cell?_alloc_some _ hcs3, ?_, ?_⟩
      · have h := heap_alloc_new w3 (.cells #[.int .i64 0] 3)
        skip
        unfold World.cell?; rw [h]; rfl
      · have h := heap_alloc_new w3 (.cells #[.int .i64 0] 3)
        skip
        unfold World.frozen?; rw [h]; rfl
    have hlt := hown3.lt
    have hlt2 := hown3.lt2
    skip
    have Hlt := Lib.hid hlt
    have Hlt2 := Lib.hid hlt2
    have Ho5 := Lib.hid ho5
    have Hst5 := Lib.hid hst5
    have Hx5 := Lib.hid (hx3.alloc (.cells #[.int .i64 0] 3))
    clear hlt hlt2 ho5 hst5 hown3
    have hdel := delf_any v3 l c s (w.heap.size + 1) w.heap.size w3.heap.size w2.heap.size w2 (w3.alloc (.cells #[.int .i64 0] 3)) Ho5.out (by first | omega | (simp; omega)) Hc.out Hst5.out (Nat.le_refl _) hg3 Hx5.out (by omega) (by omega) (fun e => by have := Hlt.out _ e; omega) (fun e => by have := Hlt.out _ e; omega) (fun e => by have := Hlt2.out _ e; omega)
    unfold cloV at hdel
    have Hdel := Lib.hid hdel
    clear hdel
    go_wp2_with fail
    refine Hdel.out.mono ?_
    rintro e w6 ⟨v6, rfl, hown6, hst6, hsz6, hx6, hob6⟩
    have Hob6 := Lib.hid hob6
    clear hob6
    have hn6 := hst6.2.2.1
    have hc6 := hst6.1
    have hf6 := hst6.2.2.2
    clear hst6
    have Hown6 := Lib.hid hown6
    clear hown6
    go_wp2_with fail
    go_quiet (fail)
    go_wp2
    go_ret2
    refine ⟨v6, ?_, ?_, ?_⟩
    · rw [Hout.out]; rfl
    · rw [Hout.out]
      exact (Hown6.out.base (by omega)).mono rStr_mono ((Ext.refl _).drewN _)
    · exact (hx2.then hx6).drewN _
end Go.Proofs.Ytlobedanjbcfkaa
