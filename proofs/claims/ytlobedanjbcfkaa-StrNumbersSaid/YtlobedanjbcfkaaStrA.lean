/-
  The statements' example of layer 9, walked: Lay and SetBit at constants.
-/
import Derived.Test.YtlobedanjbcfkaaStrP
import Derived.Test.YtlobedanjbcfkaaRely2
import Derived.Lib.BufferWrite
import Derived.Laws.CopyOwn
set_option linter.unusedVariables false
set_option linter.unusedSimpArgs false
namespace Go.Proofs.Ytlobedanjbcfkaa
open Go.RowKit Go.Proofs

/-- 'copy(dst, s)' into a block of bytes -/
theorem copy_blk {w : World} {g : Nat} {L : List UInt8} {t : TypeId} (h : Blk w g L t) (o n cap : Nat) (s : ByteArray) (hle : s.size ≤ n) (hfit : o + s.size ≤ L.length) :
    ∃ w2, (∀ ty, (Builtin.copy_ #[52, 9] ty #[.slice (some ⟨g, o, none⟩) n cap, .string s]).run Try.prog w = .ok (goInt s.size) w2) ∧
      Blk w2 g (L.take o ++ s.data.toList ++ L.drop (o + s.size)) t ∧ w2.heap.size = w.heap.size ∧ ∀ w0 : World, w0.heap.size ≤ g → Ext w0 w → Ext w0 w2 := by
  refine ⟨_, fun ty => Lib.run_copy_row_string w _ _ ty 5 g o n cap s _ t Try.underlying52 (by kernel_rfl) h hle (by simpa using hfit), ?_, setRow_size .., fun w0 hw hx => below_setRow hx hw _⟩
  have h1 := setRow_heap w g _ (((L.map fun (b : UInt8) => Value.int .u8 (b.toNat : Int)).toArray.toList.take o ++ Lib.byteCells s.data.toList ++ (L.map fun (b : UInt8) => Value.int .u8 (b.toNat : Int)).toArray.toList.drop (o + s.size)).toArray) t (0, 0) h
  unfold Blk
  rw [h1]
  simp [Lib.byteCells]

theorem el_byte : El Try.prog 52 5 1 1 := El.mk' (z := .int .u8 0) Try.underlying52 (by kernel_rfl) rfl (by decide)
theorem info_parts' {P : Program} {e : TypeId} {z : Value} {size bytes : Nat} (h : (P.info? e).map (fun i => (i.zero, i.size, i.bytes)) = some (some z, size, bytes)) : ∃ i, P.info? e = some i ∧ i.zero = some z ∧ i.size = size ∧ i.bytes = bytes := by
  cases hi : P.info? e with
  | none => rw [hi] at h; simp at h
  | some i => rw [hi] at h; simp at h; exact ⟨i, rfl, h.1, h.2.1, h.2.2⟩
/-- 'make([]byte, n)' -/
theorem make_bytes (w : World) (n : Nat) (hn : n ≤ 140737488355328) :
    ∃ w2, (Instr.makeSlice 52 (.int .i64 (n : Int)) (.int .i64 (n : Int))).run Try.prog w = .ok (.slice (some ⟨w.heap.size, 0, none⟩) n n) w2 ∧
      Blk w2 w.heap.size (List.replicate n 0) 5 ∧ w2.heap.size = w.heap.size + 1 ∧ ∀ w0 : World, Ext w0 w → Ext w0 w2 := by
  obtain ⟨i, hi, hz, hs, hb⟩ := info_parts' (P := Try.prog) (e := 5) (z := .int .u8 0) (size := 1) (bytes := 1) (by kernel_rfl)
  have h := run_make (P := Try.prog) w 52 5 i (.int .u8 0) Try.underlying52 hi hz .i64 .i64 (n : Int) n (by omega) (Int.le_refl _) (by rw [hb]; omega) (by omega)
  simp only [Int.toNat_natCast, hs, Nat.mul_one] at h
  refine ⟨_, h, ?_, by simp, fun w0 hx => hx.alloc _⟩
  have h2 := heap_alloc_new w (.cells (madeCells (Value.int .u8 0).cells n) 5)
  unfold Blk
  rw [h2]
  have h3 : (madeCells (Value.int .u8 0).cells n).toList = List.replicate n (.int .u8 0) := toList_madeCells_one _ n
  have h4 : madeCells (Value.int .u8 0).cells n = ((List.replicate n (0 : UInt8)).map fun (b : UInt8) => Value.int .u8 (b.toNat : Int)).toArray := by
    apply Array.toList_inj.1
    rw [h3]
    simp
  rw [h4]

theorem wide1 (w : World) : Calls Try.prog 45 #[.string ⟨#[72, 101, 108, 108, 111]⟩, .int .i64 7] w fun e w' => e = .returned (.slice (some ⟨w.heap.size, 0, none⟩) 7 7) ∧ Blk w' w.heap.size [72, 101, 108, 108, 111, 0, 0] 5 ∧ w'.heap.size = w.heap.size + 1 ∧ Ext w w' := by
  obtain ⟨w1, hm, hb, hs, hx⟩ := make_bytes w 7 (by omega)
  have hm' : (Instr.makeSlice 52 (.int .i64 7) (.int .i64 7)).run Try.prog w = .ok (.slice (some ⟨w.heap.size, 0, none⟩) 7 7) w1 := hm
  obtain ⟨w2, h1, h2, h4, h3⟩ := copy_blk hb 0 7 7 ⟨#[72, 101, 108, 108, 111]⟩ (by decide) (by decide)
  have hx2 := h3 w (Nat.le_refl _) (hx w (Ext.refl w))
  have H2 := Lib.hid h2
  have hs2 := Lib.hid (show w2.heap.size = w.heap.size + 1 by omega)
  clear hm hx h3 h2 hb hs h4
  go_enter Try.func45, Try.ntmps45
  go_wp2
  go_ret
  exact ⟨rfl, H2.out, hs2.out, hx2⟩
theorem lay1 (w : World) : Calls Try.prog 32 #[.string ⟨#[72, 101, 108, 108, 111]⟩, .int .i64 6, .string ⟨#[120]⟩] w fun e w' => e = .returned (.tuple #[.string ⟨#[72, 101, 108, 108, 111, 0, 120]⟩, .int .i64 0]) ∧ Ext w w' := by
  go_enter Try.func32, Try.ntmps32
  go_wp2_with fail
  refine (wide1 _).mono ?_
  rintro e w1 ⟨rfl, hb1, hs1, hx1⟩
  obtain ⟨w2, h1, h2, h4, h3⟩ := copy_blk hb1 6 1 1 ⟨#[120]⟩ (by decide) (by decide)
  have hconv := conv_bytes (h2.slice 0 7 7 [72, 101, 108, 108, 111, 0, 120] rfl (by decide) (by decide) (by intro j x hx; rw [Nat.zero_add]; exact hx))
  have hx2 := h3 w (Nat.le_refl _) hx1
  have H2 := Lib.hid h2
  clear h2 h3
  go_wp2
  go_ret2
  exact ⟨rfl, hx2⟩

theorem wide2 (w : World) : Calls Try.prog 45 #[.string ⟨#[]⟩, .int .i64 1] w fun e w' => e = .returned (.slice (some ⟨w.heap.size, 0, none⟩) 1 1) ∧ Blk w' w.heap.size [0] 5 ∧ w'.heap.size = w.heap.size + 1 ∧ Ext w w' := by
  obtain ⟨w1, hm, hb, hs, hx⟩ := make_bytes w 1 (by omega)
  have hm' : (Instr.makeSlice 52 (.int .i64 1) (.int .i64 1)).run Try.prog w = .ok (.slice (some ⟨w.heap.size, 0, none⟩) 1 1) w1 := hm
  obtain ⟨w2, h1, h2, h4, h3⟩ := copy_blk hb 0 1 1 ⟨#[]⟩ (by decide) (by decide)
  have hx2 := h3 w (Nat.le_refl _) (hx w (Ext.refl w))
  have H2 := Lib.hid h2
  have hs2 := Lib.hid (show w2.heap.size = w.heap.size + 1 by omega)
  clear hm hx h3 h2 hb hs h4
  go_enter Try.func45, Try.ntmps45
  go_wp2
  go_ret
  exact ⟨rfl, H2.out, hs2.out, hx2⟩
theorem mask7 (w : World) : Calls Try.prog 46 #[.int .i64 7] w fun e w' => e = .returned (.int .u8 1) ∧ w = w' := by
  go_enter Try.func46, Try.ntmps46
  go_wp2
  go_ret
  exact ⟨rfl, rfl⟩
theorem bit7 (w : World) : Calls Try.prog 47 #[.string ⟨#[]⟩, .int .i64 7] w fun e w' => e = .returned (.int .i64 0) ∧ ∃ n, w' = w.drewN n := by
  go_enter Try.func47, Try.ntmps47
  go_wp2_with fail
  go_quiet (fail)
  go_wp2
  go_ret
  exact ⟨rfl, _, rfl⟩
/-- b[0] = b[0] .. mask: the two regions that store -/
def V1 (op : Value) (g : Nat) (i : Nat) (w' : World) (v : Value) : Prop := match i with
  | 0 => v = .slice (some ⟨g, 0, none⟩) 1 1
  | 1 => v = .int .i64 7
  | 2 => v = .int .i64 0
  | 3 => v = .pointer (some ⟨g, 0, none⟩)
  | 4 => v = .int .u8 0
  | 5 => v = .int .i64 7
  | 6 => v = .int .u8 1
  | 7 => v = op
  | 8 => v = .pointer (some ⟨g, 0, none⟩)
  | _ => True
theorem V1_any (op : Value) (g : Nat) (i : Nat) (w1 w2 : World) (v : Value) (_ : True) (h : V1 op g i w1 v) : V1 op g i w2 v := h
set_option maxRecDepth 100000 in
set_option maxHeartbeats 1000000 in
theorem setbit1 (w : World) : Calls Try.prog 33 #[.string ⟨#[]⟩, .int .i64 7, .int .i64 1] w fun e w' => e = .returned (.tuple #[.string ⟨#[1]⟩, .int .i64 0, .int .i64 0]) ∧ Ext w w' := by
  go_enter Try.func33, Try.ntmps33
  go_wp2_with fail
  refine (wide2 _).mono ?_
  rintro e w1 ⟨rfl, hb1, hs1, hx1⟩
  have Hb1 := Lib.hid hb1
  clear hb1
  go_wp2_with fail
  refine wp_region_rely2_lit rfl [some 35, some 36, some 37, some 38, some 39, some 40, some 41, some 42, some 43, none] rfl [[], [], [1], [0, 2], [3], [], [5], [4, 6], [0, 2], [7, 8, 0, 1, 2, 3, 4, 5, 6]] (by kernel_rfl)
    (fun b w' => Ext w w' ∧ Blk w' w.heap.size [0] 5 ∧ w.heap.size < w'.heap.size) 9 (by decide) (by decide) (fun _ _ => True) (V1 (.int .u8 0) w.heap.size) (fun i w1 w2 v => V1_any _ _ i w1 w2 v) ?_ ?_ ?_
  · exact ⟨hx1.drew, Hb1.out, by show w.heap.size < w1.heap.size; omega⟩
  · refine ⟨?_, ?_, ?_, ?_, ?_, ?_, ?_, ?_, ?_, ?_, trivial⟩
    all_goals
      intro vs w' hI hd
      obtain ⟨hIx, hIb, hIs⟩ := id hI
      have HI := Lib.hid hI
      have hcell : w'.cell? ⟨w.heap.size, 0, none⟩ = some (.int .u8 0) := hIb.cell (i := 0) (x := 0) rfl
      have hfz := hIb.frozen 0
      have HIb := Lib.hid hIb
      clear hIb hI
      simp only [V1, opsFor, actD, List.getD_cons_zero, List.getD_cons_succ, List.foldl_cons, List.foldl_nil, List.mem_cons, List.not_mem_nil, or_false, forall_eq_or_imp, forall_eq] at hd ⊢
    · go_wp2
      first | exact ⟨rfl, rfl, trivial, HI.out⟩ | exact ⟨rfl, rfl, HI.out⟩
    · go_wp2
      first | exact ⟨rfl, rfl, trivial, HI.out⟩ | exact ⟨rfl, rfl, HI.out⟩
    · go_wp2
      first | exact ⟨rfl, rfl, trivial, HI.out⟩ | exact ⟨rfl, rfl, HI.out⟩
    · go_wp2
      first | exact ⟨rfl, rfl, trivial, HI.out⟩ | exact ⟨rfl, rfl, HI.out⟩
    · go_wp2
      first | exact ⟨rfl, rfl, trivial, HI.out⟩ | exact ⟨rfl, rfl, HI.out⟩
    · go_wp2
      first | exact ⟨rfl, rfl, trivial, HI.out⟩ | exact ⟨rfl, rfl, HI.out⟩
    · go_wp2_with fail
      refine (mask7 _).mono ?_
      rintro e w3 ⟨rfl, rfl⟩
      go_wp2
      first | exact ⟨rfl, rfl, trivial, HI.out⟩ | exact ⟨rfl, rfl, HI.out⟩
    · go_wp2
      first | exact ⟨rfl, rfl, trivial, HI.out⟩ | exact ⟨rfl, rfl, HI.out⟩
    · go_wp2
      first | exact ⟨rfl, rfl, trivial, HI.out⟩ | exact ⟨rfl, rfl, HI.out⟩
    · go_wp2
      first | exact ⟨rfl, trivial, trivial, Below.setCell hIx (p := ⟨w.heap.size, 0, none⟩) (Nat.le_refl _) _, HIb.out.set 0 0, by simpa using hIs⟩ | exact ⟨rfl, Below.setCell hIx (p := ⟨w.heap.size, 0, none⟩) (Nat.le_refl _) _, HIb.out.set 0 0, by simpa using hIs⟩
  · intro vs w' hI hd
    obtain ⟨hx2, hb2, hs2⟩ := hI
    have Hb2 := Lib.hid hb2
    clear hb2 hs1 hx1 Hb1
    have hv9 : vs 9 = vs 9 := rfl
    simp only [actD, List.range, List.range.loop, List.foldl_cons, List.foldl_nil, List.length_cons, List.length_nil, List.getD_cons_zero, List.getD_cons_succ]
    rw [show vs 0 = _ from hd 0 (by decide), show vs 1 = _ from hd 1 (by decide), show vs 2 = _ from hd 2 (by decide), show vs 3 = _ from hd 3 (by decide), show vs 4 = _ from hd 4 (by decide), show vs 5 = _ from hd 5 (by decide), show vs 6 = _ from hd 6 (by decide), show vs 7 = _ from hd 7 (by decide), show vs 8 = _ from hd 8 (by decide)]
    clear hd
    go_simp
    go_wp2_with fail
    refine wp_region_rely2_lit rfl [some 46, some 47, some 48, some 49, some 50, some 51, some 52, some 53, some 54, none] rfl [[], [], [1], [0, 2], [3], [], [5], [4, 6], [0, 2], [7, 8, 0, 1, 2, 3, 4, 5, 6]] (by kernel_rfl)
      (fun b w' => Ext w w' ∧ Blk w' w.heap.size [if b then 1 else 0] 5 ∧ w.heap.size < w'.heap.size) 9 (by decide) (by decide) (fun _ _ => True) (V1 (.int .u8 1) w.heap.size) (fun i w1 w2 v => V1_any _ _ i w1 w2 v) ?_ ?_ ?_
    · exact ⟨hx2.drew, Hb2.out, hs2⟩
    · refine ⟨?_, ?_, ?_, ?_, ?_, ?_, ?_, ?_, ?_, ?_, trivial⟩
      all_goals
        intro vs w' hI hd
        obtain ⟨hIx, hIb, hIs⟩ := id hI
        have HI := Lib.hid hI
        have hcell : w'.cell? ⟨w.heap.size, 0, none⟩ = some (.int .u8 0) := hIb.cell (i := 0) (x := 0) rfl
        have hfz := hIb.frozen 0
        have HIb := Lib.hid hIb
        clear hIb hI
        simp only [V1, opsFor, actD, List.getD_cons_zero, List.getD_cons_succ, List.foldl_cons, List.foldl_nil, List.mem_cons, List.not_mem_nil, or_false, forall_eq_or_imp, forall_eq] at hd ⊢
      · go_wp2
        first | exact ⟨rfl, rfl, trivial, HI.out⟩ | exact ⟨rfl, rfl, HI.out⟩
      · go_wp2
        first | exact ⟨rfl, rfl, trivial, HI.out⟩ | exact ⟨rfl, rfl, HI.out⟩
      · go_wp2
        first | exact ⟨rfl, rfl, trivial, HI.out⟩ | exact ⟨rfl, rfl, HI.out⟩
      · go_wp2
        first | exact ⟨rfl, rfl, trivial, HI.out⟩ | exact ⟨rfl, rfl, HI.out⟩
      · go_wp2
        first | exact ⟨rfl, rfl, trivial, HI.out⟩ | exact ⟨rfl, rfl, HI.out⟩
      · go_wp2
        first | exact ⟨rfl, rfl, trivial, HI.out⟩ | exact ⟨rfl, rfl, HI.out⟩
      · go_wp2_with fail
        refine (mask7 _).mono ?_
        rintro e w3 ⟨rfl, rfl⟩
        go_wp2
        first | exact ⟨rfl, rfl, trivial, HI.out⟩ | exact ⟨rfl, rfl, HI.out⟩
      · go_wp2
        first | exact ⟨rfl, rfl, trivial, HI.out⟩ | exact ⟨rfl, rfl, HI.out⟩
      · go_wp2
        first | exact ⟨rfl, rfl, trivial, HI.out⟩ | exact ⟨rfl, rfl, HI.out⟩
      · go_wp2
        first | exact ⟨rfl, trivial, trivial, Below.setCell hIx (p := ⟨w.heap.size, 0, none⟩) (Nat.le_refl _) _, HIb.out.set 0 1, by simpa using hIs⟩ | exact ⟨rfl, Below.setCell hIx (p := ⟨w.heap.size, 0, none⟩) (Nat.le_refl _) _, HIb.out.set 0 1, by simpa using hIs⟩
    · intro vs w3 hI hd
      obtain ⟨hx3, hb3, hs3⟩ := hI
      have Hb3 : Hid (Blk w3 w.heap.size [1] 5) := Lib.hid hb3
      clear hb3
      simp only [actD, List.range, List.range.loop, List.foldl_cons, List.foldl_nil, List.length_cons, List.length_nil, List.getD_cons_zero, List.getD_cons_succ]
      rw [show vs 0 = _ from hd 0 (by decide), show vs 1 = _ from hd 1 (by decide), show vs 2 = _ from hd 2 (by decide), show vs 3 = _ from hd 3 (by decide), show vs 4 = _ from hd 4 (by decide), show vs 5 = _ from hd 5 (by decide), show vs 6 = _ from hd 6 (by decide), show vs 7 = _ from hd 7 (by decide), show vs 8 = _ from hd 8 (by decide)]
      clear hd
      go_simp
      go_wp2_with fail
      refine wp_region_rely_lit rfl [some 55, some 56, some 57, some 58, some 59, some 6, some 7, some 8] rfl [[], [0], [], [], [2, 3], [1], [4], []] (by kernel_rfl) (fun w' => Ext w w' ∧ Blk w' w.heap.size [1] 5) (fun _ _ => True)
        (fun i w' v => match i with
          | 0 => v = .slice (some ⟨w.heap.size, 0, none⟩) 1 1
          | 1 => v = .string ⟨#[1]⟩
          | 2 => v = .string ⟨#[]⟩
          | 3 => v = .int .i64 7
          | 4 => v = .int .i64 0
          | 5 => v = .string ⟨#[1]⟩
          | 6 => v = .int .i64 0
          | 7 => v = .int .i64 0
          | _ => True) (fun i w1 w2 v _ h => h) ?_ ?_ ?_
      · exact ⟨hx3.drew, Hb3.out⟩
      · refine ⟨?_, ?_, ?_, ?_, ?_, ?_, ?_, ?_, trivial⟩
        all_goals
          intro vs w' hI hd
          obtain ⟨hIx, hIb⟩ := id hI
          have HI := Lib.hid hI
          have hconv : (convert 52 9 (.slice (some ⟨w.heap.size, 0, none⟩) 1 1)).run Try.prog w' = .ok (.string ⟨#[1]⟩) w' := conv_bytes (hIb.slice 0 1 1 [1] rfl (by decide) (by decide) (by intro j x hx; rw [Nat.zero_add]; exact hx))
          have HIb := Lib.hid hIb
          clear hIb hI
          simp only [opsFor, actD, List.getD_cons_zero, List.getD_cons_succ, List.foldl_cons, List.foldl_nil, List.mem_cons, List.not_mem_nil, or_false, forall_eq_or_imp, forall_eq] at hd ⊢
        · go_wp2
          first | exact ⟨rfl, rfl, trivial, HI.out⟩ | exact ⟨rfl, rfl, HI.out⟩
        · go_wp2
          first | exact ⟨rfl, rfl, trivial, HI.out⟩ | exact ⟨rfl, rfl, HI.out⟩
        · go_wp2
          first | exact ⟨rfl, rfl, trivial, HI.out⟩ | exact ⟨rfl, rfl, HI.out⟩
        · go_wp2
          first | exact ⟨rfl, rfl, trivial, HI.out⟩ | exact ⟨rfl, rfl, HI.out⟩
        · go_wp2_with fail
          refine (bit7 _).mono ?_
          rintro e w4 ⟨rfl, n, rfl⟩
          go_wp2
          first | exact ⟨rfl, rfl, trivial, hIx.drewN n, HIb.out⟩ | exact ⟨rfl, rfl, hIx.drewN n, HIb.out⟩
        · go_wp2
          first | exact ⟨rfl, rfl, trivial, HI.out⟩ | exact ⟨rfl, rfl, HI.out⟩
        · go_wp2
          first | exact ⟨rfl, rfl, trivial, HI.out⟩ | exact ⟨rfl, rfl, HI.out⟩
        · go_wp2
          first | exact ⟨rfl, rfl, trivial, HI.out⟩ | exact ⟨rfl, rfl, HI.out⟩
      · intro vs w4 hI hd
        have hx4 := hI.1
        simp only [actD, List.range, List.range.loop, List.foldl_cons, List.foldl_nil, List.length_cons, List.length_nil, List.getD_cons_zero, List.getD_cons_succ]
        rw [show vs 5 = _ from hd 5 (by decide), show vs 6 = _ from hd 6 (by decide), show vs 7 = _ from hd 7 (by decide)]
        clear hd hI
        go_simp
        go_wp2
        go_ret3
        exact ⟨rfl, hx4⟩

theorem incr41 (w : World) : Calls Try.prog 16 #[.string ⟨#[52, 49]⟩, .int .i64 1] w fun e w' => e = .returned (.tuple #[.int .i64 42, .int .i64 0]) ∧ Ext w w' := by
  obtain ⟨v1, v2, _, h, _, h3⟩ := incr_is ⟨#[52, 49]⟩ (by decide) 1 (by decide)
  have hd : decS 41 = ⟨#[52, 49]⟩ := by
    unfold decS decL
    rw [if_neg (by omega), show (41 : Int).natAbs = 41 from rfl, dig_big (by omega), dig_small (by omega)]
    rfl
  have := h3 41 ⟨by omega, by omega⟩ hd
  subst this
  refine (h w).mono fun e w' he => ⟨?_, he.2⟩
  rw [he.1]
  unfold incrAns
  rw [show (41 : Int) + 1 = 42 from rfl, one_pos (x := 42) ⟨by omega, by omega⟩]
set_option maxRecDepth 100000 in
set_option maxHeartbeats 1000000 in
theorem awake9 (w : World) :
    Calls Try.prog 15 #[] w fun e w' => e = .returned (.bool true) ∧ Ext w w' := by
  have e1 : ((⟨#[72, 101, 108, 108, 111, 0, 120]⟩ : ByteArray).toList == [72, 101, 108, 108, 111, 0, 120]) = true := by rw [ByteArray.toList_eq]; rfl
  have e2 : ((⟨#[1]⟩ : ByteArray).toList == [1]) = true := by rw [ByteArray.toList_eq]; rfl
  go_enter Try.func15, Try.ntmps15
  go_wp2_with fail
  refine (lay1 _).mono ?_
  rintro e w1 ⟨rfl, hx1⟩
  go_wp2_with fail
  refine (setbit1 _).mono ?_
  rintro e w2 ⟨rfl, hx2⟩
  go_wp2_with fail
  refine (incr41 _).mono ?_
  rintro e w3 ⟨rfl, hx3⟩
  go_wp2
  go_ret
  exact ⟨rfl, (hx1.then hx2).then hx3⟩
set_option maxRecDepth 100000 in
set_option maxHeartbeats 1000000 in
theorem strNumbers_walk (w : World) (s : ByteArray) (hs : s.size ≤ maxLen) (b : Int) (wb : (Lit.int .i64 b).wf = true) :
    Calls Try.prog 6 #[.string s, .int .i64 b] w fun e w' => e = .returned (.bool true) ∧ Ext w w' := by
  unfold maxLen at hs
  by_cases h100 : 100 < s.size
  · go_enter Try.func6, Try.ntmps6
    go_wp2_with fail
    refine (awake9 _).mono ?_
    rintro e w1 ⟨rfl, hx1⟩
    go_wp2_with fail
    refine (awake9 _).mono ?_
    rintro e w2 ⟨rfl, hx2⟩
    go_wp2
    go_ret
    exact ⟨rfl, hx1.then hx2⟩
  · obtain ⟨v1, v2, ⟨x, y, rfl, rfl⟩, h1, h2, _⟩ := incr_is s (by omega) b wb
    go_enter Try.func6, Try.ntmps6
    go_wp2_with fail
    refine (awake9 _).mono ?_
    rintro e w1 ⟨rfl, hx1⟩
    go_wp2_with fail
    refine (h1 _).mono ?_
    rintro e w2 ⟨rfl, hx2⟩
    go_wp2_with fail
    refine (h2 _).mono ?_
    rintro e w3 ⟨rfl, hx3⟩
    go_wp2
    go_ret
    exact ⟨rfl, (hx1.then hx2).then hx3⟩
end Go.Proofs.Ytlobedanjbcfkaa
