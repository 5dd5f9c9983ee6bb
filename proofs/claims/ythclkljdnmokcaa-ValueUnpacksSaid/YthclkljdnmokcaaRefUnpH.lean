/-
  The reference's Unpack: what all its kinds need.
-/
import Derived.Test.YthclkljdnmokcaaWord
set_option linter.unusedVariables false
set_option linter.unusedSimpArgs false
namespace Go.Proofs.Ythclkljdnmokcaa
open Go.RowKit Go.Proofs

def RPost (l : List UInt8) (w : World) (e : Ending) (w' : World) : Prop :=
  ∃ p t z, e = .returned (.tuple #[.agg #[.int .i64 (resU l).1.kind, .string (resU l).1.text, p, t, z], .int .i64 ((resU l).2.1 : Int)]) ∧ Parts w' p t z (resU l).1 ∧ (Lit.int .i64 (resU l).1.kind).wf = true ∧ (resU l).1.text.size ≤ maxLen ∧ Ext w w'
set_option maxRecDepth 100000 in
set_option maxHeartbeats 2000000 in
theorem refunpack_fin {l : List UInt8} {w wf : World} {r : Nat} {x : Val} {n : Nat} {b : Bool} {p t z : Value} {t0 t1 t4 t5 t6 t7 t8 t9 t10 t11 t12 t13 t14 t15 t16 t17 t18 t19 t20 t21 t22 t23 t24 t25 t26 t27 t28 t29 t30 t31 t32 t33 t34 t35 t36 t37 t38 t39 t40 t41 t42 t43 t44 t45 t46 t47 t48 t49 t50 t51 t52 t53 t54 t55 t56 t57 t58 t59 t60 t61 t62 t63 t64 t65 t66 t67 t68 t69 t70 t71 t72 t73 t74 t75 t76 t77 t78 t79 t80 t81 t82 t83 t84 t85 t86 t87 t88 t89 t90 t91 t92 t93 t94 t95 t96 t97 t98 t99 t100 t101 t102 t103 t104 t105 t106 t107 t108 t109 t110 t111 t112 t113 t114 t115 t116 t117 t118 t119 t120 t121 t122 t123 t124 t125 t126 t127 t128 t129 t130 t131 t132 : Value} (h0 : wf.cell? ⟨r, 0, none⟩ = some (.int .i64 x.kind)) (h1 : wf.cell? ⟨r, 1, none⟩ = some (.string x.text)) (h2 : wf.cell? ⟨r, 2, none⟩ = some p) (h3 : wf.cell? ⟨r, 3, none⟩ = some t) (h4 : wf.cell? ⟨r, 4, none⟩ = some z)
    (hp : Parts wf p t z x) (hk : (Lit.int .i64 x.kind).wf = true) (hs : x.text.size ≤ maxLen) (hres : resU l = (x, n, b)) (hx : Ext w wf) :
    bodyPost Try.prog Try.f24 (RPost l w) Exit.ret { tmps := #[t0, t1, .pointer (some ⟨r, 0, none⟩), .int .i64 (n : Int), t4, t5, t6, t7, t8, t9, t10, t11, t12, t13, t14, t15, t16, t17, t18, t19, t20, t21, t22, t23, t24, t25, t26, t27, t28, t29, t30, t31, t32, t33, t34, t35, t36, t37, t38, t39, t40, t41, t42, t43, t44, t45, t46, t47, t48, t49, t50, t51, t52, t53, t54, t55, t56, t57, t58, t59, t60, t61, t62, t63, t64, t65, t66, t67, t68, t69, t70, t71, t72, t73, t74, t75, t76, t77, t78, t79, t80, t81, t82, t83, t84, t85, t86, t87, t88, t89, t90, t91, t92, t93, t94, t95, t96, t97, t98, t99, t100, t101, t102, t103, t104, t105, t106, t107, t108, t109, t110, t111, t112, t113, t114, t115, t116, t117, t118, t119, t120, t121, t122, t123, t124, t125, t126, t127, t128, t129, t130, t131, t132], defers := [] } wf := by
  obtain ⟨pa, pc, rfl, _⟩ := id hp.1
  obtain ⟨ta, tc, rfl, _⟩ := id hp.2.1
  obtain ⟨za, zc, rfl, _⟩ := id hp.2.2
  refine bodyPost_ret (v := .tuple #[.agg #[.int .i64 x.kind, .string x.text, .slice pa x.pairs.length pc, .slice ta x.texts.length tc, .slice za x.zset.length zc], .int .i64 (n : Int)]) (by simp [results, Try.results24, go_sem, h0, h1, h2, h3, h4]) rfl ?_
  refine ⟨.slice pa x.pairs.length pc, .slice ta x.texts.length tc, .slice za x.zset.length zc, ?_, ?_, ?_, ?_, hx⟩
  · rw [hres]
  · rw [hres]; exact hp
  · rw [hres]; exact hk
  · rw [hres]; exact hs
theorem bNum_first {l : List UInt8} {x : UInt8} (h : l[0]? = some x) : bNum (l.take 1) = x.toNat := by
  cases l with
  | nil => simp at h
  | cons a l => simp at h; subst h; simp [bNum]
set_option maxRecDepth 100000 in
set_option maxHeartbeats 1000000 in
theorem refunpack_short (v : Value) (l : List UInt8) (w : World) (hv : SliceOf rByte w v l) (h3 : ¬ 3 ≤ l.length) :
    Calls Try.prog 24 #[v] w (RPost l w) := by
  obtain ⟨a, cap, rfl, hle, hm⟩ := len_of' hv
  have Hno : Hid (unpackB l = none) := Lib.hid (by unfold unpackB; rw [if_neg h3])
  have hd : decide ((l.length : Int) < 3) = true := decide_eq_true (by omega)
  have HZ := Lib.hid (zbox_new w (ty := 30))
  have HW0 : Hid (Ext w (w.alloc (.cells #[.int .i64 0, .string ⟨#[]⟩, .slice none 0 0, .slice none 0 0, .slice none 0 0] 30))) := Lib.hid ((Ext.refl w).alloc _)
  obtain ⟨⟨r0, r1, r2, r3, r4⟩, rlt, rf⟩ := HZ.out
  have rf0 := rf 0
  have rf1 := rf 1
  have rf2 := rf 2
  have rf3 := rf 3
  have rf4 := rf 4
  clear rf hv
  go_enter Try.func24, Try.ntmps24
  go_wp2_with fail
  exact refunpack_fin (x := zeroV) r0 r1 r2 r3 r4 ⟨sliceOf_nil _ _, sliceOf_nil _ _, sliceOf_nil _ _⟩ (by decide) (by decide) (resU_none Hno.out) HW0.out
end Go.Proofs.Ythclkljdnmokcaa
