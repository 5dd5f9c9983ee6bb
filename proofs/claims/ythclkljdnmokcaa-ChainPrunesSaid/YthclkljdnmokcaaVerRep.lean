/-
  What values and versions read as.
-/
import Derived.Test.YthclkljdnmokcaaLib
set_option linter.unusedVariables false
set_option linter.unusedSimpArgs false
namespace Go.Proofs.Ythclkljdnmokcaa
open Go.RowKit Go.Proofs

structure Val where
  kind : Int
  text : ByteArray
  pairs : List (ByteArray × ByteArray)
  texts : List ByteArray
  zset : List (Int × ByteArray)
deriving DecidableEq
structure Ver where
  stamp : Int
  gone : Bool
  expire : Int
  val : Val
deriving DecidableEq

/-- a hash's pair -/
def rPr : Rep (ByteArray × ByteArray) := ⟨2, fun _ cs x => cs = [.string x.1, .string x.2] ∧ x.1.size ≤ maxLen ∧ x.2.size ≤ maxLen⟩
/-- a sorted set's member -/
def rMb : Rep (Int × ByteArray) := ⟨2, fun _ cs x => cs = [.int .i64 x.1, .string x.2] ∧ (Lit.int .i64 x.1).wf = true ∧ x.2.size ≤ maxLen⟩
/-- what a value's last three cells are -/
def Parts (w : World) (p t z : Value) (x : Val) : Prop := SliceOf rPr w p x.pairs ∧ SliceOf rStr w t x.texts ∧ SliceOf rMb w z x.zset
def rVal : Rep Val := ⟨5, fun w cs x => ∃ p t z, cs = [.int .i64 x.kind, .string x.text, p, t, z] ∧ (Lit.int .i64 x.kind).wf = true ∧ x.text.size ≤ maxLen ∧ Parts w p t z x⟩
def rVer : Rep Ver := ⟨8, fun w cs x => ∃ p t z, cs = [.int .i64 x.stamp, .bool x.gone, .int .i64 x.expire, .int .i64 x.val.kind, .string x.val.text, p, t, z] ∧ (Lit.int .i64 x.stamp).wf = true ∧ (Lit.int .i64 x.expire).wf = true ∧ (Lit.int .i64 x.val.kind).wf = true ∧ x.val.text.size ≤ maxLen ∧ Parts w p t z x.val⟩

theorem rPr_mono : rPr.Mono := fun _ _ _ _ _ h => h
theorem rMb_mono : rMb.Mono := fun _ _ _ _ _ h => h
theorem Parts.mono {w w' : World} {p t z : Value} {x : Val} (h : Parts w p t z x) (hx : Ext w w') : Parts w' p t z x := ⟨h.1.mono rPr_mono hx, h.2.1.mono rStr_mono hx, h.2.2.mono rMb_mono hx⟩
theorem rVal_mono : rVal.Mono := fun _ _ _ _ hx ⟨p, t, z, e, h1, h2, h3⟩ => ⟨p, t, z, e, h1, h2, h3.mono hx⟩
theorem rVer_mono : rVer.Mono := fun _ _ _ _ hx ⟨p, t, z, e, h1, h2, h3, h4, h5⟩ => ⟨p, t, z, e, h1, h2, h3, h4, h5.mono hx⟩

/-- an element's cells -/
theorem SliceOf.atN {α : Type} {r : Rep α} {w : World} {a : Option Addr} {n cap : Nat} {l : List α} (h : SliceOf r w (.slice a n cap) l) {k : Nat} {x : α} (hx : l[k]? = some x) :
    ∃ g o ecs, a = some ⟨g, o, none⟩ ∧ ecs.length = r.size ∧ (∀ i, i < r.size → w.cell? ⟨g, o + k * r.size + i, none⟩ = ecs[i]?) ∧ r.rel w ecs x := by
  obtain ⟨a', cap', e, h1, h2, h0, h3⟩ := h
  injection e with e1 e2 e3
  subst e1
  obtain ⟨g, o, ea, hg, hc⟩ := h3 (by rintro rfl; simp at hx)
  obtain ⟨ecs, el, hcs, hre⟩ := hc k x hx
  exact ⟨g, o, ecs, ea, el, hcs, hre⟩
theorem SliceOf.atPr {w : World} {a : Option Addr} {n cap : Nat} {l : List (ByteArray × ByteArray)} (h : SliceOf rPr w (.slice a n cap) l) {k : Nat} {x : ByteArray × ByteArray} (hx : l[k]? = some x) :
    ∃ g o, a = some ⟨g, o, none⟩ ∧ w.cell? ⟨g, o + k * 2, none⟩ = some (.string x.1) ∧ w.cell? ⟨g, o + k * 2 + 1, none⟩ = some (.string x.2) ∧ x.1.size ≤ maxLen ∧ x.2.size ≤ maxLen := by
  obtain ⟨g, o, ecs, ea, el, hc, rfl, h1, h2⟩ := h.atN hx
  exact ⟨g, o, ea, hc 0 (by decide), hc 1 (by decide), h1, h2⟩
theorem SliceOf.atMb {w : World} {a : Option Addr} {n cap : Nat} {l : List (Int × ByteArray)} (h : SliceOf rMb w (.slice a n cap) l) {k : Nat} {x : Int × ByteArray} (hx : l[k]? = some x) :
    ∃ g o, a = some ⟨g, o, none⟩ ∧ w.cell? ⟨g, o + k * 2, none⟩ = some (.int .i64 x.1) ∧ w.cell? ⟨g, o + k * 2 + 1, none⟩ = some (.string x.2) ∧ (Lit.int .i64 x.1).wf = true ∧ x.2.size ≤ maxLen := by
  obtain ⟨g, o, ecs, ea, el, hc, rfl, h1, h2⟩ := h.atN hx
  exact ⟨g, o, ea, hc 0 (by decide), hc 1 (by decide), h1, h2⟩
/-- a version's cells, from a place on -/
structure VerAt (w : World) (g o : Nat) (x : Ver) (p t z : Value) : Prop where
  c0 : w.cell? ⟨g, o, none⟩ = some (.int .i64 x.stamp)
  c1 : w.cell? ⟨g, o + 1, none⟩ = some (.bool x.gone)
  c2 : w.cell? ⟨g, o + 2, none⟩ = some (.int .i64 x.expire)
  c3 : w.cell? ⟨g, o + 3, none⟩ = some (.int .i64 x.val.kind)
  c4 : w.cell? ⟨g, o + 4, none⟩ = some (.string x.val.text)
  c5 : w.cell? ⟨g, o + 5, none⟩ = some p
  c6 : w.cell? ⟨g, o + 6, none⟩ = some t
  c7 : w.cell? ⟨g, o + 7, none⟩ = some z
/-- what is known of a version -/
structure VerOk (w : World) (x : Ver) (p t z : Value) : Prop where
  stamp : (Lit.int .i64 x.stamp).wf = true
  expire : (Lit.int .i64 x.expire).wf = true
  kind : (Lit.int .i64 x.val.kind).wf = true
  text : x.val.text.size ≤ maxLen
  parts : Parts w p t z x.val
theorem VerAt.mono {w w' : World} {g o : Nat} {x : Ver} {p t z : Value} (h : VerAt w g o x p t z) (hx : Ext w w') : VerAt w' g o x p t z :=
  ⟨hx.cell h.c0, hx.cell h.c1, hx.cell h.c2, hx.cell h.c3, hx.cell h.c4, hx.cell h.c5, hx.cell h.c6, hx.cell h.c7⟩
theorem VerOk.mono {w w' : World} {x : Ver} {p t z : Value} (h : VerOk w x p t z) (hx : Ext w w') : VerOk w' x p t z := ⟨h.stamp, h.expire, h.kind, h.text, h.parts.mono hx⟩
theorem SliceOf.atVer {w : World} {a : Option Addr} {n cap : Nat} {l : List Ver} (h : SliceOf rVer w (.slice a n cap) l) {k : Nat} {x : Ver} (hx : l[k]? = some x) :
    ∃ g o p t z, a = some ⟨g, o, none⟩ ∧ VerAt w g (o + k * 8) x p t z ∧ VerOk w x p t z := by
  obtain ⟨g, o, ecs, ea, el, hc, p, t, z, rfl, h1, h2, h3, h4, h5⟩ := h.atN hx
  exact ⟨g, o, p, t, z, ea, ⟨hc 0 (by decide), hc 1 (by decide), hc 2 (by decide), hc 3 (by decide), hc 4 (by decide), hc 5 (by decide), hc 6 (by decide), hc 7 (by decide)⟩, h1, h2, h3, h4, h5⟩
end Go.Proofs.Ythclkljdnmokcaa
