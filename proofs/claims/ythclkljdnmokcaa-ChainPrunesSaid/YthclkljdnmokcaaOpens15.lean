/-
  How the arguments' types open: versions.
-/
import Derived.Test.YthclkljdnmokcaaProg
import Derived.Test.YthclkljdnmokcaaVerRep
namespace Go.Proofs.Ythclkljdnmokcaa
open Go.RowKit Go.Proofs
theorem opens_map {P : Program} {α β : Type} {t : TypeId} {r : Rep α} {s : Rep β} (h : Opens P t r) (hs : r.size = s.size) (hm : ∀ w cs y, r.rel w cs y → ∃ z, s.rel w cs z) : Opens P t s :=
  ⟨h.1.trans hs, fun H enc w base sp held fuel cs x e => by
    obtain ⟨y, hy, hl⟩ := h.2 H enc w base sp held fuel cs x e
    obtain ⟨z, hz⟩ := hm _ _ _ hy
    exact ⟨z, hz, hl.trans hs⟩⟩
theorem op_str : Opens Try.prog 9 rStr := opens_str Try.underlying9 (by kernel_rfl)
theorem op_int : Opens Try.prog 3 (rInt .i64) := opens_int Try.underlying3 (by kernel_rfl)
theorem op_bool : Opens Try.prog 4 rBool := opens_bool Try.underlying4 (by kernel_rfl)
theorem op_texts : Opens Try.prog 27 (rSlice rStr) := opens_slice Try.underlying27 (by kernel_rfl) (by decide) op_str
theorem op_pair : Opens Try.prog 43 rPr :=
  opens_map (opens_struct (r := rPair rStr rStr) Try.underlying43 (by kernel_rfl) (opensF_cons rfl op_str (opensF_one rfl op_str))) rfl fun w cs y ⟨c, d, e, _, _, h1, h2⟩ => by
    obtain ⟨rfl, hs1⟩ := h1
    obtain ⟨rfl, hs2⟩ := h2
    exact ⟨(y.1, y.2), e, hs1, hs2⟩
theorem op_member : Opens Try.prog 45 rMb :=
  opens_map (opens_struct (r := rPair (rInt .i64) rStr) Try.underlying45 (by kernel_rfl) (opensF_cons rfl op_int (opensF_one rfl op_str))) rfl fun w cs y ⟨c, d, e, _, _, h1, h2⟩ => by
    obtain ⟨rfl, hs1⟩ := h1
    obtain ⟨rfl, hs2⟩ := h2
    exact ⟨(y.1, y.2), e, hs1, hs2⟩
theorem op_pairs : Opens Try.prog 26 (rSlice rPr) := opens_slice Try.underlying26 (by kernel_rfl) (by decide) op_pair
theorem op_members : Opens Try.prog 28 (rSlice rMb) := opens_slice Try.underlying28 (by kernel_rfl) (by decide) op_member
theorem op_value : Opens Try.prog 30 rVal :=
  opens_map (opens_struct (r := rPair (rInt .i64) (rPair rStr (rPair (rSlice rPr) (rPair (rSlice rStr) (rSlice rMb))))) Try.underlying30 (by kernel_rfl) (opensF_cons rfl op_int (opensF_cons rfl op_str (opensF_cons rfl op_pairs (opensF_cons rfl op_texts (opensF_one rfl op_members)))))) rfl fun w cs y ⟨c, d, e, _, _, h1, c2, d2, e2, _, _, h2, c3, d3, e3, _, _, h3, c4, d4, e4, _, _, h4, h5⟩ => by
    obtain ⟨rfl, hs1⟩ := h1
    obtain ⟨rfl, hs2⟩ := h2
    obtain ⟨p, rfl, hp⟩ := h3
    obtain ⟨t, rfl, ht⟩ := h4
    obtain ⟨z, rfl, hz⟩ := h5
    subst e4; subst e3; subst e2; subst e
    exact ⟨⟨y.1, y.2.1, y.2.2.1, y.2.2.2.1, y.2.2.2.2⟩, p, t, z, rfl, hs1, hs2, hp, ht, hz⟩
theorem op_version : Opens Try.prog 32 rVer :=
  opens_map (opens_struct (r := rPair (rInt .i64) (rPair rBool (rPair (rInt .i64) rVal))) Try.underlying32 (by kernel_rfl) (opensF_cons rfl op_int (opensF_cons rfl op_bool (opensF_cons rfl op_int (opensF_one rfl op_value))))) rfl fun w cs y ⟨c, d, e, _, _, h1, c2, d2, e2, _, _, h2, c3, d3, e3, _, _, h3, h4⟩ => by
    obtain ⟨rfl, hs1⟩ := h1
    obtain rfl := h2
    obtain ⟨rfl, hs3⟩ := h3
    obtain ⟨p, t, z, rfl, h5, h6, h7⟩ := h4
    subst e3; subst e2; subst e
    exact ⟨⟨y.1, y.2.1, y.2.2.1, y.2.2.2⟩, p, t, z, rfl, hs1, hs3, h5, h6, h7⟩
theorem op_versions : Opens Try.prog 22 (rSlice rVer) := opens_slice Try.underlying22 (by kernel_rfl) (by decide) op_version
end Go.Proofs.Ythclkljdnmokcaa
