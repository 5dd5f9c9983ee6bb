/-
  Plain: what right values' octets are read back as; unlike right values' octets are apart.
-/
import Derived.Test.YthclkljdnmokcaaPackGen
set_option linter.unusedVariables false
set_option linter.unusedSimpArgs false
namespace Go.Proofs.Ythclkljdnmokcaa
open Go.RowKit Go.Proofs

/-- the value at the beginning (right or not), and where it ends -/
def readB (l : List UInt8) : Option (Val × Nat) :=
  if bNum (l.take 1) = 1 then (wordAt l 1).map fun s => (⟨1, s.1, [], [], []⟩, s.2)
  else if bNum (l.take 1) = 2 then (many (pairAt l) (bNum ((l.drop 1).take 2)) 3).map fun r => (⟨2, ByteArray.empty, r.1, [], []⟩, r.2)
  else if bNum (l.take 1) = 5 then (many (membAt l) (bNum ((l.drop 1).take 2)) 3).map fun r => (⟨5, ByteArray.empty, [], [], r.1⟩, r.2)
  else (many (wordAt l) (bNum ((l.drop 1).take 2)) 3).map fun r => (⟨bNum (l.take 1), ByteArray.empty, [], r.1, []⟩, r.2)
def unpackB (l : List UInt8) : Option (Val × Nat) :=
  if 3 ≤ l.length then (readB l).bind fun r => if rightV r.1 = true then some r else none else none
theorem bNum_one {k : Int} (h1 : 0 ≤ k) (h2 : k < 256) : (bNum (octets k 1) : Int) = k := by
  have h := bNum_octets k 1
  rw [h, Int.pow_one]
  exact Int.emod_eq_of_lt h1 h2
theorem bNum_two {k : Int} (h1 : 0 ≤ k) (h2 : k < 65536) : (bNum (octets k 2) : Int) = k := by
  have h := bNum_octets k 2
  rw [h]
  exact Int.emod_eq_of_lt h1 (by simpa using h2)
theorem head_laid (k n : Int) (body : List UInt8) : ((octets k 1 ++ (octets n 2 ++ body)).take 1 = octets k 1) ∧ (((octets k 1 ++ (octets n 2 ++ body)).drop 1).take 2 = octets n 2) := by
  constructor
  · rw [List.take_append_of_le_length (by rw [octets_length]; exact Nat.le_refl _), List.take_of_length_le (by rw [octets_length]; exact Nat.le_refl _)]
  · rw [List.drop_append_of_le_length (by rw [octets_length]; exact Nat.le_refl _), List.drop_of_length_le (by rw [octets_length]; exact Nat.le_refl _), List.nil_append, List.take_append_of_le_length (by rw [octets_length]; exact Nat.le_refl _), List.take_of_length_le (by rw [octets_length]; exact Nat.le_refl _)]
def WfV (x : Val) : Prop := ∀ m ∈ x.zset, (Lit.int .i64 m.1).wf = true
theorem read_pack {x : Val} (h : rightV x = true) (hw : WfV x) (post : List UInt8) : readB (packV x ++ post) = some (x, (packV x).length) := by
  unfold packV
  rcases right_kinds h with r | r | r | r
  · rw [if_pos r.k]
    have h1 := wordAt_laid (octets 1 1) post x.text (by have := r.s; omega)
    rw [← textB_one, octets_length] at h1
    have e : (octets 1 1 ++ textsB [x.text] ++ post).take 1 = octets 1 1 := by
      rw [List.append_assoc, List.take_append_of_le_length (by rw [octets_length]; exact Nat.le_refl _), List.take_of_length_le (by rw [octets_length]; exact Nat.le_refl _)]
    have e1 : bNum (octets 1 1) = 1 := by decide
    unfold readB
    rw [e, e1, if_pos rfl, h1]
    obtain ⟨k, s, P, T, Z⟩ := x
    obtain ⟨rk, rp, rt, rz, rs⟩ := r
    simp only at rk rp rt rz rs
    subst rk; subst rp; subst rt; subst rz
    simp only [Option.map_some]
    rw [List.length_append, octets_length, textB_one, encT_length]
    congr 2
    omega
  · obtain ⟨k, s, P, T, Z⟩ := x
    obtain ⟨rk, re, rt, rz, rn, rm, rs⟩ := r
    simp only at rk re rt rz rn rm rs
    subst rk; subst re; subst rt; subst rz
    rw [if_neg (show ¬ (2 : Int) = 1 by decide)]
    simp only [textsB, zsetB, List.map_nil, List.flatten_nil, List.append_nil]
    have hsz : sizeV ⟨2, ByteArray.empty, P, [], []⟩ = (P.length : Int) := by simp [sizeV]
    rw [hsz]
    have e : octets 2 1 ++ (octets (P.length : Int) 2 ++ pairsB P) ++ post = octets 2 1 ++ (octets (P.length : Int) 2 ++ (pairsB P ++ post)) := by simp only [List.append_assoc]
    have e' : octets 2 1 ++ (octets (P.length : Int) 2 ++ pairsB P) ++ post = (octets 2 1 ++ octets (P.length : Int) 2) ++ pairsB P ++ post := by simp only [List.append_assoc]
    obtain ⟨q1, q2⟩ := head_laid 2 (P.length : Int) (pairsB P ++ post)
    have n1 : bNum (octets 2 1) = 2 := by decide
    have n2 : bNum (octets (P.length : Int) 2) = P.length := by have := bNum_two (k := (P.length : Int)) (by omega) (by omega); omega
    have hm := many_laid pairAt (fun x => textsB [x.1, x.2]) (fun x => x.1.size < 65536 ∧ x.2.size < 65536) (fun pre x post ok => pairAt_laid pre x post ok) (octets 2 1 ++ octets (P.length : Int) 2) P.length P rfl (fun y hy => by have := rs y hy; omega) post
    have hpb : (P.map fun x => textsB [x.1, x.2]).flatten = pairsB P := rfl
    rw [hpb, ← e', List.length_append, octets_length, octets_length] at hm
    unfold readB
    rw [e, q1, q2, n1, n2, if_neg (by decide), if_pos rfl, ← e]
    rw [show (3 : Nat) = 1 + 2 from rfl, hm]
    simp only [Option.map_some, List.length_append, octets_length]
    congr 2
    omega
  · obtain ⟨k, s, P, T, Z⟩ := x
    obtain ⟨rk, re, rp, rz, rn, rm, rs⟩ := r
    simp only at rk re rp rz rn rm rs
    subst re; subst rp; subst rz
    rw [if_neg (by simp only; rcases rk with k | k <;> omega)]
    simp only [pairsB, zsetB, List.map_nil, List.flatten_nil, List.append_nil, List.nil_append]
    have hsz : sizeV ⟨k, ByteArray.empty, [], T, []⟩ = (T.length : Int) := by
      have hk1 : ¬ k = 1 := by rcases rk with k | k <;> omega
      simp [sizeV, hk1]
    rw [hsz]
    have e : octets k 1 ++ (octets (T.length : Int) 2 ++ textsB T) ++ post = octets k 1 ++ (octets (T.length : Int) 2 ++ (textsB T ++ post)) := by simp only [List.append_assoc]
    have e' : octets k 1 ++ (octets (T.length : Int) 2 ++ textsB T) ++ post = (octets k 1 ++ octets (T.length : Int) 2) ++ textsB T ++ post := by simp only [List.append_assoc]
    obtain ⟨q1, q2⟩ := head_laid k (T.length : Int) (textsB T ++ post)
    have n1 : (bNum (octets k 1) : Int) = k := bNum_one (by rcases rk with k | k <;> omega) (by rcases rk with k | k <;> omega)
    have n2 : bNum (octets (T.length : Int) 2) = T.length := by have := bNum_two (k := (T.length : Int)) (by omega) (by omega); omega
    have hm := many_laid wordAt (fun s => octets (s.size : Int) 2 ++ s.toList) (fun s => s.size < 65536) (fun pre x post ok => by rw [encT_length, ← Nat.add_assoc]; exact wordAt_laid pre post x ok) (octets k 1 ++ octets (T.length : Int) 2) T.length T rfl (fun y hy => by have := rs y hy; omega) post
    have hpb : (T.map fun s => octets (s.size : Int) 2 ++ s.toList).flatten = textsB T := rfl
    rw [hpb, ← e', List.length_append, octets_length, octets_length] at hm
    unfold readB
    rw [e, q1, q2, if_neg (by rcases rk with k | k <;> omega), if_neg (by rcases rk with k | k <;> omega), if_neg (by rcases rk with k | k <;> omega), n2, ← e, n1]
    rw [show (3 : Nat) = 1 + 2 from rfl, hm]
    simp only [Option.map_some, List.length_append, octets_length]
    congr 2
    omega
  · obtain ⟨k, s, P, T, Z⟩ := x
    obtain ⟨rk, re, rp, rt, rn, rm, rs⟩ := r
    simp only at rk re rp rt rn rm rs
    subst rk; subst re; subst rp; subst rt
    rw [if_neg (show ¬ (5 : Int) = 1 by decide)]
    simp only [pairsB, textsB, List.map_nil, List.flatten_nil, List.nil_append]
    have hsz : sizeV ⟨5, ByteArray.empty, [], [], Z⟩ = (Z.length : Int) := by simp [sizeV]
    rw [hsz]
    have e : octets 5 1 ++ (octets (Z.length : Int) 2 ++ zsetB Z) ++ post = octets 5 1 ++ (octets (Z.length : Int) 2 ++ (zsetB Z ++ post)) := by simp only [List.append_assoc]
    have e' : octets 5 1 ++ (octets (Z.length : Int) 2 ++ zsetB Z) ++ post = (octets 5 1 ++ octets (Z.length : Int) 2) ++ zsetB Z ++ post := by simp only [List.append_assoc]
    obtain ⟨q1, q2⟩ := head_laid 5 (Z.length : Int) (zsetB Z ++ post)
    have n1 : bNum (octets 5 1) = 5 := by decide
    have n2 : bNum (octets (Z.length : Int) 2) = Z.length := by have := bNum_two (k := (Z.length : Int)) (by omega) (by omega); omega
    have hm := many_laid membAt (fun x => octets x.1 8 ++ textsB [x.2]) (fun x => (Lit.int .i64 x.1).wf = true ∧ x.2.size < 65536) (fun pre x post ok => membAt_laid pre x post ok) (octets 5 1 ++ octets (Z.length : Int) 2) Z.length Z rfl (fun y hy => ⟨hw y hy, by have := rs y hy; omega⟩) post
    have hpb : (Z.map fun x => octets x.1 8 ++ textsB [x.2]).flatten = zsetB Z := rfl
    rw [hpb, ← e', List.length_append, octets_length, octets_length] at hm
    unfold readB
    rw [e, q1, q2, n1, n2, if_neg (by decide), if_neg (by decide), if_pos rfl, ← e]
    rw [show (3 : Nat) = 1 + 2 from rfl, hm]
    simp only [Option.map_some, List.length_append, octets_length]
    congr 2
    omega
theorem packV_three (x : Val) : 3 ≤ (packV x).length := by
  unfold packV
  split
  · rw [textB_one, List.length_append, encT_length, octets_length]; omega
  · simp only [List.length_append, octets_length]; omega
theorem unpack_pack {x : Val} (h : rightV x = true) (hw : WfV x) (post : List UInt8) : unpackB (packV x ++ post) = some (x, (packV x).length) := by
  unfold unpackB
  rw [if_pos (by have := packV_three x; simp; omega), read_pack h hw post]
  simp only [Option.bind_some, h, if_true]
theorem pack_apart {x y : Val} (hx : rightV x = true) (hy : rightV y = true) (wx : WfV x) (wy : WfV y) (n : Nat) (hn : n = min (packV x).length (packV y).length) : (packV x).take n = (packV y).take n ↔ x = y := by
  constructor
  · intro h
    by_cases hle : (packV x).length ≤ (packV y).length
    · have e : n = (packV x).length := by omega
      rw [e, List.take_length] at h
      have h1 : packV x ++ (packV y).drop (packV x).length = packV y ++ [] := by
        rw [List.append_nil]
        conv => lhs; rw [h]
        rw [List.length_take]
        rw [show min (packV x).length (packV y).length = (packV x).length by omega]
        exact List.take_append_drop _ _
      have h2 := unpack_pack hx wx ((packV y).drop (packV x).length)
      rw [h1, unpack_pack hy wy []] at h2
      injection h2 with h2
      injection h2 with h2 h3
      exact h2.symm
    · have e : n = (packV y).length := by omega
      rw [e, List.take_length] at h
      have h1 : packV y ++ (packV x).drop (packV y).length = packV x ++ [] := by
        rw [List.append_nil]
        conv => lhs; rw [← h]
        rw [List.length_take]
        rw [show min (packV y).length (packV x).length = (packV y).length by omega]
        exact List.take_append_drop _ _
      have h2 := unpack_pack hy wy ((packV x).drop (packV y).length)
      rw [h1, unpack_pack hx wx []] at h2
      injection h2 with h2
      injection h2 with h2 h3
  · rintro rfl; rfl
end Go.Proofs.Ythclkljdnmokcaa
