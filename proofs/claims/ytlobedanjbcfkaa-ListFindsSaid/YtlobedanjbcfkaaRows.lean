/-
  No cell of these rows narrows 'for every input' (looked for: loops, veiled, ifaces, maps, wideKeys, modest, calm, conditions, laid).
  DERIVED. THE GIVEN ROWS OF THIS SEAT. 6 by the template 'for every input the law returns true; each argument reads behind the call as it read before'; 0 by the template 'total and deterministic' (their statements: YtlobedanjbcfkaaTotals.lean).
  GIVEN WITH THE SEED: the statements are not yours to turn. If you find one false, say at which input.
  Laid BY PROGRAM, IN A SANDBOX (cutbox-rows.mjs): the forced cells as the released guide's own fill.sh prints them over the translation fbb4e3a72fbe34c1… (all of the seat's roots in one cut). By AI agents, Wed Nov 11 2026. No macro, syntax, notation, axiom, sorry.
-/
import Derived.Test.YtlobedanjbcfkaaChecked
import GoSem.Claim
import GoSem.ClaimJoined
import GoSem.ClaimMapViews
import Derived.JoinedTies
import Derived.KernelRfl
namespace Go.Proofs.Ytlobedanjbcfkaa
/- THE CELL 'sum', in the pinned program and in every row, IS THE sha256 OF THE DUMP (.gsa) THAT YtlobedanjbcfkaaProg.lean LOADS. Nothing in Lean hashes anything: it is a label: what it is worth is what the hold of that sum in a sandbox is worth. -/
noncomputable def Try.pinned : Pinned := { name := "ytlobedanjbcfkaa", sum := "fbb4e3a72fbe34c1e773e287fbaa32a8b313a718e0cad64ec36ab9bf90973b9e", checked := Try.checked }
namespace Rows
def none {H : Type} : Left H := { results := [], args := [] }

/-- 'pentimentolaw01.NumOrder': WHATEVER THE INPUT: true; the input reads as it did. -/
def numOrderSpec : ChangeSpec := { name := "numOrder", fn := fun _ => fun
  | [d1, d2] => { results := [.lit (.bool true)], args := [d1, d2] }
  | _ => none }
def numOrderRow : OpenClaim := { program := "ytlobedanjbcfkaa", sum := "fbb4e3a72fbe34c1e773e287fbaa32a8b313a718e0cad64ec36ab9bf90973b9e", func := "pentimento/pentimentolaw01.NumOrder", spec := "numOrder", apart := false }
def NumOrderSaid : Prop := numOrderRow.holds Try.pinned (OpenSpec.ofChange numOrderSpec)

/-- ITS FALSE NEIGHBOUR: 'it returns false'. Refute it at one input. -/
def numOrderWrong : ChangeSpec := { name := "numOrder", fn := fun _ => fun
  | [d1, d2] => { results := [.lit (.bool false)], args := [d1, d2] }
  | _ => none }
def NumOrderWrongFalsely : Prop := numOrderRow.holds Try.pinned (OpenSpec.ofChange numOrderWrong)

/-- 'pentimentolaw01.NumSums': WHATEVER THE INPUT: true; the input reads as it did. -/
def numSumsSpec : ChangeSpec := { name := "numSums", fn := fun _ => fun
  | [d1, d2, d3] => { results := [.lit (.bool true)], args := [d1, d2, d3] }
  | _ => none }
def numSumsRow : OpenClaim := { program := "ytlobedanjbcfkaa", sum := "fbb4e3a72fbe34c1e773e287fbaa32a8b313a718e0cad64ec36ab9bf90973b9e", func := "pentimento/pentimentolaw01.NumSums", spec := "numSums", apart := false }
def NumSumsSaid : Prop := numSumsRow.holds Try.pinned (OpenSpec.ofChange numSumsSpec)

/-- ITS FALSE NEIGHBOUR: 'it returns false'. Refute it at one input. -/
def numSumsWrong : ChangeSpec := { name := "numSums", fn := fun _ => fun
  | [d1, d2, d3] => { results := [.lit (.bool false)], args := [d1, d2, d3] }
  | _ => none }
def NumSumsWrongFalsely : Prop := numSumsRow.holds Try.pinned (OpenSpec.ofChange numSumsWrong)

/-- 'pentimentolaw01.NumBack': WHATEVER THE INPUT: true; the input reads as it did. -/
def numBackSpec : ChangeSpec := { name := "numBack", fn := fun _ => fun
  | [d1, d2] => { results := [.lit (.bool true)], args := [d1, d2] }
  | _ => none }
def numBackRow : OpenClaim := { program := "ytlobedanjbcfkaa", sum := "fbb4e3a72fbe34c1e773e287fbaa32a8b313a718e0cad64ec36ab9bf90973b9e", func := "pentimento/pentimentolaw01.NumBack", spec := "numBack", apart := false }
def NumBackSaid : Prop := numBackRow.holds Try.pinned (OpenSpec.ofChange numBackSpec)

/-- ITS FALSE NEIGHBOUR: 'it returns false'. Refute it at one input. -/
def numBackWrong : ChangeSpec := { name := "numBack", fn := fun _ => fun
  | [d1, d2] => { results := [.lit (.bool false)], args := [d1, d2] }
  | _ => none }
def NumBackWrongFalsely : Prop := numBackRow.holds Try.pinned (OpenSpec.ofChange numBackWrong)

/-- 'pentimentolaw09.StrNumbers': WHATEVER THE INPUT: true; the input reads as it did. -/
def strNumbersSpec : ChangeSpec := { name := "strNumbers", fn := fun _ => fun
  | [d1, d2] => { results := [.lit (.bool true)], args := [d1, d2] }
  | _ => none }
def strNumbersRow : OpenClaim := { program := "ytlobedanjbcfkaa", sum := "fbb4e3a72fbe34c1e773e287fbaa32a8b313a718e0cad64ec36ab9bf90973b9e", func := "pentimento/pentimentolaw09.StrNumbers", spec := "strNumbers", apart := false }
def StrNumbersSaid : Prop := strNumbersRow.holds Try.pinned (OpenSpec.ofChange strNumbersSpec)

/-- ITS FALSE NEIGHBOUR: 'it returns false'. Refute it at one input. -/
def strNumbersWrong : ChangeSpec := { name := "strNumbers", fn := fun _ => fun
  | [d1, d2] => { results := [.lit (.bool false)], args := [d1, d2] }
  | _ => none }
def StrNumbersWrongFalsely : Prop := strNumbersRow.holds Try.pinned (OpenSpec.ofChange strNumbersWrong)

/-- 'pentimentolaw11.ListFinds': WHATEVER THE INPUT: true; the input reads as it did. -/
def listFindsSpec : ChangeSpec := { name := "listFinds", fn := fun _ => fun
  | [d1, d2, d3] => { results := [.lit (.bool true)], args := [d1, d2, d3] }
  | _ => none }
def listFindsRow : OpenClaim := { program := "ytlobedanjbcfkaa", sum := "fbb4e3a72fbe34c1e773e287fbaa32a8b313a718e0cad64ec36ab9bf90973b9e", func := "pentimento/pentimentolaw11.ListFinds", spec := "listFinds", unfollowed := true, recurses := true, apart := false }
def ListFindsSaid : Prop := listFindsRow.holds Try.pinned (OpenSpec.ofChange listFindsSpec)

/-- ITS FALSE NEIGHBOUR: 'it returns false'. Refute it at one input. -/
def listFindsWrong : ChangeSpec := { name := "listFinds", fn := fun _ => fun
  | [d1, d2, d3] => { results := [.lit (.bool false)], args := [d1, d2, d3] }
  | _ => none }
def ListFindsWrongFalsely : Prop := listFindsRow.holds Try.pinned (OpenSpec.ofChange listFindsWrong)

/-- 'pentimentolaw11.ListCuts': WHATEVER THE INPUT: true; the input reads as it did. -/
def listCutsSpec : ChangeSpec := { name := "listCuts", fn := fun _ => fun
  | [d1, d2] => { results := [.lit (.bool true)], args := [d1, d2] }
  | _ => none }
def listCutsRow : OpenClaim := { program := "ytlobedanjbcfkaa", sum := "fbb4e3a72fbe34c1e773e287fbaa32a8b313a718e0cad64ec36ab9bf90973b9e", func := "pentimento/pentimentolaw11.ListCuts", spec := "listCuts", unfollowed := true, recurses := true, apart := false }
def ListCutsSaid : Prop := listCutsRow.holds Try.pinned (OpenSpec.ofChange listCutsSpec)

/-- ITS FALSE NEIGHBOUR: 'it returns false'. Refute it at one input. -/
def listCutsWrong : ChangeSpec := { name := "listCuts", fn := fun _ => fun
  | [d1, d2] => { results := [.lit (.bool false)], args := [d1, d2] }
  | _ => none }
def ListCutsWrongFalsely : Prop := listCutsRow.holds Try.pinned (OpenSpec.ofChange listCutsWrong)

/- THE SECOND FORM. 'bulk': how many values and letters a reading holds, each counted each time it is reached (what is shared counts as often as it is met; a slice's spare places count too). A statement '..UptoSaid' is the law's where the arguments, and the package variables that the reading takes, are together of bulk at most 1048576: NARROWER than '..Said'. Prove '..Said' where nothing that the law and all that it calls make is longer than what came in: it says more and counts as full. Else prove '..UptoSaid'. A law counts once. -/
mutual
def uptoBulk {H : Type} : DataW H → Nat
  | .lit (.string bytes) => bytes.length + 1
  | .lit _ => 1
  | .nil => 1
  | .ptr d => uptoBulk d + 1
  | .slice elems spare => uptoBulkAll elems + uptoBulkAll spare + 1
  | .agg parts => uptoBulkAll parts + 1
  | .iface _ d => uptoBulk d + 1
  | .map entries => uptoBulkEntries entries + 1
  | .held _ => 1
def uptoBulkAll {H : Type} : List (DataW H) → Nat
  | [] => 0
  | d :: r => uptoBulk d + uptoBulkAll r
def uptoBulkEntries {H : Type} : List (Lit × DataW H) → Nat
  | [] => 0
  | x :: r => uptoBulkEntry x + uptoBulkEntries r
def uptoBulkEntry {H : Type} : Lit × DataW H → Nat
  | (.string bytes, d) => bytes.length + uptoBulk d + 1
  | (_, d) => uptoBulk d + 1
 end
def uptoSmall : (H : Type) → List (DataW H) → Bool := fun _ ds => decide (uptoBulkAll ds ≤ 1048576)
def OpenSpec.upto (s : _root_.Go.ChangeSpec) : _root_.Go.OpenSpec := { _root_.Go.OpenSpec.ofChange s with cond := some uptoSmall }

/-- 'pentimentolaw01.NumOrder', WHERE WHAT IT READS IS OF BULK AT MOST 1048576: true; the input reads as it did. -/
def numOrderUptoRow : OpenClaim := { program := "ytlobedanjbcfkaa", sum := "fbb4e3a72fbe34c1e773e287fbaa32a8b313a718e0cad64ec36ab9bf90973b9e", func := "pentimento/pentimentolaw01.NumOrder", spec := "numOrder", apart := false, narrowed := true }
def NumOrderUptoSaid : Prop := numOrderUptoRow.holds Try.pinned (OpenSpec.upto numOrderSpec)

/-- 'pentimentolaw01.NumSums', WHERE WHAT IT READS IS OF BULK AT MOST 1048576: true; the input reads as it did. -/
def numSumsUptoRow : OpenClaim := { program := "ytlobedanjbcfkaa", sum := "fbb4e3a72fbe34c1e773e287fbaa32a8b313a718e0cad64ec36ab9bf90973b9e", func := "pentimento/pentimentolaw01.NumSums", spec := "numSums", apart := false, narrowed := true }
def NumSumsUptoSaid : Prop := numSumsUptoRow.holds Try.pinned (OpenSpec.upto numSumsSpec)

/-- 'pentimentolaw01.NumBack', WHERE WHAT IT READS IS OF BULK AT MOST 1048576: true; the input reads as it did. -/
def numBackUptoRow : OpenClaim := { program := "ytlobedanjbcfkaa", sum := "fbb4e3a72fbe34c1e773e287fbaa32a8b313a718e0cad64ec36ab9bf90973b9e", func := "pentimento/pentimentolaw01.NumBack", spec := "numBack", apart := false, narrowed := true }
def NumBackUptoSaid : Prop := numBackUptoRow.holds Try.pinned (OpenSpec.upto numBackSpec)

/-- 'pentimentolaw09.StrNumbers', WHERE WHAT IT READS IS OF BULK AT MOST 1048576: true; the input reads as it did. -/
def strNumbersUptoRow : OpenClaim := { program := "ytlobedanjbcfkaa", sum := "fbb4e3a72fbe34c1e773e287fbaa32a8b313a718e0cad64ec36ab9bf90973b9e", func := "pentimento/pentimentolaw09.StrNumbers", spec := "strNumbers", apart := false, narrowed := true }
def StrNumbersUptoSaid : Prop := strNumbersUptoRow.holds Try.pinned (OpenSpec.upto strNumbersSpec)

/-- 'pentimentolaw11.ListFinds', WHERE WHAT IT READS IS OF BULK AT MOST 1048576: true; the input reads as it did. -/
def listFindsUptoRow : OpenClaim := { program := "ytlobedanjbcfkaa", sum := "fbb4e3a72fbe34c1e773e287fbaa32a8b313a718e0cad64ec36ab9bf90973b9e", func := "pentimento/pentimentolaw11.ListFinds", spec := "listFinds", unfollowed := true, recurses := true, apart := false, narrowed := true }
def ListFindsUptoSaid : Prop := listFindsUptoRow.holds Try.pinned (OpenSpec.upto listFindsSpec)

/-- 'pentimentolaw11.ListCuts', WHERE WHAT IT READS IS OF BULK AT MOST 1048576: true; the input reads as it did. -/
def listCutsUptoRow : OpenClaim := { program := "ytlobedanjbcfkaa", sum := "fbb4e3a72fbe34c1e773e287fbaa32a8b313a718e0cad64ec36ab9bf90973b9e", func := "pentimento/pentimentolaw11.ListCuts", spec := "listCuts", unfollowed := true, recurses := true, apart := false, narrowed := true }
def ListCutsUptoSaid : Prop := listCutsUptoRow.holds Try.pinned (OpenSpec.upto listCutsSpec)

end Rows
end Go.Proofs.Ytlobedanjbcfkaa
