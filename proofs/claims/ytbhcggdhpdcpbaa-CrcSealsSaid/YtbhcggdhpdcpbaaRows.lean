/-
  No cell of these rows narrows 'for every input' (looked for: loops, veiled, ifaces, maps, wideKeys, modest, calm, conditions, laid).
  DERIVED. THE GIVEN ROWS OF THIS SEAT. 9 by the template 'for every input the law returns true; each argument reads behind the call as it read before'; 0 by the template 'total and deterministic' (their statements: YtbhcggdhpdcpbaaTotals.lean).
  GIVEN WITH THE SEED: the statements are not yours to turn. If you find one false, say at which input.
  Laid BY PROGRAM, IN A SANDBOX (cutbox-rows.mjs): the forced cells as the released guide's own fill.sh prints them over the translation dc48e171aada7fa2… (all of the seat's roots in one cut). By AI agents, Wed Nov 11 2026. No macro, syntax, notation, axiom, sorry.
-/
import Derived.Test.YtbhcggdhpdcpbaaChecked
import GoSem.Claim
import GoSem.ClaimJoined
import GoSem.ClaimMapViews
import Derived.JoinedTies
import Derived.KernelRfl
namespace Go.Proofs.Ytbhcggdhpdcpbaa
/- THE CELL 'sum', in the pinned program and in every row, IS THE sha256 OF THE DUMP (.gsa) THAT YtbhcggdhpdcpbaaProg.lean LOADS. Nothing in Lean hashes anything: it is a label: what it is worth is what the hold of that sum in a sandbox is worth. -/
noncomputable def Try.pinned : Pinned := { name := "ytbhcggdhpdcpbaa", sum := "dc48e171aada7fa2d0403dcfbf18164eaece7dcf17889ccac98acc3ccbf589d4", checked := Try.checked }
namespace Rows
def none {H : Type} : Left H := { results := [], args := [] }

/-- 'pentimentolaw03.CrcSums': WHATEVER THE INPUT: true; the input reads as it did. -/
def crcSumsSpec : ChangeSpec := { name := "crcSums", fn := fun _ => fun
  | [d] => { results := [.lit (.bool true)], args := [d] }
  | _ => none }
def crcSumsRow : OpenClaim := { program := "ytbhcggdhpdcpbaa", sum := "dc48e171aada7fa2d0403dcfbf18164eaece7dcf17889ccac98acc3ccbf589d4", func := "pentimento/pentimentolaw03.CrcSums", spec := "crcSums", apart := false }
def CrcSumsSaid : Prop := crcSumsRow.holds Try.pinned (OpenSpec.ofChange crcSumsSpec)

/-- ITS FALSE NEIGHBOUR: 'it returns false'. Refute it at one input. -/
def crcSumsWrong : ChangeSpec := { name := "crcSums", fn := fun _ => fun
  | [d] => { results := [.lit (.bool false)], args := [d] }
  | _ => none }
def CrcSumsWrongFalsely : Prop := crcSumsRow.holds Try.pinned (OpenSpec.ofChange crcSumsWrong)

/-- 'pentimentolaw03.CrcApart': WHATEVER THE INPUT: true; the input reads as it did. -/
def crcApartSpec : ChangeSpec := { name := "crcApart", fn := fun _ => fun
  | [d1, d2, d3] => { results := [.lit (.bool true)], args := [d1, d2, d3] }
  | _ => none }
def crcApartRow : OpenClaim := { program := "ytbhcggdhpdcpbaa", sum := "dc48e171aada7fa2d0403dcfbf18164eaece7dcf17889ccac98acc3ccbf589d4", func := "pentimento/pentimentolaw03.CrcApart", spec := "crcApart", apart := false }
def CrcApartSaid : Prop := crcApartRow.holds Try.pinned (OpenSpec.ofChange crcApartSpec)

/-- ITS FALSE NEIGHBOUR: 'it returns false'. Refute it at one input. -/
def crcApartWrong : ChangeSpec := { name := "crcApart", fn := fun _ => fun
  | [d1, d2, d3] => { results := [.lit (.bool false)], args := [d1, d2, d3] }
  | _ => none }
def CrcApartWrongFalsely : Prop := crcApartRow.holds Try.pinned (OpenSpec.ofChange crcApartWrong)

/-- 'pentimentolaw03.CrcSeals': WHATEVER THE INPUT: true; the input reads as it did. -/
def crcSealsSpec : ChangeSpec := { name := "crcSeals", fn := fun _ => fun
  | [d1, d2] => { results := [.lit (.bool true)], args := [d1, d2] }
  | _ => none }
def crcSealsRow : OpenClaim := { program := "ytbhcggdhpdcpbaa", sum := "dc48e171aada7fa2d0403dcfbf18164eaece7dcf17889ccac98acc3ccbf589d4", func := "pentimento/pentimentolaw03.CrcSeals", spec := "crcSeals", apart := false }
def CrcSealsSaid : Prop := crcSealsRow.holds Try.pinned (OpenSpec.ofChange crcSealsSpec)

/-- ITS FALSE NEIGHBOUR: 'it returns false'. Refute it at one input. -/
def crcSealsWrong : ChangeSpec := { name := "crcSeals", fn := fun _ => fun
  | [d1, d2] => { results := [.lit (.bool false)], args := [d1, d2] }
  | _ => none }
def CrcSealsWrongFalsely : Prop := crcSealsRow.holds Try.pinned (OpenSpec.ofChange crcSealsWrong)

/-- 'pentimentolaw03.CrcTurns': WHATEVER THE INPUT: true; the input reads as it did. -/
def crcTurnsSpec : ChangeSpec := { name := "crcTurns", fn := fun _ => fun
  | [d1, d2, d3] => { results := [.lit (.bool true)], args := [d1, d2, d3] }
  | _ => none }
def crcTurnsRow : OpenClaim := { program := "ytbhcggdhpdcpbaa", sum := "dc48e171aada7fa2d0403dcfbf18164eaece7dcf17889ccac98acc3ccbf589d4", func := "pentimento/pentimentolaw03.CrcTurns", spec := "crcTurns", apart := false }
def CrcTurnsSaid : Prop := crcTurnsRow.holds Try.pinned (OpenSpec.ofChange crcTurnsSpec)

/-- ITS FALSE NEIGHBOUR: 'it returns false'. Refute it at one input. -/
def crcTurnsWrong : ChangeSpec := { name := "crcTurns", fn := fun _ => fun
  | [d1, d2, d3] => { results := [.lit (.bool false)], args := [d1, d2, d3] }
  | _ => none }
def CrcTurnsWrongFalsely : Prop := crcTurnsRow.holds Try.pinned (OpenSpec.ofChange crcTurnsWrong)

/-- 'pentimentolaw06.DiskKeeps': WHATEVER THE INPUT: true; the input reads as it did. -/
def diskKeepsSpec : ChangeSpec := { name := "diskKeeps", fn := fun _ => fun
  | [d1, d2] => { results := [.lit (.bool true)], args := [d1, d2] }
  | _ => none }
def diskKeepsRow : OpenClaim := { program := "ytbhcggdhpdcpbaa", sum := "dc48e171aada7fa2d0403dcfbf18164eaece7dcf17889ccac98acc3ccbf589d4", func := "pentimento/pentimentolaw06.DiskKeeps", spec := "diskKeeps", unfollowed := true, recurses := true, apart := false }
def DiskKeepsSaid : Prop := diskKeepsRow.holds Try.pinned (OpenSpec.ofChange diskKeepsSpec)

/-- ITS FALSE NEIGHBOUR: 'it returns false'. Refute it at one input. -/
def diskKeepsWrong : ChangeSpec := { name := "diskKeeps", fn := fun _ => fun
  | [d1, d2] => { results := [.lit (.bool false)], args := [d1, d2] }
  | _ => none }
def DiskKeepsWrongFalsely : Prop := diskKeepsRow.holds Try.pinned (OpenSpec.ofChange diskKeepsWrong)

/-- 'pentimentolaw08.SlotsTurn': WHATEVER THE INPUT: true; the input reads as it did. -/
def slotsTurnSpec : ChangeSpec := { name := "slotsTurn", fn := fun _ => fun
  | [d] => { results := [.lit (.bool true)], args := [d] }
  | _ => none }
def slotsTurnRow : OpenClaim := { program := "ytbhcggdhpdcpbaa", sum := "dc48e171aada7fa2d0403dcfbf18164eaece7dcf17889ccac98acc3ccbf589d4", func := "pentimento/pentimentolaw08.SlotsTurn", spec := "slotsTurn", unfollowed := true, recurses := true, apart := false }
def SlotsTurnSaid : Prop := slotsTurnRow.holds Try.pinned (OpenSpec.ofChange slotsTurnSpec)

/-- ITS FALSE NEIGHBOUR: 'it returns false'. Refute it at one input. -/
def slotsTurnWrong : ChangeSpec := { name := "slotsTurn", fn := fun _ => fun
  | [d] => { results := [.lit (.bool false)], args := [d] }
  | _ => none }
def SlotsTurnWrongFalsely : Prop := slotsTurnRow.holds Try.pinned (OpenSpec.ofChange slotsTurnWrong)

/-- 'pentimentolaw08.SlotsKeep': WHATEVER THE INPUT: true; the input reads as it did. -/
def slotsKeepSpec : ChangeSpec := { name := "slotsKeep", fn := fun _ => fun
  | [d1, d2] => { results := [.lit (.bool true)], args := [d1, d2] }
  | _ => none }
def slotsKeepRow : OpenClaim := { program := "ytbhcggdhpdcpbaa", sum := "dc48e171aada7fa2d0403dcfbf18164eaece7dcf17889ccac98acc3ccbf589d4", func := "pentimento/pentimentolaw08.SlotsKeep", spec := "slotsKeep", unfollowed := true, recurses := true, apart := false }
def SlotsKeepSaid : Prop := slotsKeepRow.holds Try.pinned (OpenSpec.ofChange slotsKeepSpec)

/-- ITS FALSE NEIGHBOUR: 'it returns false'. Refute it at one input. -/
def slotsKeepWrong : ChangeSpec := { name := "slotsKeep", fn := fun _ => fun
  | [d1, d2] => { results := [.lit (.bool false)], args := [d1, d2] }
  | _ => none }
def SlotsKeepWrongFalsely : Prop := slotsKeepRow.holds Try.pinned (OpenSpec.ofChange slotsKeepWrong)

/-- 'pentimentolaw07.LogStale': WHATEVER THE INPUT: true; the input reads as it did. -/
def logStaleSpec : ChangeSpec := { name := "logStale", fn := fun _ => fun
  | [d1, d2, d3] => { results := [.lit (.bool true)], args := [d1, d2, d3] }
  | _ => none }
def logStaleRow : OpenClaim := { program := "ytbhcggdhpdcpbaa", sum := "dc48e171aada7fa2d0403dcfbf18164eaece7dcf17889ccac98acc3ccbf589d4", func := "pentimento/pentimentolaw07.LogStale", spec := "logStale", unfollowed := true, recurses := true, apart := false }
def LogStaleSaid : Prop := logStaleRow.holds Try.pinned (OpenSpec.ofChange logStaleSpec)

/-- ITS FALSE NEIGHBOUR: 'it returns false'. Refute it at one input. -/
def logStaleWrong : ChangeSpec := { name := "logStale", fn := fun _ => fun
  | [d1, d2, d3] => { results := [.lit (.bool false)], args := [d1, d2, d3] }
  | _ => none }
def LogStaleWrongFalsely : Prop := logStaleRow.holds Try.pinned (OpenSpec.ofChange logStaleWrong)

/-- 'pentimentolaw07.LogKeeps': WHATEVER THE INPUT: true; the input reads as it did. -/
def logKeepsSpec : ChangeSpec := { name := "logKeeps", fn := fun _ => fun
  | [d1, d2] => { results := [.lit (.bool true)], args := [d1, d2] }
  | _ => none }
def logKeepsRow : OpenClaim := { program := "ytbhcggdhpdcpbaa", sum := "dc48e171aada7fa2d0403dcfbf18164eaece7dcf17889ccac98acc3ccbf589d4", func := "pentimento/pentimentolaw07.LogKeeps", spec := "logKeeps", unfollowed := true, recurses := true, apart := false }
def LogKeepsSaid : Prop := logKeepsRow.holds Try.pinned (OpenSpec.ofChange logKeepsSpec)

/-- ITS FALSE NEIGHBOUR: 'it returns false'. Refute it at one input. -/
def logKeepsWrong : ChangeSpec := { name := "logKeeps", fn := fun _ => fun
  | [d1, d2] => { results := [.lit (.bool false)], args := [d1, d2] }
  | _ => none }
def LogKeepsWrongFalsely : Prop := logKeepsRow.holds Try.pinned (OpenSpec.ofChange logKeepsWrong)

/- THE SECOND FORM. 'bulk': how many values and letters a reading holds, each counted each time it is reached (what is shared counts as often as it is met; a slice's spare places count too). A statement '..UptoSaid' is the law's where the arguments, and the package variables that the reading takes, are together of bulk at most 1048576: NARROWER than '..Said'. Prove '..Said' where nothing that the law and all that it calls make is longer than what came in: it says more and counts as full. Else prove '..UptoSaid'. A law counts once. -/
mutual
def uptoBulk {H : Type} : DataW H → Nat
  | .lit (.string bytes) => bytes.length + 1
  | .lit _ => 1
  | .nil => 1
  | .ptr d => uptoBulk d + 1
  | .slice elems spare => uptoBulkAll elems + uptoBulkAll spare + 1
  | .agg parts => uptoBulkAll parts + 1
  | .iface _ d => uptoBulk d + 1
  | .map entries => uptoBulkEntries entries + 1
  | .held _ => 1
def uptoBulkAll {H : Type} : List (DataW H) → Nat
  | [] => 0
  | d :: r => uptoBulk d + uptoBulkAll r
def uptoBulkEntries {H : Type} : List (Lit × DataW H) → Nat
  | [] => 0
  | x :: r => uptoBulkEntry x + uptoBulkEntries r
def uptoBulkEntry {H : Type} : Lit × DataW H → Nat
  | (.string bytes, d) => bytes.length + uptoBulk d + 1
  | (_, d) => uptoBulk d + 1
 end
def uptoSmall : (H : Type) → List (DataW H) → Bool := fun _ ds => decide (uptoBulkAll ds ≤ 1048576)
def OpenSpec.upto (s : _root_.Go.ChangeSpec) : _root_.Go.OpenSpec := { _root_.Go.OpenSpec.ofChange s with cond := some uptoSmall }

/-- 'pentimentolaw03.CrcSums', WHERE WHAT IT READS IS OF BULK AT MOST 1048576: true; the input reads as it did. -/
def crcSumsUptoRow : OpenClaim := { program := "ytbhcggdhpdcpbaa", sum := "dc48e171aada7fa2d0403dcfbf18164eaece7dcf17889ccac98acc3ccbf589d4", func := "pentimento/pentimentolaw03.CrcSums", spec := "crcSums", apart := false, narrowed := true }
def CrcSumsUptoSaid : Prop := crcSumsUptoRow.holds Try.pinned (OpenSpec.upto crcSumsSpec)

/-- 'pentimentolaw03.CrcApart', WHERE WHAT IT READS IS OF BULK AT MOST 1048576: true; the input reads as it did. -/
def crcApartUptoRow : OpenClaim := { program := "ytbhcggdhpdcpbaa", sum := "dc48e171aada7fa2d0403dcfbf18164eaece7dcf17889ccac98acc3ccbf589d4", func := "pentimento/pentimentolaw03.CrcApart", spec := "crcApart", apart := false, narrowed := true }
def CrcApartUptoSaid : Prop := crcApartUptoRow.holds Try.pinned (OpenSpec.upto crcApartSpec)

/-- 'pentimentolaw03.CrcSeals', WHERE WHAT IT READS IS OF BULK AT MOST 1048576: true; the input reads as it did. -/
def crcSealsUptoRow : OpenClaim := { program := "ytbhcggdhpdcpbaa", sum := "dc48e171aada7fa2d0403dcfbf18164eaece7dcf17889ccac98acc3ccbf589d4", func := "pentimento/pentimentolaw03.CrcSeals", spec := "crcSeals", apart := false, narrowed := true }
def CrcSealsUptoSaid : Prop := crcSealsUptoRow.holds Try.pinned (OpenSpec.upto crcSealsSpec)

/-- 'pentimentolaw03.CrcTurns', WHERE WHAT IT READS IS OF BULK AT MOST 1048576: true; the input reads as it did. -/
def crcTurnsUptoRow : OpenClaim := { program := "ytbhcggdhpdcpbaa", sum := "dc48e171aada7fa2d0403dcfbf18164eaece7dcf17889ccac98acc3ccbf589d4", func := "pentimento/pentimentolaw03.CrcTurns", spec := "crcTurns", apart := false, narrowed := true }
def CrcTurnsUptoSaid : Prop := crcTurnsUptoRow.holds Try.pinned (OpenSpec.upto crcTurnsSpec)

/-- 'pentimentolaw06.DiskKeeps', WHERE WHAT IT READS IS OF BULK AT MOST 1048576: true; the input reads as it did. -/
def diskKeepsUptoRow : OpenClaim := { program := "ytbhcggdhpdcpbaa", sum := "dc48e171aada7fa2d0403dcfbf18164eaece7dcf17889ccac98acc3ccbf589d4", func := "pentimento/pentimentolaw06.DiskKeeps", spec := "diskKeeps", unfollowed := true, recurses := true, apart := false, narrowed := true }
def DiskKeepsUptoSaid : Prop := diskKeepsUptoRow.holds Try.pinned (OpenSpec.upto diskKeepsSpec)

/-- 'pentimentolaw08.SlotsTurn', WHERE WHAT IT READS IS OF BULK AT MOST 1048576: true; the input reads as it did. -/
def slotsTurnUptoRow : OpenClaim := { program := "ytbhcggdhpdcpbaa", sum := "dc48e171aada7fa2d0403dcfbf18164eaece7dcf17889ccac98acc3ccbf589d4", func := "pentimento/pentimentolaw08.SlotsTurn", spec := "slotsTurn", unfollowed := true, recurses := true, apart := false, narrowed := true }
def SlotsTurnUptoSaid : Prop := slotsTurnUptoRow.holds Try.pinned (OpenSpec.upto slotsTurnSpec)

/-- 'pentimentolaw08.SlotsKeep', WHERE WHAT IT READS IS OF BULK AT MOST 1048576: true; the input reads as it did. -/
def slotsKeepUptoRow : OpenClaim := { program := "ytbhcggdhpdcpbaa", sum := "dc48e171aada7fa2d0403dcfbf18164eaece7dcf17889ccac98acc3ccbf589d4", func := "pentimento/pentimentolaw08.SlotsKeep", spec := "slotsKeep", unfollowed := true, recurses := true, apart := false, narrowed := true }
def SlotsKeepUptoSaid : Prop := slotsKeepUptoRow.holds Try.pinned (OpenSpec.upto slotsKeepSpec)

/-- 'pentimentolaw07.LogStale', WHERE WHAT IT READS IS OF BULK AT MOST 1048576: true; the input reads as it did. -/
def logStaleUptoRow : OpenClaim := { program := "ytbhcggdhpdcpbaa", sum := "dc48e171aada7fa2d0403dcfbf18164eaece7dcf17889ccac98acc3ccbf589d4", func := "pentimento/pentimentolaw07.LogStale", spec := "logStale", unfollowed := true, recurses := true, apart := false, narrowed := true }
def LogStaleUptoSaid : Prop := logStaleUptoRow.holds Try.pinned (OpenSpec.upto logStaleSpec)

/-- 'pentimentolaw07.LogKeeps', WHERE WHAT IT READS IS OF BULK AT MOST 1048576: true; the input reads as it did. -/
def logKeepsUptoRow : OpenClaim := { program := "ytbhcggdhpdcpbaa", sum := "dc48e171aada7fa2d0403dcfbf18164eaece7dcf17889ccac98acc3ccbf589d4", func := "pentimento/pentimentolaw07.LogKeeps", spec := "logKeeps", unfollowed := true, recurses := true, apart := false, narrowed := true }
def LogKeepsUptoSaid : Prop := logKeepsUptoRow.holds Try.pinned (OpenSpec.upto logKeepsSpec)

end Rows
end Go.Proofs.Ytbhcggdhpdcpbaa
