/-
  No cell of these rows narrows 'for every input' (looked for: loops, veiled, ifaces, maps, wideKeys, modest, calm, conditions, laid).
  DERIVED. THE GIVEN ROWS OF THIS SEAT. 10 by the template 'for every input the law returns true; each argument reads behind the call as it read before'; 0 by the template 'total and deterministic' (their statements: YtncgcdicadibbaaTotals.lean).
  GIVEN WITH THE SEED: the statements are not yours to turn. If you find one false, say at which input.
  Laid BY PROGRAM, IN A SANDBOX (cutbox-rows.mjs): the forced cells as the released guide's own fill.sh prints them over the translation 2b1c8d363332ad1a… (all of the seat's roots in one cut). By AI agents, Wed Nov 11 2026. No macro, syntax, notation, axiom, sorry.
-/
import Derived.Test.YtncgcdicadibbaaChecked
import GoSem.Claim
import GoSem.ClaimJoined
import GoSem.ClaimMapViews
import Derived.JoinedTies
import Derived.KernelRfl
namespace Go.Proofs.Ytncgcdicadibbaa
/- THE CELL 'sum', in the pinned program and in every row, IS THE sha256 OF THE DUMP (.gsa) THAT YtncgcdicadibbaaProg.lean LOADS. Nothing in Lean hashes anything: it is a label: what it is worth is what the hold of that sum in a sandbox is worth. -/
noncomputable def Try.pinned : Pinned := { name := "ytncgcdicadibbaa", sum := "2b1c8d363332ad1ac603a56fad07a133b7a531cfc626da0e485745ff1d8ccc01", checked := Try.checked }
namespace Rows
def none {H : Type} : Left H := { results := [], args := [] }

/-- 'weirlaw2.SumAdds': WHATEVER THE INPUT: true; the input reads as it did. -/
def sumAddsSpec : ChangeSpec := { name := "sumAdds", fn := fun _ => fun
  | [d] => { results := [.lit (.bool true)], args := [d] }
  | _ => none }
def sumAddsRow : OpenClaim := { program := "ytncgcdicadibbaa", sum := "2b1c8d363332ad1ac603a56fad07a133b7a531cfc626da0e485745ff1d8ccc01", func := "weir/weirlaw2.SumAdds", spec := "sumAdds", apart := false }
def SumAddsSaid : Prop := sumAddsRow.holds Try.pinned (OpenSpec.ofChange sumAddsSpec)

/-- ITS FALSE NEIGHBOUR: 'it returns false'. Refute it at one input. -/
def sumAddsWrong : ChangeSpec := { name := "sumAdds", fn := fun _ => fun
  | [d] => { results := [.lit (.bool false)], args := [d] }
  | _ => none }
def SumAddsWrongFalsely : Prop := sumAddsRow.holds Try.pinned (OpenSpec.ofChange sumAddsWrong)

/-- 'weirlaw2.SumOwn': WHATEVER THE INPUT: true; the input reads as it did. -/
def sumOwnSpec : ChangeSpec := { name := "sumOwn", fn := fun _ => fun
  | [d1, d2, d3] => { results := [.lit (.bool true)], args := [d1, d2, d3] }
  | _ => none }
def sumOwnRow : OpenClaim := { program := "ytncgcdicadibbaa", sum := "2b1c8d363332ad1ac603a56fad07a133b7a531cfc626da0e485745ff1d8ccc01", func := "weir/weirlaw2.SumOwn", spec := "sumOwn", apart := false }
def SumOwnSaid : Prop := sumOwnRow.holds Try.pinned (OpenSpec.ofChange sumOwnSpec)

/-- ITS FALSE NEIGHBOUR: 'it returns false'. Refute it at one input. -/
def sumOwnWrong : ChangeSpec := { name := "sumOwn", fn := fun _ => fun
  | [d1, d2, d3] => { results := [.lit (.bool false)], args := [d1, d2, d3] }
  | _ => none }
def SumOwnWrongFalsely : Prop := sumOwnRow.holds Try.pinned (OpenSpec.ofChange sumOwnWrong)

/-- 'weirlaw2.SumParts': WHATEVER THE INPUT: true; the input reads as it did. -/
def sumPartsSpec : ChangeSpec := { name := "sumParts", fn := fun _ => fun
  | [d1, d2, d3] => { results := [.lit (.bool true)], args := [d1, d2, d3] }
  | _ => none }
def sumPartsRow : OpenClaim := { program := "ytncgcdicadibbaa", sum := "2b1c8d363332ad1ac603a56fad07a133b7a531cfc626da0e485745ff1d8ccc01", func := "weir/weirlaw2.SumParts", spec := "sumParts", apart := false }
def SumPartsSaid : Prop := sumPartsRow.holds Try.pinned (OpenSpec.ofChange sumPartsSpec)

/-- ITS FALSE NEIGHBOUR: 'it returns false'. Refute it at one input. -/
def sumPartsWrong : ChangeSpec := { name := "sumParts", fn := fun _ => fun
  | [d1, d2, d3] => { results := [.lit (.bool false)], args := [d1, d2, d3] }
  | _ => none }
def SumPartsWrongFalsely : Prop := sumPartsRow.holds Try.pinned (OpenSpec.ofChange sumPartsWrong)

/-- 'weirlaw2.SumZeros': WHATEVER THE INPUT: true; the input reads as it did. -/
def sumZerosSpec : ChangeSpec := { name := "sumZeros", fn := fun _ => fun
  | [d1, d2] => { results := [.lit (.bool true)], args := [d1, d2] }
  | _ => none }
def sumZerosRow : OpenClaim := { program := "ytncgcdicadibbaa", sum := "2b1c8d363332ad1ac603a56fad07a133b7a531cfc626da0e485745ff1d8ccc01", func := "weir/weirlaw2.SumZeros", spec := "sumZeros", apart := false }
def SumZerosSaid : Prop := sumZerosRow.holds Try.pinned (OpenSpec.ofChange sumZerosSpec)

/-- ITS FALSE NEIGHBOUR: 'it returns false'. Refute it at one input. -/
def sumZerosWrong : ChangeSpec := { name := "sumZeros", fn := fun _ => fun
  | [d1, d2] => { results := [.lit (.bool false)], args := [d1, d2] }
  | _ => none }
def SumZerosWrongFalsely : Prop := sumZerosRow.holds Try.pinned (OpenSpec.ofChange sumZerosWrong)

/-- 'weirlaw2.SumPseudo': WHATEVER THE INPUT: true; the input reads as it did. -/
def sumPseudoSpec : ChangeSpec := { name := "sumPseudo", fn := fun _ => fun
  | [d1, d2, d3, d4] => { results := [.lit (.bool true)], args := [d1, d2, d3, d4] }
  | _ => none }
def sumPseudoRow : OpenClaim := { program := "ytncgcdicadibbaa", sum := "2b1c8d363332ad1ac603a56fad07a133b7a531cfc626da0e485745ff1d8ccc01", func := "weir/weirlaw2.SumPseudo", spec := "sumPseudo", apart := false }
def SumPseudoSaid : Prop := sumPseudoRow.holds Try.pinned (OpenSpec.ofChange sumPseudoSpec)

/-- ITS FALSE NEIGHBOUR: 'it returns false'. Refute it at one input. -/
def sumPseudoWrong : ChangeSpec := { name := "sumPseudo", fn := fun _ => fun
  | [d1, d2, d3, d4] => { results := [.lit (.bool false)], args := [d1, d2, d3, d4] }
  | _ => none }
def SumPseudoWrongFalsely : Prop := sumPseudoRow.holds Try.pinned (OpenSpec.ofChange sumPseudoWrong)

/-- 'weirlaw2.SumFixes': WHATEVER THE INPUT: true; the input reads as it did. -/
def sumFixesSpec : ChangeSpec := { name := "sumFixes", fn := fun _ => fun
  | [d1, d2, d3, d4, d5] => { results := [.lit (.bool true)], args := [d1, d2, d3, d4, d5] }
  | _ => none }
def sumFixesRow : OpenClaim := { program := "ytncgcdicadibbaa", sum := "2b1c8d363332ad1ac603a56fad07a133b7a531cfc626da0e485745ff1d8ccc01", func := "weir/weirlaw2.SumFixes", spec := "sumFixes", apart := false }
def SumFixesSaid : Prop := sumFixesRow.holds Try.pinned (OpenSpec.ofChange sumFixesSpec)

/-- ITS FALSE NEIGHBOUR: 'it returns false'. Refute it at one input. -/
def sumFixesWrong : ChangeSpec := { name := "sumFixes", fn := fun _ => fun
  | [d1, d2, d3, d4, d5] => { results := [.lit (.bool false)], args := [d1, d2, d3, d4, d5] }
  | _ => none }
def SumFixesWrongFalsely : Prop := sumFixesRow.holds Try.pinned (OpenSpec.ofChange sumFixesWrong)

/-- 'weirlaw2.SumTurns': WHATEVER THE INPUT: true; the input reads as it did. -/
def sumTurnsSpec : ChangeSpec := { name := "sumTurns", fn := fun _ => fun
  | [d1, d2, d3] => { results := [.lit (.bool true)], args := [d1, d2, d3] }
  | _ => none }
def sumTurnsRow : OpenClaim := { program := "ytncgcdicadibbaa", sum := "2b1c8d363332ad1ac603a56fad07a133b7a531cfc626da0e485745ff1d8ccc01", func := "weir/weirlaw2.SumTurns", spec := "sumTurns", apart := false }
def SumTurnsSaid : Prop := sumTurnsRow.holds Try.pinned (OpenSpec.ofChange sumTurnsSpec)

/-- ITS FALSE NEIGHBOUR: 'it returns false'. Refute it at one input. -/
def sumTurnsWrong : ChangeSpec := { name := "sumTurns", fn := fun _ => fun
  | [d1, d2, d3] => { results := [.lit (.bool false)], args := [d1, d2, d3] }
  | _ => none }
def SumTurnsWrongFalsely : Prop := sumTurnsRow.holds Try.pinned (OpenSpec.ofChange sumTurnsWrong)

/-- 'weirlaw2.SumAgain': WHATEVER THE INPUT: true; the input reads as it did. -/
def sumAgainSpec : ChangeSpec := { name := "sumAgain", fn := fun _ => fun
  | [d1, d2, d3] => { results := [.lit (.bool true)], args := [d1, d2, d3] }
  | _ => none }
def sumAgainRow : OpenClaim := { program := "ytncgcdicadibbaa", sum := "2b1c8d363332ad1ac603a56fad07a133b7a531cfc626da0e485745ff1d8ccc01", func := "weir/weirlaw2.SumAgain", spec := "sumAgain", apart := false }
def SumAgainSaid : Prop := sumAgainRow.holds Try.pinned (OpenSpec.ofChange sumAgainSpec)

/-- ITS FALSE NEIGHBOUR: 'it returns false'. Refute it at one input. -/
def sumAgainWrong : ChangeSpec := { name := "sumAgain", fn := fun _ => fun
  | [d1, d2, d3] => { results := [.lit (.bool false)], args := [d1, d2, d3] }
  | _ => none }
def SumAgainWrongFalsely : Prop := sumAgainRow.holds Try.pinned (OpenSpec.ofChange sumAgainWrong)

/-- 'weirlaw2.SumLong': WHATEVER THE INPUT: true; the input reads as it did. -/
def sumLongSpec : ChangeSpec := { name := "sumLong", fn := fun _ => fun
  | [d1, d2, d3] => { results := [.lit (.bool true)], args := [d1, d2, d3] }
  | _ => none }
def sumLongRow : OpenClaim := { program := "ytncgcdicadibbaa", sum := "2b1c8d363332ad1ac603a56fad07a133b7a531cfc626da0e485745ff1d8ccc01", func := "weir/weirlaw2.SumLong", spec := "sumLong", apart := false }
def SumLongSaid : Prop := sumLongRow.holds Try.pinned (OpenSpec.ofChange sumLongSpec)

/-- ITS FALSE NEIGHBOUR: 'it returns false'. Refute it at one input. -/
def sumLongWrong : ChangeSpec := { name := "sumLong", fn := fun _ => fun
  | [d1, d2, d3] => { results := [.lit (.bool false)], args := [d1, d2, d3] }
  | _ => none }
def SumLongWrongFalsely : Prop := sumLongRow.holds Try.pinned (OpenSpec.ofChange sumLongWrong)

/-- 'weirlaw2.SumLent': WHATEVER THE INPUT: true; the input reads as it did. -/
def sumLentSpec : ChangeSpec := { name := "sumLent", fn := fun _ => fun
  | [d1, d2, d3, d4] => { results := [.lit (.bool true)], args := [d1, d2, d3, d4] }
  | _ => none }
def sumLentRow : OpenClaim := { program := "ytncgcdicadibbaa", sum := "2b1c8d363332ad1ac603a56fad07a133b7a531cfc626da0e485745ff1d8ccc01", func := "weir/weirlaw2.SumLent", spec := "sumLent", apart := false }
def SumLentSaid : Prop := sumLentRow.holds Try.pinned (OpenSpec.ofChange sumLentSpec)

/-- ITS FALSE NEIGHBOUR: 'it returns false'. Refute it at one input. -/
def sumLentWrong : ChangeSpec := { name := "sumLent", fn := fun _ => fun
  | [d1, d2, d3, d4] => { results := [.lit (.bool false)], args := [d1, d2, d3, d4] }
  | _ => none }
def SumLentWrongFalsely : Prop := sumLentRow.holds Try.pinned (OpenSpec.ofChange sumLentWrong)

/- THE SECOND FORM. 'bulk': how many values and letters a reading holds, each counted each time it is reached (what is shared counts as often as it is met; a slice's spare places count too). A statement '..UptoSaid' is the law's where the arguments, and the package variables that the reading takes, are together of bulk at most 1048576: NARROWER than '..Said'. Prove '..Said' where nothing that the law and all that it calls make is longer than what came in: it says more and counts as full. Else prove '..UptoSaid'. A law counts once. -/
mutual
def uptoBulk {H : Type} : DataW H → Nat
  | .lit (.string bytes) => bytes.length + 1
  | .lit _ => 1
  | .nil => 1
  | .ptr d => uptoBulk d + 1
  | .slice elems spare => uptoBulkAll elems + uptoBulkAll spare + 1
  | .agg parts => uptoBulkAll parts + 1
  | .iface _ d => uptoBulk d + 1
  | .map entries => uptoBulkEntries entries + 1
  | .held _ => 1
def uptoBulkAll {H : Type} : List (DataW H) → Nat
  | [] => 0
  | d :: r => uptoBulk d + uptoBulkAll r
def uptoBulkEntries {H : Type} : List (Lit × DataW H) → Nat
  | [] => 0
  | x :: r => uptoBulkEntry x + uptoBulkEntries r
def uptoBulkEntry {H : Type} : Lit × DataW H → Nat
  | (.string bytes, d) => bytes.length + uptoBulk d + 1
  | (_, d) => uptoBulk d + 1
 end
def uptoSmall : (H : Type) → List (DataW H) → Bool := fun _ ds => decide (uptoBulkAll ds ≤ 1048576)
def OpenSpec.upto (s : _root_.Go.ChangeSpec) : _root_.Go.OpenSpec := { _root_.Go.OpenSpec.ofChange s with cond := some uptoSmall }

/-- 'weirlaw2.SumAdds', WHERE WHAT IT READS IS OF BULK AT MOST 1048576: true; the input reads as it did. -/
def sumAddsUptoRow : OpenClaim := { program := "ytncgcdicadibbaa", sum := "2b1c8d363332ad1ac603a56fad07a133b7a531cfc626da0e485745ff1d8ccc01", func := "weir/weirlaw2.SumAdds", spec := "sumAdds", apart := false, narrowed := true }
def SumAddsUptoSaid : Prop := sumAddsUptoRow.holds Try.pinned (OpenSpec.upto sumAddsSpec)

/-- 'weirlaw2.SumOwn', WHERE WHAT IT READS IS OF BULK AT MOST 1048576: true; the input reads as it did. -/
def sumOwnUptoRow : OpenClaim := { program := "ytncgcdicadibbaa", sum := "2b1c8d363332ad1ac603a56fad07a133b7a531cfc626da0e485745ff1d8ccc01", func := "weir/weirlaw2.SumOwn", spec := "sumOwn", apart := false, narrowed := true }
def SumOwnUptoSaid : Prop := sumOwnUptoRow.holds Try.pinned (OpenSpec.upto sumOwnSpec)

/-- 'weirlaw2.SumParts', WHERE WHAT IT READS IS OF BULK AT MOST 1048576: true; the input reads as it did. -/
def sumPartsUptoRow : OpenClaim := { program := "ytncgcdicadibbaa", sum := "2b1c8d363332ad1ac603a56fad07a133b7a531cfc626da0e485745ff1d8ccc01", func := "weir/weirlaw2.SumParts", spec := "sumParts", apart := false, narrowed := true }
def SumPartsUptoSaid : Prop := sumPartsUptoRow.holds Try.pinned (OpenSpec.upto sumPartsSpec)

/-- 'weirlaw2.SumZeros', WHERE WHAT IT READS IS OF BULK AT MOST 1048576: true; the input reads as it did. -/
def sumZerosUptoRow : OpenClaim := { program := "ytncgcdicadibbaa", sum := "2b1c8d363332ad1ac603a56fad07a133b7a531cfc626da0e485745ff1d8ccc01", func := "weir/weirlaw2.SumZeros", spec := "sumZeros", apart := false, narrowed := true }
def SumZerosUptoSaid : Prop := sumZerosUptoRow.holds Try.pinned (OpenSpec.upto sumZerosSpec)

/-- 'weirlaw2.SumPseudo', WHERE WHAT IT READS IS OF BULK AT MOST 1048576: true; the input reads as it did. -/
def sumPseudoUptoRow : OpenClaim := { program := "ytncgcdicadibbaa", sum := "2b1c8d363332ad1ac603a56fad07a133b7a531cfc626da0e485745ff1d8ccc01", func := "weir/weirlaw2.SumPseudo", spec := "sumPseudo", apart := false, narrowed := true }
def SumPseudoUptoSaid : Prop := sumPseudoUptoRow.holds Try.pinned (OpenSpec.upto sumPseudoSpec)

/-- 'weirlaw2.SumFixes', WHERE WHAT IT READS IS OF BULK AT MOST 1048576: true; the input reads as it did. -/
def sumFixesUptoRow : OpenClaim := { program := "ytncgcdicadibbaa", sum := "2b1c8d363332ad1ac603a56fad07a133b7a531cfc626da0e485745ff1d8ccc01", func := "weir/weirlaw2.SumFixes", spec := "sumFixes", apart := false, narrowed := true }
def SumFixesUptoSaid : Prop := sumFixesUptoRow.holds Try.pinned (OpenSpec.upto sumFixesSpec)

/-- 'weirlaw2.SumTurns', WHERE WHAT IT READS IS OF BULK AT MOST 1048576: true; the input reads as it did. -/
def sumTurnsUptoRow : OpenClaim := { program := "ytncgcdicadibbaa", sum := "2b1c8d363332ad1ac603a56fad07a133b7a531cfc626da0e485745ff1d8ccc01", func := "weir/weirlaw2.SumTurns", spec := "sumTurns", apart := false, narrowed := true }
def SumTurnsUptoSaid : Prop := sumTurnsUptoRow.holds Try.pinned (OpenSpec.upto sumTurnsSpec)

/-- 'weirlaw2.SumAgain', WHERE WHAT IT READS IS OF BULK AT MOST 1048576: true; the input reads as it did. -/
def sumAgainUptoRow : OpenClaim := { program := "ytncgcdicadibbaa", sum := "2b1c8d363332ad1ac603a56fad07a133b7a531cfc626da0e485745ff1d8ccc01", func := "weir/weirlaw2.SumAgain", spec := "sumAgain", apart := false, narrowed := true }
def SumAgainUptoSaid : Prop := sumAgainUptoRow.holds Try.pinned (OpenSpec.upto sumAgainSpec)

/-- 'weirlaw2.SumLong', WHERE WHAT IT READS IS OF BULK AT MOST 1048576: true; the input reads as it did. -/
def sumLongUptoRow : OpenClaim := { program := "ytncgcdicadibbaa", sum := "2b1c8d363332ad1ac603a56fad07a133b7a531cfc626da0e485745ff1d8ccc01", func := "weir/weirlaw2.SumLong", spec := "sumLong", apart := false, narrowed := true }
def SumLongUptoSaid : Prop := sumLongUptoRow.holds Try.pinned (OpenSpec.upto sumLongSpec)

/-- 'weirlaw2.SumLent', WHERE WHAT IT READS IS OF BULK AT MOST 1048576: true; the input reads as it did. -/
def sumLentUptoRow : OpenClaim := { program := "ytncgcdicadibbaa", sum := "2b1c8d363332ad1ac603a56fad07a133b7a531cfc626da0e485745ff1d8ccc01", func := "weir/weirlaw2.SumLent", spec := "sumLent", apart := false, narrowed := true }
def SumLentUptoSaid : Prop := sumLentUptoRow.holds Try.pinned (OpenSpec.upto sumLentSpec)

end Rows
end Go.Proofs.Ytncgcdicadibbaa
