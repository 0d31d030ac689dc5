/-
  No cell of these rows narrows 'for every input' (looked for: loops, veiled, ifaces, maps, wideKeys, modest, calm, conditions, laid).
  DERIVED. THE GIVEN ROWS OF THIS SEAT. 10 by the template 'for every input the law returns true; each argument reads behind the call as it read before'; 0 by the template 'total and deterministic' (their statements: YtopobapmncbjhaaTotals.lean).
  GIVEN WITH THE SEED: the statements are not yours to turn. If you find one false, say at which input.
  Laid BY PROGRAM, IN A SANDBOX (cutbox-rows.mjs): the forced cells as the released guide's own fill.sh prints them over the translation 549ff9fd601fce59… (all of the seat's roots in one cut). By AI agents, Wed Nov 11 2026. No macro, syntax, notation, axiom, sorry.
-/
import Derived.Test.YtopobapmncbjhaaChecked
import GoSem.Claim
import GoSem.ClaimJoined
import GoSem.ClaimMapViews
import Derived.JoinedTies
import Derived.KernelRfl
namespace Go.Proofs.Ytopobapmncbjhaa
/- THE CELL 'sum', in the pinned program and in every row, IS THE sha256 OF THE DUMP (.gsa) THAT YtopobapmncbjhaaProg.lean LOADS. Nothing in Lean hashes anything: it is a label: what it is worth is what the hold of that sum in a sandbox is worth. -/
noncomputable def Try.pinned : Pinned := { name := "ytopobapmncbjhaa", sum := "549ff9fd601fce598da1167cd19cce1b4d5ca9831e02803e8d2e65cab5261f9e", checked := Try.checked }
namespace Rows
def none {H : Type} : Left H := { results := [], args := [] }

/-- 'weirlaw5.LinkPads': WHATEVER THE INPUT: true; the input reads as it did. -/
def linkPadsSpec : ChangeSpec := { name := "linkPads", fn := fun _ => fun
  | [d1, d2] => { results := [.lit (.bool true)], args := [d1, d2] }
  | _ => none }
def linkPadsRow : OpenClaim := { program := "ytopobapmncbjhaa", sum := "549ff9fd601fce598da1167cd19cce1b4d5ca9831e02803e8d2e65cab5261f9e", func := "weir/weirlaw5.LinkPads", spec := "linkPads", apart := false }
def LinkPadsSaid : Prop := linkPadsRow.holds Try.pinned (OpenSpec.ofChange linkPadsSpec)

/-- ITS FALSE NEIGHBOUR: 'it returns false'. Refute it at one input. -/
def linkPadsWrong : ChangeSpec := { name := "linkPads", fn := fun _ => fun
  | [d1, d2] => { results := [.lit (.bool false)], args := [d1, d2] }
  | _ => none }
def LinkPadsWrongFalsely : Prop := linkPadsRow.holds Try.pinned (OpenSpec.ofChange linkPadsWrong)

/-- 'weirlaw5.LinkArps': WHATEVER THE INPUT: true; the input reads as it did. -/
def linkArpsSpec : ChangeSpec := { name := "linkArps", fn := fun _ => fun
  | [d1, d2] => { results := [.lit (.bool true)], args := [d1, d2] }
  | _ => none }
def linkArpsRow : OpenClaim := { program := "ytopobapmncbjhaa", sum := "549ff9fd601fce598da1167cd19cce1b4d5ca9831e02803e8d2e65cab5261f9e", func := "weir/weirlaw5.LinkArps", spec := "linkArps", unfollowed := true, recurses := true, apart := false }
def LinkArpsSaid : Prop := linkArpsRow.holds Try.pinned (OpenSpec.ofChange linkArpsSpec)

/-- ITS FALSE NEIGHBOUR: 'it returns false'. Refute it at one input. -/
def linkArpsWrong : ChangeSpec := { name := "linkArps", fn := fun _ => fun
  | [d1, d2] => { results := [.lit (.bool false)], args := [d1, d2] }
  | _ => none }
def LinkArpsWrongFalsely : Prop := linkArpsRow.holds Try.pinned (OpenSpec.ofChange linkArpsWrong)

/-- 'weirlaw5.LinkArpBack': WHATEVER THE INPUT: true; the input reads as it did. -/
def linkArpBackSpec : ChangeSpec := { name := "linkArpBack", fn := fun _ => fun
  | [d1, d2] => { results := [.lit (.bool true)], args := [d1, d2] }
  | _ => none }
def linkArpBackRow : OpenClaim := { program := "ytopobapmncbjhaa", sum := "549ff9fd601fce598da1167cd19cce1b4d5ca9831e02803e8d2e65cab5261f9e", func := "weir/weirlaw5.LinkArpBack", spec := "linkArpBack", unfollowed := true, recurses := true, apart := false }
def LinkArpBackSaid : Prop := linkArpBackRow.holds Try.pinned (OpenSpec.ofChange linkArpBackSpec)

/-- ITS FALSE NEIGHBOUR: 'it returns false'. Refute it at one input. -/
def linkArpBackWrong : ChangeSpec := { name := "linkArpBack", fn := fun _ => fun
  | [d1, d2] => { results := [.lit (.bool false)], args := [d1, d2] }
  | _ => none }
def LinkArpBackWrongFalsely : Prop := linkArpBackRow.holds Try.pinned (OpenSpec.ofChange linkArpBackWrong)

/-- 'weirlaw5.LinkParses': WHATEVER THE INPUT: true; the input reads as it did. -/
def linkParsesSpec : ChangeSpec := { name := "linkParses", fn := fun _ => fun
  | [d] => { results := [.lit (.bool true)], args := [d] }
  | _ => none }
def linkParsesRow : OpenClaim := { program := "ytopobapmncbjhaa", sum := "549ff9fd601fce598da1167cd19cce1b4d5ca9831e02803e8d2e65cab5261f9e", func := "weir/weirlaw5.LinkParses", spec := "linkParses", apart := false }
def LinkParsesSaid : Prop := linkParsesRow.holds Try.pinned (OpenSpec.ofChange linkParsesSpec)

/-- ITS FALSE NEIGHBOUR: 'it returns false'. Refute it at one input. -/
def linkParsesWrong : ChangeSpec := { name := "linkParses", fn := fun _ => fun
  | [d] => { results := [.lit (.bool false)], args := [d] }
  | _ => none }
def LinkParsesWrongFalsely : Prop := linkParsesRow.holds Try.pinned (OpenSpec.ofChange linkParsesWrong)

/-- 'weirlaw5.LinkWrites': WHATEVER THE INPUT: true; the input reads as it did. -/
def linkWritesSpec : ChangeSpec := { name := "linkWrites", fn := fun _ => fun
  | [d] => { results := [.lit (.bool true)], args := [d] }
  | _ => none }
def linkWritesRow : OpenClaim := { program := "ytopobapmncbjhaa", sum := "549ff9fd601fce598da1167cd19cce1b4d5ca9831e02803e8d2e65cab5261f9e", func := "weir/weirlaw5.LinkWrites", spec := "linkWrites", apart := false }
def LinkWritesSaid : Prop := linkWritesRow.holds Try.pinned (OpenSpec.ofChange linkWritesSpec)

/-- ITS FALSE NEIGHBOUR: 'it returns false'. Refute it at one input. -/
def linkWritesWrong : ChangeSpec := { name := "linkWrites", fn := fun _ => fun
  | [d] => { results := [.lit (.bool false)], args := [d] }
  | _ => none }
def LinkWritesWrongFalsely : Prop := linkWritesRow.holds Try.pinned (OpenSpec.ofChange linkWritesWrong)

/-- 'weirlaw5.LinkOne': WHATEVER THE INPUT: true; the input reads as it did. -/
def linkOneSpec : ChangeSpec := { name := "linkOne", fn := fun _ => fun
  | [d] => { results := [.lit (.bool true)], args := [d] }
  | _ => none }
def linkOneRow : OpenClaim := { program := "ytopobapmncbjhaa", sum := "549ff9fd601fce598da1167cd19cce1b4d5ca9831e02803e8d2e65cab5261f9e", func := "weir/weirlaw5.LinkOne", spec := "linkOne", apart := false }
def LinkOneSaid : Prop := linkOneRow.holds Try.pinned (OpenSpec.ofChange linkOneSpec)

/-- ITS FALSE NEIGHBOUR: 'it returns false'. Refute it at one input. -/
def linkOneWrong : ChangeSpec := { name := "linkOne", fn := fun _ => fun
  | [d] => { results := [.lit (.bool false)], args := [d] }
  | _ => none }
def LinkOneWrongFalsely : Prop := linkOneRow.holds Try.pinned (OpenSpec.ofChange linkOneWrong)

/-- 'weirlaw5.LinkBack': WHATEVER THE INPUT: true; the input reads as it did. -/
def linkBackSpec : ChangeSpec := { name := "linkBack", fn := fun _ => fun
  | [d] => { results := [.lit (.bool true)], args := [d] }
  | _ => none }
def linkBackRow : OpenClaim := { program := "ytopobapmncbjhaa", sum := "549ff9fd601fce598da1167cd19cce1b4d5ca9831e02803e8d2e65cab5261f9e", func := "weir/weirlaw5.LinkBack", spec := "linkBack", apart := false }
def LinkBackSaid : Prop := linkBackRow.holds Try.pinned (OpenSpec.ofChange linkBackSpec)

/-- ITS FALSE NEIGHBOUR: 'it returns false'. Refute it at one input. -/
def linkBackWrong : ChangeSpec := { name := "linkBack", fn := fun _ => fun
  | [d] => { results := [.lit (.bool false)], args := [d] }
  | _ => none }
def LinkBackWrongFalsely : Prop := linkBackRow.holds Try.pinned (OpenSpec.ofChange linkBackWrong)

/-- 'weirlaw5.LinkLent': WHATEVER THE INPUT: true; the input reads as it did. -/
def linkLentSpec : ChangeSpec := { name := "linkLent", fn := fun _ => fun
  | [d1, d2, d3] => { results := [.lit (.bool true)], args := [d1, d2, d3] }
  | _ => none }
def linkLentRow : OpenClaim := { program := "ytopobapmncbjhaa", sum := "549ff9fd601fce598da1167cd19cce1b4d5ca9831e02803e8d2e65cab5261f9e", func := "weir/weirlaw5.LinkLent", spec := "linkLent", apart := false }
def LinkLentSaid : Prop := linkLentRow.holds Try.pinned (OpenSpec.ofChange linkLentSpec)

/-- ITS FALSE NEIGHBOUR: 'it returns false'. Refute it at one input. -/
def linkLentWrong : ChangeSpec := { name := "linkLent", fn := fun _ => fun
  | [d1, d2, d3] => { results := [.lit (.bool false)], args := [d1, d2, d3] }
  | _ => none }
def LinkLentWrongFalsely : Prop := linkLentRow.holds Try.pinned (OpenSpec.ofChange linkLentWrong)

/-- 'weirlaw5.LinkAgain': WHATEVER THE INPUT: true; the input reads as it did. -/
def linkAgainSpec : ChangeSpec := { name := "linkAgain", fn := fun _ => fun
  | [d1, d2, d3] => { results := [.lit (.bool true)], args := [d1, d2, d3] }
  | _ => none }
def linkAgainRow : OpenClaim := { program := "ytopobapmncbjhaa", sum := "549ff9fd601fce598da1167cd19cce1b4d5ca9831e02803e8d2e65cab5261f9e", func := "weir/weirlaw5.LinkAgain", spec := "linkAgain", unfollowed := true, recurses := true, apart := false }
def LinkAgainSaid : Prop := linkAgainRow.holds Try.pinned (OpenSpec.ofChange linkAgainSpec)

/-- ITS FALSE NEIGHBOUR: 'it returns false'. Refute it at one input. -/
def linkAgainWrong : ChangeSpec := { name := "linkAgain", fn := fun _ => fun
  | [d1, d2, d3] => { results := [.lit (.bool false)], args := [d1, d2, d3] }
  | _ => none }
def LinkAgainWrongFalsely : Prop := linkAgainRow.holds Try.pinned (OpenSpec.ofChange linkAgainWrong)

/-- 'weirlaw5.LinkLong': WHATEVER THE INPUT: true; the input reads as it did. -/
def linkLongSpec : ChangeSpec := { name := "linkLong", fn := fun _ => fun
  | [d1, d2] => { results := [.lit (.bool true)], args := [d1, d2] }
  | _ => none }
def linkLongRow : OpenClaim := { program := "ytopobapmncbjhaa", sum := "549ff9fd601fce598da1167cd19cce1b4d5ca9831e02803e8d2e65cab5261f9e", func := "weir/weirlaw5.LinkLong", spec := "linkLong", unfollowed := true, recurses := true, apart := false }
def LinkLongSaid : Prop := linkLongRow.holds Try.pinned (OpenSpec.ofChange linkLongSpec)

/-- ITS FALSE NEIGHBOUR: 'it returns false'. Refute it at one input. -/
def linkLongWrong : ChangeSpec := { name := "linkLong", fn := fun _ => fun
  | [d1, d2] => { results := [.lit (.bool false)], args := [d1, d2] }
  | _ => none }
def LinkLongWrongFalsely : Prop := linkLongRow.holds Try.pinned (OpenSpec.ofChange linkLongWrong)

/- THE SECOND FORM. 'bulk': how many values and letters a reading holds, each counted each time it is reached (what is shared counts as often as it is met; a slice's spare places count too). A statement '..UptoSaid' is the law's where the arguments, and the package variables that the reading takes, are together of bulk at most 1048576: NARROWER than '..Said'. Prove '..Said' where nothing that the law and all that it calls make is longer than what came in: it says more and counts as full. Else prove '..UptoSaid'. A law counts once. -/
mutual
def uptoBulk {H : Type} : DataW H → Nat
  | .lit (.string bytes) => bytes.length + 1
  | .lit _ => 1
  | .nil => 1
  | .ptr d => uptoBulk d + 1
  | .slice elems spare => uptoBulkAll elems + uptoBulkAll spare + 1
  | .agg parts => uptoBulkAll parts + 1
  | .iface _ d => uptoBulk d + 1
  | .map entries => uptoBulkEntries entries + 1
  | .held _ => 1
def uptoBulkAll {H : Type} : List (DataW H) → Nat
  | [] => 0
  | d :: r => uptoBulk d + uptoBulkAll r
def uptoBulkEntries {H : Type} : List (Lit × DataW H) → Nat
  | [] => 0
  | x :: r => uptoBulkEntry x + uptoBulkEntries r
def uptoBulkEntry {H : Type} : Lit × DataW H → Nat
  | (.string bytes, d) => bytes.length + uptoBulk d + 1
  | (_, d) => uptoBulk d + 1
 end
def uptoSmall : (H : Type) → List (DataW H) → Bool := fun _ ds => decide (uptoBulkAll ds ≤ 1048576)
def OpenSpec.upto (s : _root_.Go.ChangeSpec) : _root_.Go.OpenSpec := { _root_.Go.OpenSpec.ofChange s with cond := some uptoSmall }

/-- 'weirlaw5.LinkPads', WHERE WHAT IT READS IS OF BULK AT MOST 1048576: true; the input reads as it did. -/
def linkPadsUptoRow : OpenClaim := { program := "ytopobapmncbjhaa", sum := "549ff9fd601fce598da1167cd19cce1b4d5ca9831e02803e8d2e65cab5261f9e", func := "weir/weirlaw5.LinkPads", spec := "linkPads", apart := false, narrowed := true }
def LinkPadsUptoSaid : Prop := linkPadsUptoRow.holds Try.pinned (OpenSpec.upto linkPadsSpec)

/-- 'weirlaw5.LinkArps', WHERE WHAT IT READS IS OF BULK AT MOST 1048576: true; the input reads as it did. -/
def linkArpsUptoRow : OpenClaim := { program := "ytopobapmncbjhaa", sum := "549ff9fd601fce598da1167cd19cce1b4d5ca9831e02803e8d2e65cab5261f9e", func := "weir/weirlaw5.LinkArps", spec := "linkArps", unfollowed := true, recurses := true, apart := false, narrowed := true }
def LinkArpsUptoSaid : Prop := linkArpsUptoRow.holds Try.pinned (OpenSpec.upto linkArpsSpec)

/-- 'weirlaw5.LinkArpBack', WHERE WHAT IT READS IS OF BULK AT MOST 1048576: true; the input reads as it did. -/
def linkArpBackUptoRow : OpenClaim := { program := "ytopobapmncbjhaa", sum := "549ff9fd601fce598da1167cd19cce1b4d5ca9831e02803e8d2e65cab5261f9e", func := "weir/weirlaw5.LinkArpBack", spec := "linkArpBack", unfollowed := true, recurses := true, apart := false, narrowed := true }
def LinkArpBackUptoSaid : Prop := linkArpBackUptoRow.holds Try.pinned (OpenSpec.upto linkArpBackSpec)

/-- 'weirlaw5.LinkParses', WHERE WHAT IT READS IS OF BULK AT MOST 1048576: true; the input reads as it did. -/
def linkParsesUptoRow : OpenClaim := { program := "ytopobapmncbjhaa", sum := "549ff9fd601fce598da1167cd19cce1b4d5ca9831e02803e8d2e65cab5261f9e", func := "weir/weirlaw5.LinkParses", spec := "linkParses", apart := false, narrowed := true }
def LinkParsesUptoSaid : Prop := linkParsesUptoRow.holds Try.pinned (OpenSpec.upto linkParsesSpec)

/-- 'weirlaw5.LinkWrites', WHERE WHAT IT READS IS OF BULK AT MOST 1048576: true; the input reads as it did. -/
def linkWritesUptoRow : OpenClaim := { program := "ytopobapmncbjhaa", sum := "549ff9fd601fce598da1167cd19cce1b4d5ca9831e02803e8d2e65cab5261f9e", func := "weir/weirlaw5.LinkWrites", spec := "linkWrites", apart := false, narrowed := true }
def LinkWritesUptoSaid : Prop := linkWritesUptoRow.holds Try.pinned (OpenSpec.upto linkWritesSpec)

/-- 'weirlaw5.LinkOne', WHERE WHAT IT READS IS OF BULK AT MOST 1048576: true; the input reads as it did. -/
def linkOneUptoRow : OpenClaim := { program := "ytopobapmncbjhaa", sum := "549ff9fd601fce598da1167cd19cce1b4d5ca9831e02803e8d2e65cab5261f9e", func := "weir/weirlaw5.LinkOne", spec := "linkOne", apart := false, narrowed := true }
def LinkOneUptoSaid : Prop := linkOneUptoRow.holds Try.pinned (OpenSpec.upto linkOneSpec)

/-- 'weirlaw5.LinkBack', WHERE WHAT IT READS IS OF BULK AT MOST 1048576: true; the input reads as it did. -/
def linkBackUptoRow : OpenClaim := { program := "ytopobapmncbjhaa", sum := "549ff9fd601fce598da1167cd19cce1b4d5ca9831e02803e8d2e65cab5261f9e", func := "weir/weirlaw5.LinkBack", spec := "linkBack", apart := false, narrowed := true }
def LinkBackUptoSaid : Prop := linkBackUptoRow.holds Try.pinned (OpenSpec.upto linkBackSpec)

/-- 'weirlaw5.LinkLent', WHERE WHAT IT READS IS OF BULK AT MOST 1048576: true; the input reads as it did. -/
def linkLentUptoRow : OpenClaim := { program := "ytopobapmncbjhaa", sum := "549ff9fd601fce598da1167cd19cce1b4d5ca9831e02803e8d2e65cab5261f9e", func := "weir/weirlaw5.LinkLent", spec := "linkLent", apart := false, narrowed := true }
def LinkLentUptoSaid : Prop := linkLentUptoRow.holds Try.pinned (OpenSpec.upto linkLentSpec)

/-- 'weirlaw5.LinkAgain', WHERE WHAT IT READS IS OF BULK AT MOST 1048576: true; the input reads as it did. -/
def linkAgainUptoRow : OpenClaim := { program := "ytopobapmncbjhaa", sum := "549ff9fd601fce598da1167cd19cce1b4d5ca9831e02803e8d2e65cab5261f9e", func := "weir/weirlaw5.LinkAgain", spec := "linkAgain", unfollowed := true, recurses := true, apart := false, narrowed := true }
def LinkAgainUptoSaid : Prop := linkAgainUptoRow.holds Try.pinned (OpenSpec.upto linkAgainSpec)

/-- 'weirlaw5.LinkLong', WHERE WHAT IT READS IS OF BULK AT MOST 1048576: true; the input reads as it did. -/
def linkLongUptoRow : OpenClaim := { program := "ytopobapmncbjhaa", sum := "549ff9fd601fce598da1167cd19cce1b4d5ca9831e02803e8d2e65cab5261f9e", func := "weir/weirlaw5.LinkLong", spec := "linkLong", unfollowed := true, recurses := true, apart := false, narrowed := true }
def LinkLongUptoSaid : Prop := linkLongUptoRow.holds Try.pinned (OpenSpec.upto linkLongSpec)

end Rows
end Go.Proofs.Ytopobapmncbjhaa
