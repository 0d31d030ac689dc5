/-
  No cell of these rows narrows 'for every input' (looked for: loops, veiled, ifaces, maps, wideKeys, modest, calm, conditions, laid).
  DERIVED. THE GIVEN ROWS OF THIS SEAT. 7 by the template 'for every input the law returns true; each argument reads behind the call as it read before'; 0 by the template 'total and deterministic' (their statements: YtkkdnnpnbmpifaaTotals.lean).
  GIVEN WITH THE SEED: the statements are not yours to turn. If you find one false, say at which input.
  Laid BY PROGRAM, IN A SANDBOX (cutbox-rows.mjs): the forced cells as the released guide's own fill.sh prints them over the translation f4331e3b611d892d… (all of the seat's roots in one cut). By AI agents, Wed Nov 11 2026. No macro, syntax, notation, axiom, sorry.
-/
import Derived.Test.YtkkdnnpnbmpifaaChecked
import GoSem.Claim
import GoSem.ClaimJoined
import GoSem.ClaimMapViews
import Derived.JoinedTies
import Derived.KernelRfl
namespace Go.Proofs.Ytkkdnnpnbmpifaa
/- THE CELL 'sum', in the pinned program and in every row, IS THE sha256 OF THE DUMP (.gsa) THAT YtkkdnnpnbmpifaaProg.lean LOADS. Nothing in Lean hashes anything: it is a label: what it is worth is what the hold of that sum in a sandbox is worth. -/
noncomputable def Try.pinned : Pinned := { name := "ytkkdnnpnbmpifaa", sum := "f4331e3b611d892d06241d22d3da71e5bebf647b788ba2274814c61db1117167", checked := Try.checked }
namespace Rows
def none {H : Type} : Left H := { results := [], args := [] }

/-- 'weirlaw11.HoleParts': WHATEVER THE INPUT: true; the input reads as it did. -/
def holePartsSpec : ChangeSpec := { name := "holeParts", fn := fun _ => fun
  | [d1, d2] => { results := [.lit (.bool true)], args := [d1, d2] }
  | _ => none }
def holePartsRow : OpenClaim := { program := "ytkkdnnpnbmpifaa", sum := "f4331e3b611d892d06241d22d3da71e5bebf647b788ba2274814c61db1117167", func := "weir/weirlaw11.HoleParts", spec := "holeParts", plainKeys := false, apart := false }
def HolePartsSaid : Prop := holePartsRow.holds Try.pinned (OpenSpec.ofChange holePartsSpec)

/-- ITS FALSE NEIGHBOUR: 'it returns false'. Refute it at one input. -/
def holePartsWrong : ChangeSpec := { name := "holeParts", fn := fun _ => fun
  | [d1, d2] => { results := [.lit (.bool false)], args := [d1, d2] }
  | _ => none }
def HolePartsWrongFalsely : Prop := holePartsRow.holds Try.pinned (OpenSpec.ofChange holePartsWrong)

/-- 'weirlaw11.HolePieces': WHATEVER THE INPUT: true; the input reads as it did. -/
def holePiecesSpec : ChangeSpec := { name := "holePieces", fn := fun _ => fun
  | [d1, d2, d3] => { results := [.lit (.bool true)], args := [d1, d2, d3] }
  | _ => none }
def holePiecesRow : OpenClaim := { program := "ytkkdnnpnbmpifaa", sum := "f4331e3b611d892d06241d22d3da71e5bebf647b788ba2274814c61db1117167", func := "weir/weirlaw11.HolePieces", spec := "holePieces", plainKeys := false, apart := false }
def HolePiecesSaid : Prop := holePiecesRow.holds Try.pinned (OpenSpec.ofChange holePiecesSpec)

/-- ITS FALSE NEIGHBOUR: 'it returns false'. Refute it at one input. -/
def holePiecesWrong : ChangeSpec := { name := "holePieces", fn := fun _ => fun
  | [d1, d2, d3] => { results := [.lit (.bool false)], args := [d1, d2, d3] }
  | _ => none }
def HolePiecesWrongFalsely : Prop := holePiecesRow.holds Try.pinned (OpenSpec.ofChange holePiecesWrong)

/-- 'weirlaw11.HolePlays': WHATEVER THE INPUT: true; the input reads as it did. -/
def holePlaysSpec : ChangeSpec := { name := "holePlays", fn := fun _ => fun
  | [d1, d2] => { results := [.lit (.bool true)], args := [d1, d2] }
  | _ => none }
def holePlaysRow : OpenClaim := { program := "ytkkdnnpnbmpifaa", sum := "f4331e3b611d892d06241d22d3da71e5bebf647b788ba2274814c61db1117167", func := "weir/weirlaw11.HolePlays", spec := "holePlays", plainKeys := false, apart := false }
def HolePlaysSaid : Prop := holePlaysRow.holds Try.pinned (OpenSpec.ofChange holePlaysSpec)

/-- ITS FALSE NEIGHBOUR: 'it returns false'. Refute it at one input. -/
def holePlaysWrong : ChangeSpec := { name := "holePlays", fn := fun _ => fun
  | [d1, d2] => { results := [.lit (.bool false)], args := [d1, d2] }
  | _ => none }
def HolePlaysWrongFalsely : Prop := holePlaysRow.holds Try.pinned (OpenSpec.ofChange holePlaysWrong)

/-- 'weirlaw11.HoleFirst': WHATEVER THE INPUT: true; the input reads as it did. -/
def holeFirstSpec : ChangeSpec := { name := "holeFirst", fn := fun _ => fun
  | [d1, d2] => { results := [.lit (.bool true)], args := [d1, d2] }
  | _ => none }
def holeFirstRow : OpenClaim := { program := "ytkkdnnpnbmpifaa", sum := "f4331e3b611d892d06241d22d3da71e5bebf647b788ba2274814c61db1117167", func := "weir/weirlaw11.HoleFirst", spec := "holeFirst", plainKeys := false, apart := false }
def HoleFirstSaid : Prop := holeFirstRow.holds Try.pinned (OpenSpec.ofChange holeFirstSpec)

/-- ITS FALSE NEIGHBOUR: 'it returns false'. Refute it at one input. -/
def holeFirstWrong : ChangeSpec := { name := "holeFirst", fn := fun _ => fun
  | [d1, d2] => { results := [.lit (.bool false)], args := [d1, d2] }
  | _ => none }
def HoleFirstWrongFalsely : Prop := holeFirstRow.holds Try.pinned (OpenSpec.ofChange holeFirstWrong)

/-- 'weirlaw11.HoleAgain': WHATEVER THE INPUT: true; the input reads as it did. -/
def holeAgainSpec : ChangeSpec := { name := "holeAgain", fn := fun _ => fun
  | [d1, d2] => { results := [.lit (.bool true)], args := [d1, d2] }
  | _ => none }
def holeAgainRow : OpenClaim := { program := "ytkkdnnpnbmpifaa", sum := "f4331e3b611d892d06241d22d3da71e5bebf647b788ba2274814c61db1117167", func := "weir/weirlaw11.HoleAgain", spec := "holeAgain", plainKeys := false, apart := false }
def HoleAgainSaid : Prop := holeAgainRow.holds Try.pinned (OpenSpec.ofChange holeAgainSpec)

/-- ITS FALSE NEIGHBOUR: 'it returns false'. Refute it at one input. -/
def holeAgainWrong : ChangeSpec := { name := "holeAgain", fn := fun _ => fun
  | [d1, d2] => { results := [.lit (.bool false)], args := [d1, d2] }
  | _ => none }
def HoleAgainWrongFalsely : Prop := holeAgainRow.holds Try.pinned (OpenSpec.ofChange holeAgainWrong)

/-- 'weirlaw11.HoleLent': WHATEVER THE INPUT: true; the input reads as it did. -/
def holeLentSpec : ChangeSpec := { name := "holeLent", fn := fun _ => fun
  | [d1, d2] => { results := [.lit (.bool true)], args := [d1, d2] }
  | _ => none }
def holeLentRow : OpenClaim := { program := "ytkkdnnpnbmpifaa", sum := "f4331e3b611d892d06241d22d3da71e5bebf647b788ba2274814c61db1117167", func := "weir/weirlaw11.HoleLent", spec := "holeLent", plainKeys := false, apart := false }
def HoleLentSaid : Prop := holeLentRow.holds Try.pinned (OpenSpec.ofChange holeLentSpec)

/-- ITS FALSE NEIGHBOUR: 'it returns false'. Refute it at one input. -/
def holeLentWrong : ChangeSpec := { name := "holeLent", fn := fun _ => fun
  | [d1, d2] => { results := [.lit (.bool false)], args := [d1, d2] }
  | _ => none }
def HoleLentWrongFalsely : Prop := holeLentRow.holds Try.pinned (OpenSpec.ofChange holeLentWrong)

/-- 'weirlaw11.HoleMany': WHATEVER THE INPUT: true; the input reads as it did. -/
def holeManySpec : ChangeSpec := { name := "holeMany", fn := fun _ => fun
  | [d1, d2] => { results := [.lit (.bool true)], args := [d1, d2] }
  | _ => none }
def holeManyRow : OpenClaim := { program := "ytkkdnnpnbmpifaa", sum := "f4331e3b611d892d06241d22d3da71e5bebf647b788ba2274814c61db1117167", func := "weir/weirlaw11.HoleMany", spec := "holeMany", plainKeys := false, apart := false }
def HoleManySaid : Prop := holeManyRow.holds Try.pinned (OpenSpec.ofChange holeManySpec)

/-- ITS FALSE NEIGHBOUR: 'it returns false'. Refute it at one input. -/
def holeManyWrong : ChangeSpec := { name := "holeMany", fn := fun _ => fun
  | [d1, d2] => { results := [.lit (.bool false)], args := [d1, d2] }
  | _ => none }
def HoleManyWrongFalsely : Prop := holeManyRow.holds Try.pinned (OpenSpec.ofChange holeManyWrong)

/- THE SECOND FORM. 'bulk': how many values and letters a reading holds, each counted each time it is reached (what is shared counts as often as it is met; a slice's spare places count too). A statement '..UptoSaid' is the law's where the arguments, and the package variables that the reading takes, are together of bulk at most 1048576: NARROWER than '..Said'. Prove '..Said' where nothing that the law and all that it calls make is longer than what came in: it says more and counts as full. Else prove '..UptoSaid'. A law counts once. -/
mutual
def uptoBulk {H : Type} : DataW H → Nat
  | .lit (.string bytes) => bytes.length + 1
  | .lit _ => 1
  | .nil => 1
  | .ptr d => uptoBulk d + 1
  | .slice elems spare => uptoBulkAll elems + uptoBulkAll spare + 1
  | .agg parts => uptoBulkAll parts + 1
  | .iface _ d => uptoBulk d + 1
  | .map entries => uptoBulkEntries entries + 1
  | .held _ => 1
def uptoBulkAll {H : Type} : List (DataW H) → Nat
  | [] => 0
  | d :: r => uptoBulk d + uptoBulkAll r
def uptoBulkEntries {H : Type} : List (Lit × DataW H) → Nat
  | [] => 0
  | x :: r => uptoBulkEntry x + uptoBulkEntries r
def uptoBulkEntry {H : Type} : Lit × DataW H → Nat
  | (.string bytes, d) => bytes.length + uptoBulk d + 1
  | (_, d) => uptoBulk d + 1
 end
def uptoSmall : (H : Type) → List (DataW H) → Bool := fun _ ds => decide (uptoBulkAll ds ≤ 1048576)
def OpenSpec.upto (s : _root_.Go.ChangeSpec) : _root_.Go.OpenSpec := { _root_.Go.OpenSpec.ofChange s with cond := some uptoSmall }

/-- 'weirlaw11.HoleParts', WHERE WHAT IT READS IS OF BULK AT MOST 1048576: true; the input reads as it did. -/
def holePartsUptoRow : OpenClaim := { program := "ytkkdnnpnbmpifaa", sum := "f4331e3b611d892d06241d22d3da71e5bebf647b788ba2274814c61db1117167", func := "weir/weirlaw11.HoleParts", spec := "holeParts", plainKeys := false, apart := false, narrowed := true }
def HolePartsUptoSaid : Prop := holePartsUptoRow.holds Try.pinned (OpenSpec.upto holePartsSpec)

/-- 'weirlaw11.HolePieces', WHERE WHAT IT READS IS OF BULK AT MOST 1048576: true; the input reads as it did. -/
def holePiecesUptoRow : OpenClaim := { program := "ytkkdnnpnbmpifaa", sum := "f4331e3b611d892d06241d22d3da71e5bebf647b788ba2274814c61db1117167", func := "weir/weirlaw11.HolePieces", spec := "holePieces", plainKeys := false, apart := false, narrowed := true }
def HolePiecesUptoSaid : Prop := holePiecesUptoRow.holds Try.pinned (OpenSpec.upto holePiecesSpec)

/-- 'weirlaw11.HolePlays', WHERE WHAT IT READS IS OF BULK AT MOST 1048576: true; the input reads as it did. -/
def holePlaysUptoRow : OpenClaim := { program := "ytkkdnnpnbmpifaa", sum := "f4331e3b611d892d06241d22d3da71e5bebf647b788ba2274814c61db1117167", func := "weir/weirlaw11.HolePlays", spec := "holePlays", plainKeys := false, apart := false, narrowed := true }
def HolePlaysUptoSaid : Prop := holePlaysUptoRow.holds Try.pinned (OpenSpec.upto holePlaysSpec)

/-- 'weirlaw11.HoleFirst', WHERE WHAT IT READS IS OF BULK AT MOST 1048576: true; the input reads as it did. -/
def holeFirstUptoRow : OpenClaim := { program := "ytkkdnnpnbmpifaa", sum := "f4331e3b611d892d06241d22d3da71e5bebf647b788ba2274814c61db1117167", func := "weir/weirlaw11.HoleFirst", spec := "holeFirst", plainKeys := false, apart := false, narrowed := true }
def HoleFirstUptoSaid : Prop := holeFirstUptoRow.holds Try.pinned (OpenSpec.upto holeFirstSpec)

/-- 'weirlaw11.HoleAgain', WHERE WHAT IT READS IS OF BULK AT MOST 1048576: true; the input reads as it did. -/
def holeAgainUptoRow : OpenClaim := { program := "ytkkdnnpnbmpifaa", sum := "f4331e3b611d892d06241d22d3da71e5bebf647b788ba2274814c61db1117167", func := "weir/weirlaw11.HoleAgain", spec := "holeAgain", plainKeys := false, apart := false, narrowed := true }
def HoleAgainUptoSaid : Prop := holeAgainUptoRow.holds Try.pinned (OpenSpec.upto holeAgainSpec)

/-- 'weirlaw11.HoleLent', WHERE WHAT IT READS IS OF BULK AT MOST 1048576: true; the input reads as it did. -/
def holeLentUptoRow : OpenClaim := { program := "ytkkdnnpnbmpifaa", sum := "f4331e3b611d892d06241d22d3da71e5bebf647b788ba2274814c61db1117167", func := "weir/weirlaw11.HoleLent", spec := "holeLent", plainKeys := false, apart := false, narrowed := true }
def HoleLentUptoSaid : Prop := holeLentUptoRow.holds Try.pinned (OpenSpec.upto holeLentSpec)

/-- 'weirlaw11.HoleMany', WHERE WHAT IT READS IS OF BULK AT MOST 1048576: true; the input reads as it did. -/
def holeManyUptoRow : OpenClaim := { program := "ytkkdnnpnbmpifaa", sum := "f4331e3b611d892d06241d22d3da71e5bebf647b788ba2274814c61db1117167", func := "weir/weirlaw11.HoleMany", spec := "holeMany", plainKeys := false, apart := false, narrowed := true }
def HoleManyUptoSaid : Prop := holeManyUptoRow.holds Try.pinned (OpenSpec.upto holeManySpec)

end Rows
end Go.Proofs.Ytkkdnnpnbmpifaa
