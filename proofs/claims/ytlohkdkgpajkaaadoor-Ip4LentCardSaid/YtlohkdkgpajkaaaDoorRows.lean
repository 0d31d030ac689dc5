/-
  NARROWER THAN 'FOR EVERY INPUT', by the rows' own cells (each row's printed sentence says how): Ip4Window: laid · Ip4OneBit: laid · Ip4Own: laid · Ip4Lent: laid · Ip4Back: laid · Ip4OneForm: laid · Ip4Reads: laid · Ip4Writes: laid · Ip4Canons: laid · Ip4Options: laid · Ip4Hops: laid · Ip4Plays: laid · Ip4HopOnce: laid · Ip4HopsOut: laid · Ip4Again: laid.
  DERIVED. THE GIVEN ROWS OF THIS SEAT. 15 by the template 'for every input the law returns true; each argument reads behind the call as it read before'; 0 by the template 'total and deterministic' (their statements: YtlohkdkgpajkaaaDoorTotals.lean).
  GIVEN WITH THE SEED: the statements are not yours to turn. If you find one false, say at which input.
  Laid BY PROGRAM, IN A SANDBOX (cutbox-rows.mjs): the forced cells as the released guide's own fill.sh prints them over the translation 6cb6a546d572c3c0… (all of the seat's roots in one cut). By AI agents, Wed Nov 11 2026. No macro, syntax, notation, axiom, sorry.
-/
import Derived.Test.YtlohkdkgpajkaaaDoorChecked
import GoSem.Claim
import GoSem.ClaimJoined
import GoSem.ClaimMapViews
import Derived.JoinedTies
import Derived.KernelRfl
namespace Go.Proofs.YtlohkdkgpajkaaaDoor
/- THE CELL 'sum', in the pinned program and in every row, IS THE sha256 OF THE DUMP (.gsa) THAT YtlohkdkgpajkaaaDoorProg.lean LOADS. Nothing in Lean hashes anything: it is a label: what it is worth is what the hold of that sum in a sandbox is worth. -/
noncomputable def Tryd.pinned : Pinned := { name := "ytlohkdkgpajkaaadoor", sum := "6cb6a546d572c3c01ac4d4d1495f5ab2cd688dfb22dc95da28dd438d72607fbf", checked := Tryd.checked }
namespace Rows
def none {H : Type} : Left H := { results := [], args := [] }

/- WHAT THE LISTED PACKAGE-LEVEL VARIABLES READ AS WHEN THE CALL BEGINS. Each datum BY PROGRAM (the guide's laid-datum.mjs) off the statement by which the dump's own 'gosem.cut.vars' lays the variable. In a bare row this is a premise. The card (YtlohkdkgpajkaaaDoorCards.lean) ties it to the program's text. -/
def laid_weir_ip4_widths {H : Type} : DataW H := .agg [.lit (.int .i64 4), .lit (.int .i64 4), .lit (.int .i64 8), .lit (.int .i64 16), .lit (.int .i64 16), .lit (.int .i64 1), .lit (.int .i64 1), .lit (.int .i64 1), .lit (.int .i64 13), .lit (.int .i64 8), .lit (.int .i64 8), .lit (.int .i64 16)]

/-- 'weirlaw6.Ip4Window': WHATEVER THE INPUT: true; the input reads as it did. -/
def ip4WindowSpec : ChangeSpec := { name := "ip4Window", fn := fun _ => fun
  | [d1, d2] => { results := [.lit (.bool true)], args := [d1, d2] }
  | _ => none }
def ip4WindowRow : OpenClaim := { program := "ytlohkdkgpajkaaadoor", sum := "6cb6a546d572c3c01ac4d4d1495f5ab2cd688dfb22dc95da28dd438d72607fbf", func := "weir/weirlaw6.Ip4Window", spec := "ip4Window", unfollowed := true, recurses := true, named := ["weir/ip4.widths"], apart := false, laid := [("weir/ip4.widths", laid_weir_ip4_widths)] }
def Ip4WindowSaid : Prop := ip4WindowRow.holds Tryd.pinned (OpenSpec.ofChange ip4WindowSpec)

/-- ITS FALSE NEIGHBOUR: 'it returns false'. Refute it at one input. -/
def ip4WindowWrong : ChangeSpec := { name := "ip4Window", fn := fun _ => fun
  | [d1, d2] => { results := [.lit (.bool false)], args := [d1, d2] }
  | _ => none }
def Ip4WindowWrongFalsely : Prop := ip4WindowRow.holds Tryd.pinned (OpenSpec.ofChange ip4WindowWrong)

/-- 'weirlaw6.Ip4OneBit': WHATEVER THE INPUT: true; the input reads as it did. -/
def ip4OneBitSpec : ChangeSpec := { name := "ip4OneBit", fn := fun _ => fun
  | [d1, d2] => { results := [.lit (.bool true)], args := [d1, d2] }
  | _ => none }
def ip4OneBitRow : OpenClaim := { program := "ytlohkdkgpajkaaadoor", sum := "6cb6a546d572c3c01ac4d4d1495f5ab2cd688dfb22dc95da28dd438d72607fbf", func := "weir/weirlaw6.Ip4OneBit", spec := "ip4OneBit", unfollowed := true, recurses := true, named := ["weir/ip4.widths"], apart := false, laid := [("weir/ip4.widths", laid_weir_ip4_widths)] }
def Ip4OneBitSaid : Prop := ip4OneBitRow.holds Tryd.pinned (OpenSpec.ofChange ip4OneBitSpec)

/-- ITS FALSE NEIGHBOUR: 'it returns false'. Refute it at one input. -/
def ip4OneBitWrong : ChangeSpec := { name := "ip4OneBit", fn := fun _ => fun
  | [d1, d2] => { results := [.lit (.bool false)], args := [d1, d2] }
  | _ => none }
def Ip4OneBitWrongFalsely : Prop := ip4OneBitRow.holds Tryd.pinned (OpenSpec.ofChange ip4OneBitWrong)

/-- 'weirlaw6.Ip4Own': WHATEVER THE INPUT: true; the input reads as it did. -/
def ip4OwnSpec : ChangeSpec := { name := "ip4Own", fn := fun _ => fun
  | [d1, d2] => { results := [.lit (.bool true)], args := [d1, d2] }
  | _ => none }
def ip4OwnRow : OpenClaim := { program := "ytlohkdkgpajkaaadoor", sum := "6cb6a546d572c3c01ac4d4d1495f5ab2cd688dfb22dc95da28dd438d72607fbf", func := "weir/weirlaw6.Ip4Own", spec := "ip4Own", unfollowed := true, recurses := true, named := ["weir/ip4.widths"], apart := false, laid := [("weir/ip4.widths", laid_weir_ip4_widths)] }
def Ip4OwnSaid : Prop := ip4OwnRow.holds Tryd.pinned (OpenSpec.ofChange ip4OwnSpec)

/-- ITS FALSE NEIGHBOUR: 'it returns false'. Refute it at one input. -/
def ip4OwnWrong : ChangeSpec := { name := "ip4Own", fn := fun _ => fun
  | [d1, d2] => { results := [.lit (.bool false)], args := [d1, d2] }
  | _ => none }
def Ip4OwnWrongFalsely : Prop := ip4OwnRow.holds Tryd.pinned (OpenSpec.ofChange ip4OwnWrong)

/-- 'weirlaw6.Ip4Lent': WHATEVER THE INPUT: true; the input reads as it did. -/
def ip4LentSpec : ChangeSpec := { name := "ip4Lent", fn := fun _ => fun
  | [d1, d2, d3] => { results := [.lit (.bool true)], args := [d1, d2, d3] }
  | _ => none }
def ip4LentRow : OpenClaim := { program := "ytlohkdkgpajkaaadoor", sum := "6cb6a546d572c3c01ac4d4d1495f5ab2cd688dfb22dc95da28dd438d72607fbf", func := "weir/weirlaw6.Ip4Lent", spec := "ip4Lent", unfollowed := true, recurses := true, named := ["weir/ip4.widths"], apart := false, laid := [("weir/ip4.widths", laid_weir_ip4_widths)] }
def Ip4LentSaid : Prop := ip4LentRow.holds Tryd.pinned (OpenSpec.ofChange ip4LentSpec)

/-- ITS FALSE NEIGHBOUR: 'it returns false'. Refute it at one input. -/
def ip4LentWrong : ChangeSpec := { name := "ip4Lent", fn := fun _ => fun
  | [d1, d2, d3] => { results := [.lit (.bool false)], args := [d1, d2, d3] }
  | _ => none }
def Ip4LentWrongFalsely : Prop := ip4LentRow.holds Tryd.pinned (OpenSpec.ofChange ip4LentWrong)

/-- 'weirlaw6.Ip4Back': WHATEVER THE INPUT: true; the input reads as it did. -/
def ip4BackSpec : ChangeSpec := { name := "ip4Back", fn := fun _ => fun
  | [d] => { results := [.lit (.bool true)], args := [d] }
  | _ => none }
def ip4BackRow : OpenClaim := { program := "ytlohkdkgpajkaaadoor", sum := "6cb6a546d572c3c01ac4d4d1495f5ab2cd688dfb22dc95da28dd438d72607fbf", func := "weir/weirlaw6.Ip4Back", spec := "ip4Back", unfollowed := true, recurses := true, named := ["weir/ip4.widths"], apart := false, laid := [("weir/ip4.widths", laid_weir_ip4_widths)] }
def Ip4BackSaid : Prop := ip4BackRow.holds Tryd.pinned (OpenSpec.ofChange ip4BackSpec)

/-- ITS FALSE NEIGHBOUR: 'it returns false'. Refute it at one input. -/
def ip4BackWrong : ChangeSpec := { name := "ip4Back", fn := fun _ => fun
  | [d] => { results := [.lit (.bool false)], args := [d] }
  | _ => none }
def Ip4BackWrongFalsely : Prop := ip4BackRow.holds Tryd.pinned (OpenSpec.ofChange ip4BackWrong)

/-- 'weirlaw6.Ip4OneForm': WHATEVER THE INPUT: true; the input reads as it did. -/
def ip4OneFormSpec : ChangeSpec := { name := "ip4OneForm", fn := fun _ => fun
  | [d] => { results := [.lit (.bool true)], args := [d] }
  | _ => none }
def ip4OneFormRow : OpenClaim := { program := "ytlohkdkgpajkaaadoor", sum := "6cb6a546d572c3c01ac4d4d1495f5ab2cd688dfb22dc95da28dd438d72607fbf", func := "weir/weirlaw6.Ip4OneForm", spec := "ip4OneForm", unfollowed := true, recurses := true, named := ["weir/ip4.widths"], apart := false, laid := [("weir/ip4.widths", laid_weir_ip4_widths)] }
def Ip4OneFormSaid : Prop := ip4OneFormRow.holds Tryd.pinned (OpenSpec.ofChange ip4OneFormSpec)

/-- ITS FALSE NEIGHBOUR: 'it returns false'. Refute it at one input. -/
def ip4OneFormWrong : ChangeSpec := { name := "ip4OneForm", fn := fun _ => fun
  | [d] => { results := [.lit (.bool false)], args := [d] }
  | _ => none }
def Ip4OneFormWrongFalsely : Prop := ip4OneFormRow.holds Tryd.pinned (OpenSpec.ofChange ip4OneFormWrong)

/-- 'weirlaw6.Ip4Reads': WHATEVER THE INPUT: true; the input reads as it did. -/
def ip4ReadsSpec : ChangeSpec := { name := "ip4Reads", fn := fun _ => fun
  | [d] => { results := [.lit (.bool true)], args := [d] }
  | _ => none }
def ip4ReadsRow : OpenClaim := { program := "ytlohkdkgpajkaaadoor", sum := "6cb6a546d572c3c01ac4d4d1495f5ab2cd688dfb22dc95da28dd438d72607fbf", func := "weir/weirlaw6.Ip4Reads", spec := "ip4Reads", unfollowed := true, recurses := true, named := ["weir/ip4.widths"], apart := false, laid := [("weir/ip4.widths", laid_weir_ip4_widths)] }
def Ip4ReadsSaid : Prop := ip4ReadsRow.holds Tryd.pinned (OpenSpec.ofChange ip4ReadsSpec)

/-- ITS FALSE NEIGHBOUR: 'it returns false'. Refute it at one input. -/
def ip4ReadsWrong : ChangeSpec := { name := "ip4Reads", fn := fun _ => fun
  | [d] => { results := [.lit (.bool false)], args := [d] }
  | _ => none }
def Ip4ReadsWrongFalsely : Prop := ip4ReadsRow.holds Tryd.pinned (OpenSpec.ofChange ip4ReadsWrong)

/-- 'weirlaw6.Ip4Writes': WHATEVER THE INPUT: true; the input reads as it did. -/
def ip4WritesSpec : ChangeSpec := { name := "ip4Writes", fn := fun _ => fun
  | [d] => { results := [.lit (.bool true)], args := [d] }
  | _ => none }
def ip4WritesRow : OpenClaim := { program := "ytlohkdkgpajkaaadoor", sum := "6cb6a546d572c3c01ac4d4d1495f5ab2cd688dfb22dc95da28dd438d72607fbf", func := "weir/weirlaw6.Ip4Writes", spec := "ip4Writes", unfollowed := true, recurses := true, named := ["weir/ip4.widths"], apart := false, laid := [("weir/ip4.widths", laid_weir_ip4_widths)] }
def Ip4WritesSaid : Prop := ip4WritesRow.holds Tryd.pinned (OpenSpec.ofChange ip4WritesSpec)

/-- ITS FALSE NEIGHBOUR: 'it returns false'. Refute it at one input. -/
def ip4WritesWrong : ChangeSpec := { name := "ip4Writes", fn := fun _ => fun
  | [d] => { results := [.lit (.bool false)], args := [d] }
  | _ => none }
def Ip4WritesWrongFalsely : Prop := ip4WritesRow.holds Tryd.pinned (OpenSpec.ofChange ip4WritesWrong)

/-- 'weirlaw6.Ip4Canons': WHATEVER THE INPUT: true; the input reads as it did. -/
def ip4CanonsSpec : ChangeSpec := { name := "ip4Canons", fn := fun _ => fun
  | [d] => { results := [.lit (.bool true)], args := [d] }
  | _ => none }
def ip4CanonsRow : OpenClaim := { program := "ytlohkdkgpajkaaadoor", sum := "6cb6a546d572c3c01ac4d4d1495f5ab2cd688dfb22dc95da28dd438d72607fbf", func := "weir/weirlaw6.Ip4Canons", spec := "ip4Canons", unfollowed := true, recurses := true, named := ["weir/ip4.widths"], apart := false, laid := [("weir/ip4.widths", laid_weir_ip4_widths)] }
def Ip4CanonsSaid : Prop := ip4CanonsRow.holds Tryd.pinned (OpenSpec.ofChange ip4CanonsSpec)

/-- ITS FALSE NEIGHBOUR: 'it returns false'. Refute it at one input. -/
def ip4CanonsWrong : ChangeSpec := { name := "ip4Canons", fn := fun _ => fun
  | [d] => { results := [.lit (.bool false)], args := [d] }
  | _ => none }
def Ip4CanonsWrongFalsely : Prop := ip4CanonsRow.holds Tryd.pinned (OpenSpec.ofChange ip4CanonsWrong)

/-- 'weirlaw6.Ip4Options': WHATEVER THE INPUT: true; the input reads as it did. -/
def ip4OptionsSpec : ChangeSpec := { name := "ip4Options", fn := fun _ => fun
  | [d] => { results := [.lit (.bool true)], args := [d] }
  | _ => none }
def ip4OptionsRow : OpenClaim := { program := "ytlohkdkgpajkaaadoor", sum := "6cb6a546d572c3c01ac4d4d1495f5ab2cd688dfb22dc95da28dd438d72607fbf", func := "weir/weirlaw6.Ip4Options", spec := "ip4Options", unfollowed := true, recurses := true, named := ["weir/ip4.widths"], apart := false, laid := [("weir/ip4.widths", laid_weir_ip4_widths)] }
def Ip4OptionsSaid : Prop := ip4OptionsRow.holds Tryd.pinned (OpenSpec.ofChange ip4OptionsSpec)

/-- ITS FALSE NEIGHBOUR: 'it returns false'. Refute it at one input. -/
def ip4OptionsWrong : ChangeSpec := { name := "ip4Options", fn := fun _ => fun
  | [d] => { results := [.lit (.bool false)], args := [d] }
  | _ => none }
def Ip4OptionsWrongFalsely : Prop := ip4OptionsRow.holds Tryd.pinned (OpenSpec.ofChange ip4OptionsWrong)

/-- 'weirlaw6.Ip4Hops': WHATEVER THE INPUT: true; the input reads as it did. -/
def ip4HopsSpec : ChangeSpec := { name := "ip4Hops", fn := fun _ => fun
  | [d] => { results := [.lit (.bool true)], args := [d] }
  | _ => none }
def ip4HopsRow : OpenClaim := { program := "ytlohkdkgpajkaaadoor", sum := "6cb6a546d572c3c01ac4d4d1495f5ab2cd688dfb22dc95da28dd438d72607fbf", func := "weir/weirlaw6.Ip4Hops", spec := "ip4Hops", unfollowed := true, recurses := true, named := ["weir/ip4.widths"], apart := false, laid := [("weir/ip4.widths", laid_weir_ip4_widths)] }
def Ip4HopsSaid : Prop := ip4HopsRow.holds Tryd.pinned (OpenSpec.ofChange ip4HopsSpec)

/-- ITS FALSE NEIGHBOUR: 'it returns false'. Refute it at one input. -/
def ip4HopsWrong : ChangeSpec := { name := "ip4Hops", fn := fun _ => fun
  | [d] => { results := [.lit (.bool false)], args := [d] }
  | _ => none }
def Ip4HopsWrongFalsely : Prop := ip4HopsRow.holds Tryd.pinned (OpenSpec.ofChange ip4HopsWrong)

/-- 'weirlaw6.Ip4Plays': WHATEVER THE INPUT: true; the input reads as it did. -/
def ip4PlaysSpec : ChangeSpec := { name := "ip4Plays", fn := fun _ => fun
  | [d] => { results := [.lit (.bool true)], args := [d] }
  | _ => none }
def ip4PlaysRow : OpenClaim := { program := "ytlohkdkgpajkaaadoor", sum := "6cb6a546d572c3c01ac4d4d1495f5ab2cd688dfb22dc95da28dd438d72607fbf", func := "weir/weirlaw6.Ip4Plays", spec := "ip4Plays", unfollowed := true, recurses := true, named := ["weir/ip4.widths"], apart := false, laid := [("weir/ip4.widths", laid_weir_ip4_widths)] }
def Ip4PlaysSaid : Prop := ip4PlaysRow.holds Tryd.pinned (OpenSpec.ofChange ip4PlaysSpec)

/-- ITS FALSE NEIGHBOUR: 'it returns false'. Refute it at one input. -/
def ip4PlaysWrong : ChangeSpec := { name := "ip4Plays", fn := fun _ => fun
  | [d] => { results := [.lit (.bool false)], args := [d] }
  | _ => none }
def Ip4PlaysWrongFalsely : Prop := ip4PlaysRow.holds Tryd.pinned (OpenSpec.ofChange ip4PlaysWrong)

/-- 'weirlaw6.Ip4HopOnce': WHATEVER THE INPUT: true; the input reads as it did. -/
def ip4HopOnceSpec : ChangeSpec := { name := "ip4HopOnce", fn := fun _ => fun
  | [d] => { results := [.lit (.bool true)], args := [d] }
  | _ => none }
def ip4HopOnceRow : OpenClaim := { program := "ytlohkdkgpajkaaadoor", sum := "6cb6a546d572c3c01ac4d4d1495f5ab2cd688dfb22dc95da28dd438d72607fbf", func := "weir/weirlaw6.Ip4HopOnce", spec := "ip4HopOnce", unfollowed := true, recurses := true, named := ["weir/ip4.widths"], apart := false, laid := [("weir/ip4.widths", laid_weir_ip4_widths)] }
def Ip4HopOnceSaid : Prop := ip4HopOnceRow.holds Tryd.pinned (OpenSpec.ofChange ip4HopOnceSpec)

/-- ITS FALSE NEIGHBOUR: 'it returns false'. Refute it at one input. -/
def ip4HopOnceWrong : ChangeSpec := { name := "ip4HopOnce", fn := fun _ => fun
  | [d] => { results := [.lit (.bool false)], args := [d] }
  | _ => none }
def Ip4HopOnceWrongFalsely : Prop := ip4HopOnceRow.holds Tryd.pinned (OpenSpec.ofChange ip4HopOnceWrong)

/-- 'weirlaw6.Ip4HopsOut': WHATEVER THE INPUT: true; the input reads as it did. -/
def ip4HopsOutSpec : ChangeSpec := { name := "ip4HopsOut", fn := fun _ => fun
  | [d] => { results := [.lit (.bool true)], args := [d] }
  | _ => none }
def ip4HopsOutRow : OpenClaim := { program := "ytlohkdkgpajkaaadoor", sum := "6cb6a546d572c3c01ac4d4d1495f5ab2cd688dfb22dc95da28dd438d72607fbf", func := "weir/weirlaw6.Ip4HopsOut", spec := "ip4HopsOut", unfollowed := true, recurses := true, named := ["weir/ip4.widths"], apart := false, laid := [("weir/ip4.widths", laid_weir_ip4_widths)] }
def Ip4HopsOutSaid : Prop := ip4HopsOutRow.holds Tryd.pinned (OpenSpec.ofChange ip4HopsOutSpec)

/-- ITS FALSE NEIGHBOUR: 'it returns false'. Refute it at one input. -/
def ip4HopsOutWrong : ChangeSpec := { name := "ip4HopsOut", fn := fun _ => fun
  | [d] => { results := [.lit (.bool false)], args := [d] }
  | _ => none }
def Ip4HopsOutWrongFalsely : Prop := ip4HopsOutRow.holds Tryd.pinned (OpenSpec.ofChange ip4HopsOutWrong)

/-- 'weirlaw6.Ip4Again': WHATEVER THE INPUT: true; the input reads as it did. -/
def ip4AgainSpec : ChangeSpec := { name := "ip4Again", fn := fun _ => fun
  | [d1, d2] => { results := [.lit (.bool true)], args := [d1, d2] }
  | _ => none }
def ip4AgainRow : OpenClaim := { program := "ytlohkdkgpajkaaadoor", sum := "6cb6a546d572c3c01ac4d4d1495f5ab2cd688dfb22dc95da28dd438d72607fbf", func := "weir/weirlaw6.Ip4Again", spec := "ip4Again", unfollowed := true, recurses := true, named := ["weir/ip4.widths"], apart := false, laid := [("weir/ip4.widths", laid_weir_ip4_widths)] }
def Ip4AgainSaid : Prop := ip4AgainRow.holds Tryd.pinned (OpenSpec.ofChange ip4AgainSpec)

/-- ITS FALSE NEIGHBOUR: 'it returns false'. Refute it at one input. -/
def ip4AgainWrong : ChangeSpec := { name := "ip4Again", fn := fun _ => fun
  | [d1, d2] => { results := [.lit (.bool false)], args := [d1, d2] }
  | _ => none }
def Ip4AgainWrongFalsely : Prop := ip4AgainRow.holds Tryd.pinned (OpenSpec.ofChange ip4AgainWrong)

/- THE SECOND FORM. 'bulk': how many values and letters a reading holds, each counted each time it is reached (what is shared counts as often as it is met; a slice's spare places count too). A statement '..UptoSaid' is the law's where the arguments, and the package variables that the reading takes, are together of bulk at most 1048576: NARROWER than '..Said'. Prove '..Said' where nothing that the law and all that it calls make is longer than what came in: it says more and counts as full. Else prove '..UptoSaid'. A law counts once. -/
mutual
def uptoBulk {H : Type} : DataW H → Nat
  | .lit (.string bytes) => bytes.length + 1
  | .lit _ => 1
  | .nil => 1
  | .ptr d => uptoBulk d + 1
  | .slice elems spare => uptoBulkAll elems + uptoBulkAll spare + 1
  | .agg parts => uptoBulkAll parts + 1
  | .iface _ d => uptoBulk d + 1
  | .map entries => uptoBulkEntries entries + 1
  | .held _ => 1
def uptoBulkAll {H : Type} : List (DataW H) → Nat
  | [] => 0
  | d :: r => uptoBulk d + uptoBulkAll r
def uptoBulkEntries {H : Type} : List (Lit × DataW H) → Nat
  | [] => 0
  | x :: r => uptoBulkEntry x + uptoBulkEntries r
def uptoBulkEntry {H : Type} : Lit × DataW H → Nat
  | (.string bytes, d) => bytes.length + uptoBulk d + 1
  | (_, d) => uptoBulk d + 1
 end
def uptoSmall : (H : Type) → List (DataW H) → Bool := fun _ ds => decide (uptoBulkAll ds ≤ 1048576)
def OpenSpec.upto (s : _root_.Go.ChangeSpec) : _root_.Go.OpenSpec := { _root_.Go.OpenSpec.ofChange s with cond := some uptoSmall }

/-- 'weirlaw6.Ip4Window', WHERE WHAT IT READS IS OF BULK AT MOST 1048576: true; the input reads as it did. -/
def ip4WindowUptoRow : OpenClaim := { program := "ytlohkdkgpajkaaadoor", sum := "6cb6a546d572c3c01ac4d4d1495f5ab2cd688dfb22dc95da28dd438d72607fbf", func := "weir/weirlaw6.Ip4Window", spec := "ip4Window", unfollowed := true, recurses := true, named := ["weir/ip4.widths"], apart := false, laid := [("weir/ip4.widths", laid_weir_ip4_widths)], narrowed := true }
def Ip4WindowUptoSaid : Prop := ip4WindowUptoRow.holds Tryd.pinned (OpenSpec.upto ip4WindowSpec)

/-- 'weirlaw6.Ip4OneBit', WHERE WHAT IT READS IS OF BULK AT MOST 1048576: true; the input reads as it did. -/
def ip4OneBitUptoRow : OpenClaim := { program := "ytlohkdkgpajkaaadoor", sum := "6cb6a546d572c3c01ac4d4d1495f5ab2cd688dfb22dc95da28dd438d72607fbf", func := "weir/weirlaw6.Ip4OneBit", spec := "ip4OneBit", unfollowed := true, recurses := true, named := ["weir/ip4.widths"], apart := false, laid := [("weir/ip4.widths", laid_weir_ip4_widths)], narrowed := true }
def Ip4OneBitUptoSaid : Prop := ip4OneBitUptoRow.holds Tryd.pinned (OpenSpec.upto ip4OneBitSpec)

/-- 'weirlaw6.Ip4Own', WHERE WHAT IT READS IS OF BULK AT MOST 1048576: true; the input reads as it did. -/
def ip4OwnUptoRow : OpenClaim := { program := "ytlohkdkgpajkaaadoor", sum := "6cb6a546d572c3c01ac4d4d1495f5ab2cd688dfb22dc95da28dd438d72607fbf", func := "weir/weirlaw6.Ip4Own", spec := "ip4Own", unfollowed := true, recurses := true, named := ["weir/ip4.widths"], apart := false, laid := [("weir/ip4.widths", laid_weir_ip4_widths)], narrowed := true }
def Ip4OwnUptoSaid : Prop := ip4OwnUptoRow.holds Tryd.pinned (OpenSpec.upto ip4OwnSpec)

/-- 'weirlaw6.Ip4Lent', WHERE WHAT IT READS IS OF BULK AT MOST 1048576: true; the input reads as it did. -/
def ip4LentUptoRow : OpenClaim := { program := "ytlohkdkgpajkaaadoor", sum := "6cb6a546d572c3c01ac4d4d1495f5ab2cd688dfb22dc95da28dd438d72607fbf", func := "weir/weirlaw6.Ip4Lent", spec := "ip4Lent", unfollowed := true, recurses := true, named := ["weir/ip4.widths"], apart := false, laid := [("weir/ip4.widths", laid_weir_ip4_widths)], narrowed := true }
def Ip4LentUptoSaid : Prop := ip4LentUptoRow.holds Tryd.pinned (OpenSpec.upto ip4LentSpec)

/-- 'weirlaw6.Ip4Back', WHERE WHAT IT READS IS OF BULK AT MOST 1048576: true; the input reads as it did. -/
def ip4BackUptoRow : OpenClaim := { program := "ytlohkdkgpajkaaadoor", sum := "6cb6a546d572c3c01ac4d4d1495f5ab2cd688dfb22dc95da28dd438d72607fbf", func := "weir/weirlaw6.Ip4Back", spec := "ip4Back", unfollowed := true, recurses := true, named := ["weir/ip4.widths"], apart := false, laid := [("weir/ip4.widths", laid_weir_ip4_widths)], narrowed := true }
def Ip4BackUptoSaid : Prop := ip4BackUptoRow.holds Tryd.pinned (OpenSpec.upto ip4BackSpec)

/-- 'weirlaw6.Ip4OneForm', WHERE WHAT IT READS IS OF BULK AT MOST 1048576: true; the input reads as it did. -/
def ip4OneFormUptoRow : OpenClaim := { program := "ytlohkdkgpajkaaadoor", sum := "6cb6a546d572c3c01ac4d4d1495f5ab2cd688dfb22dc95da28dd438d72607fbf", func := "weir/weirlaw6.Ip4OneForm", spec := "ip4OneForm", unfollowed := true, recurses := true, named := ["weir/ip4.widths"], apart := false, laid := [("weir/ip4.widths", laid_weir_ip4_widths)], narrowed := true }
def Ip4OneFormUptoSaid : Prop := ip4OneFormUptoRow.holds Tryd.pinned (OpenSpec.upto ip4OneFormSpec)

/-- 'weirlaw6.Ip4Reads', WHERE WHAT IT READS IS OF BULK AT MOST 1048576: true; the input reads as it did. -/
def ip4ReadsUptoRow : OpenClaim := { program := "ytlohkdkgpajkaaadoor", sum := "6cb6a546d572c3c01ac4d4d1495f5ab2cd688dfb22dc95da28dd438d72607fbf", func := "weir/weirlaw6.Ip4Reads", spec := "ip4Reads", unfollowed := true, recurses := true, named := ["weir/ip4.widths"], apart := false, laid := [("weir/ip4.widths", laid_weir_ip4_widths)], narrowed := true }
def Ip4ReadsUptoSaid : Prop := ip4ReadsUptoRow.holds Tryd.pinned (OpenSpec.upto ip4ReadsSpec)

/-- 'weirlaw6.Ip4Writes', WHERE WHAT IT READS IS OF BULK AT MOST 1048576: true; the input reads as it did. -/
def ip4WritesUptoRow : OpenClaim := { program := "ytlohkdkgpajkaaadoor", sum := "6cb6a546d572c3c01ac4d4d1495f5ab2cd688dfb22dc95da28dd438d72607fbf", func := "weir/weirlaw6.Ip4Writes", spec := "ip4Writes", unfollowed := true, recurses := true, named := ["weir/ip4.widths"], apart := false, laid := [("weir/ip4.widths", laid_weir_ip4_widths)], narrowed := true }
def Ip4WritesUptoSaid : Prop := ip4WritesUptoRow.holds Tryd.pinned (OpenSpec.upto ip4WritesSpec)

/-- 'weirlaw6.Ip4Canons', WHERE WHAT IT READS IS OF BULK AT MOST 1048576: true; the input reads as it did. -/
def ip4CanonsUptoRow : OpenClaim := { program := "ytlohkdkgpajkaaadoor", sum := "6cb6a546d572c3c01ac4d4d1495f5ab2cd688dfb22dc95da28dd438d72607fbf", func := "weir/weirlaw6.Ip4Canons", spec := "ip4Canons", unfollowed := true, recurses := true, named := ["weir/ip4.widths"], apart := false, laid := [("weir/ip4.widths", laid_weir_ip4_widths)], narrowed := true }
def Ip4CanonsUptoSaid : Prop := ip4CanonsUptoRow.holds Tryd.pinned (OpenSpec.upto ip4CanonsSpec)

/-- 'weirlaw6.Ip4Options', WHERE WHAT IT READS IS OF BULK AT MOST 1048576: true; the input reads as it did. -/
def ip4OptionsUptoRow : OpenClaim := { program := "ytlohkdkgpajkaaadoor", sum := "6cb6a546d572c3c01ac4d4d1495f5ab2cd688dfb22dc95da28dd438d72607fbf", func := "weir/weirlaw6.Ip4Options", spec := "ip4Options", unfollowed := true, recurses := true, named := ["weir/ip4.widths"], apart := false, laid := [("weir/ip4.widths", laid_weir_ip4_widths)], narrowed := true }
def Ip4OptionsUptoSaid : Prop := ip4OptionsUptoRow.holds Tryd.pinned (OpenSpec.upto ip4OptionsSpec)

/-- 'weirlaw6.Ip4Hops', WHERE WHAT IT READS IS OF BULK AT MOST 1048576: true; the input reads as it did. -/
def ip4HopsUptoRow : OpenClaim := { program := "ytlohkdkgpajkaaadoor", sum := "6cb6a546d572c3c01ac4d4d1495f5ab2cd688dfb22dc95da28dd438d72607fbf", func := "weir/weirlaw6.Ip4Hops", spec := "ip4Hops", unfollowed := true, recurses := true, named := ["weir/ip4.widths"], apart := false, laid := [("weir/ip4.widths", laid_weir_ip4_widths)], narrowed := true }
def Ip4HopsUptoSaid : Prop := ip4HopsUptoRow.holds Tryd.pinned (OpenSpec.upto ip4HopsSpec)

/-- 'weirlaw6.Ip4Plays', WHERE WHAT IT READS IS OF BULK AT MOST 1048576: true; the input reads as it did. -/
def ip4PlaysUptoRow : OpenClaim := { program := "ytlohkdkgpajkaaadoor", sum := "6cb6a546d572c3c01ac4d4d1495f5ab2cd688dfb22dc95da28dd438d72607fbf", func := "weir/weirlaw6.Ip4Plays", spec := "ip4Plays", unfollowed := true, recurses := true, named := ["weir/ip4.widths"], apart := false, laid := [("weir/ip4.widths", laid_weir_ip4_widths)], narrowed := true }
def Ip4PlaysUptoSaid : Prop := ip4PlaysUptoRow.holds Tryd.pinned (OpenSpec.upto ip4PlaysSpec)

/-- 'weirlaw6.Ip4HopOnce', WHERE WHAT IT READS IS OF BULK AT MOST 1048576: true; the input reads as it did. -/
def ip4HopOnceUptoRow : OpenClaim := { program := "ytlohkdkgpajkaaadoor", sum := "6cb6a546d572c3c01ac4d4d1495f5ab2cd688dfb22dc95da28dd438d72607fbf", func := "weir/weirlaw6.Ip4HopOnce", spec := "ip4HopOnce", unfollowed := true, recurses := true, named := ["weir/ip4.widths"], apart := false, laid := [("weir/ip4.widths", laid_weir_ip4_widths)], narrowed := true }
def Ip4HopOnceUptoSaid : Prop := ip4HopOnceUptoRow.holds Tryd.pinned (OpenSpec.upto ip4HopOnceSpec)

/-- 'weirlaw6.Ip4HopsOut', WHERE WHAT IT READS IS OF BULK AT MOST 1048576: true; the input reads as it did. -/
def ip4HopsOutUptoRow : OpenClaim := { program := "ytlohkdkgpajkaaadoor", sum := "6cb6a546d572c3c01ac4d4d1495f5ab2cd688dfb22dc95da28dd438d72607fbf", func := "weir/weirlaw6.Ip4HopsOut", spec := "ip4HopsOut", unfollowed := true, recurses := true, named := ["weir/ip4.widths"], apart := false, laid := [("weir/ip4.widths", laid_weir_ip4_widths)], narrowed := true }
def Ip4HopsOutUptoSaid : Prop := ip4HopsOutUptoRow.holds Tryd.pinned (OpenSpec.upto ip4HopsOutSpec)

/-- 'weirlaw6.Ip4Again', WHERE WHAT IT READS IS OF BULK AT MOST 1048576: true; the input reads as it did. -/
def ip4AgainUptoRow : OpenClaim := { program := "ytlohkdkgpajkaaadoor", sum := "6cb6a546d572c3c01ac4d4d1495f5ab2cd688dfb22dc95da28dd438d72607fbf", func := "weir/weirlaw6.Ip4Again", spec := "ip4Again", unfollowed := true, recurses := true, named := ["weir/ip4.widths"], apart := false, laid := [("weir/ip4.widths", laid_weir_ip4_widths)], narrowed := true }
def Ip4AgainUptoSaid : Prop := ip4AgainUptoRow.holds Tryd.pinned (OpenSpec.upto ip4AgainSpec)

end Rows
end Go.Proofs.YtlohkdkgpajkaaaDoor
