/-
  NARROWER THAN 'FOR EVERY INPUT', by the rows' own cells (each row's printed sentence says how): L4Udp: laid · L4Tcp: laid · L4Options: laid · L4Plays: laid · L4UdpBack: laid · L4TcpBack: laid · L4OneForm: laid · L4OneBit: laid · L4Ends: laid · L4Window: laid · L4Clamped: laid · L4Own: laid · L4Again: laid · L4Lent: laid.
  DERIVED. THE GIVEN ROWS OF THIS SEAT. 14 by the template 'for every input the law returns true; each argument reads behind the call as it read before'; 0 by the template 'total and deterministic' (their statements: YtmchllbemgnieaaDoorTotals.lean).
  GIVEN WITH THE SEED: the statements are not yours to turn. If you find one false, say at which input.
  Laid BY PROGRAM, IN A SANDBOX (cutbox-rows.mjs): the forced cells as the released guide's own fill.sh prints them over the translation f00c94e9f856f853… (all of the seat's roots in one cut). By AI agents, Wed Nov 11 2026. No macro, syntax, notation, axiom, sorry.
-/
import Derived.Test.YtmchllbemgnieaaDoorChecked
import GoSem.Claim
import GoSem.ClaimJoined
import GoSem.ClaimMapViews
import Derived.JoinedTies
import Derived.KernelRfl
namespace Go.Proofs.YtmchllbemgnieaaDoor
/- THE CELL 'sum', in the pinned program and in every row, IS THE sha256 OF THE DUMP (.gsa) THAT YtmchllbemgnieaaDoorProg.lean LOADS. Nothing in Lean hashes anything: it is a label: what it is worth is what the hold of that sum in a sandbox is worth. -/
noncomputable def Tryd.pinned : Pinned := { name := "ytmchllbemgnieaadoor", sum := "f00c94e9f856f85373085df05d83377c0558980900bfd929a9c150165622da50", checked := Tryd.checked }
namespace Rows
def none {H : Type} : Left H := { results := [], args := [] }

/- WHAT THE LISTED PACKAGE-LEVEL VARIABLES READ AS WHEN THE CALL BEGINS. Each datum BY PROGRAM (the guide's laid-datum.mjs) off the statement by which the dump's own 'gosem.cut.vars' lays the variable. In a bare row this is a premise. The card (YtmchllbemgnieaaDoorCards.lean) ties it to the program's text. -/
def laid_weir_l4_udpWidths {H : Type} : DataW H := .agg [.lit (.int .i64 16), .lit (.int .i64 16), .lit (.int .i64 16), .lit (.int .i64 16)]
def laid_weir_l4_tcpWidths {H : Type} : DataW H := .agg [.lit (.int .i64 16), .lit (.int .i64 16), .lit (.int .i64 32), .lit (.int .i64 32), .lit (.int .i64 4), .lit (.int .i64 4), .lit (.int .i64 8), .lit (.int .i64 16), .lit (.int .i64 16), .lit (.int .i64 16)]
def laid_weir_l4_lengths {H : Type} : DataW H := .agg [.lit (.int .u64 0), .lit (.int .u64 0), .lit (.int .u64 16), .lit (.int .u64 8), .lit (.int .u64 4), .lit (.int .u64 17247241216), .lit (.int .u64 0), .lit (.int .u64 0), .lit (.int .u64 1024)]

/-- 'weirlaw9.L4Udp': WHATEVER THE INPUT: true; the input reads as it did. -/
def l4UdpSpec : ChangeSpec := { name := "l4Udp", fn := fun _ => fun
  | [d] => { results := [.lit (.bool true)], args := [d] }
  | _ => none }
def l4UdpRow : OpenClaim := { program := "ytmchllbemgnieaadoor", sum := "f00c94e9f856f85373085df05d83377c0558980900bfd929a9c150165622da50", func := "weir/weirlaw9.L4Udp", spec := "l4Udp", unfollowed := true, recurses := true, named := ["weir/l4.udpWidths", "weir/l4.tcpWidths", "weir/l4.lengths"], apart := false, laid := [("weir/l4.udpWidths", laid_weir_l4_udpWidths), ("weir/l4.tcpWidths", laid_weir_l4_tcpWidths), ("weir/l4.lengths", laid_weir_l4_lengths)] }
def L4UdpSaid : Prop := l4UdpRow.holds Tryd.pinned (OpenSpec.ofChange l4UdpSpec)

/-- ITS FALSE NEIGHBOUR: 'it returns false'. Refute it at one input. -/
def l4UdpWrong : ChangeSpec := { name := "l4Udp", fn := fun _ => fun
  | [d] => { results := [.lit (.bool false)], args := [d] }
  | _ => none }
def L4UdpWrongFalsely : Prop := l4UdpRow.holds Tryd.pinned (OpenSpec.ofChange l4UdpWrong)

/-- 'weirlaw9.L4Tcp': WHATEVER THE INPUT: true; the input reads as it did. -/
def l4TcpSpec : ChangeSpec := { name := "l4Tcp", fn := fun _ => fun
  | [d] => { results := [.lit (.bool true)], args := [d] }
  | _ => none }
def l4TcpRow : OpenClaim := { program := "ytmchllbemgnieaadoor", sum := "f00c94e9f856f85373085df05d83377c0558980900bfd929a9c150165622da50", func := "weir/weirlaw9.L4Tcp", spec := "l4Tcp", unfollowed := true, recurses := true, named := ["weir/l4.udpWidths", "weir/l4.tcpWidths", "weir/l4.lengths"], apart := false, laid := [("weir/l4.udpWidths", laid_weir_l4_udpWidths), ("weir/l4.tcpWidths", laid_weir_l4_tcpWidths), ("weir/l4.lengths", laid_weir_l4_lengths)] }
def L4TcpSaid : Prop := l4TcpRow.holds Tryd.pinned (OpenSpec.ofChange l4TcpSpec)

/-- ITS FALSE NEIGHBOUR: 'it returns false'. Refute it at one input. -/
def l4TcpWrong : ChangeSpec := { name := "l4Tcp", fn := fun _ => fun
  | [d] => { results := [.lit (.bool false)], args := [d] }
  | _ => none }
def L4TcpWrongFalsely : Prop := l4TcpRow.holds Tryd.pinned (OpenSpec.ofChange l4TcpWrong)

/-- 'weirlaw9.L4Options': WHATEVER THE INPUT: true; the input reads as it did. -/
def l4OptionsSpec : ChangeSpec := { name := "l4Options", fn := fun _ => fun
  | [d] => { results := [.lit (.bool true)], args := [d] }
  | _ => none }
def l4OptionsRow : OpenClaim := { program := "ytmchllbemgnieaadoor", sum := "f00c94e9f856f85373085df05d83377c0558980900bfd929a9c150165622da50", func := "weir/weirlaw9.L4Options", spec := "l4Options", unfollowed := true, recurses := true, named := ["weir/l4.udpWidths", "weir/l4.tcpWidths", "weir/l4.lengths"], apart := false, laid := [("weir/l4.udpWidths", laid_weir_l4_udpWidths), ("weir/l4.tcpWidths", laid_weir_l4_tcpWidths), ("weir/l4.lengths", laid_weir_l4_lengths)] }
def L4OptionsSaid : Prop := l4OptionsRow.holds Tryd.pinned (OpenSpec.ofChange l4OptionsSpec)

/-- ITS FALSE NEIGHBOUR: 'it returns false'. Refute it at one input. -/
def l4OptionsWrong : ChangeSpec := { name := "l4Options", fn := fun _ => fun
  | [d] => { results := [.lit (.bool false)], args := [d] }
  | _ => none }
def L4OptionsWrongFalsely : Prop := l4OptionsRow.holds Tryd.pinned (OpenSpec.ofChange l4OptionsWrong)

/-- 'weirlaw9.L4Plays': WHATEVER THE INPUT: true; the input reads as it did. -/
def l4PlaysSpec : ChangeSpec := { name := "l4Plays", fn := fun _ => fun
  | [d] => { results := [.lit (.bool true)], args := [d] }
  | _ => none }
def l4PlaysRow : OpenClaim := { program := "ytmchllbemgnieaadoor", sum := "f00c94e9f856f85373085df05d83377c0558980900bfd929a9c150165622da50", func := "weir/weirlaw9.L4Plays", spec := "l4Plays", unfollowed := true, recurses := true, named := ["weir/l4.udpWidths", "weir/l4.tcpWidths", "weir/l4.lengths"], apart := false, laid := [("weir/l4.udpWidths", laid_weir_l4_udpWidths), ("weir/l4.tcpWidths", laid_weir_l4_tcpWidths), ("weir/l4.lengths", laid_weir_l4_lengths)] }
def L4PlaysSaid : Prop := l4PlaysRow.holds Tryd.pinned (OpenSpec.ofChange l4PlaysSpec)

/-- ITS FALSE NEIGHBOUR: 'it returns false'. Refute it at one input. -/
def l4PlaysWrong : ChangeSpec := { name := "l4Plays", fn := fun _ => fun
  | [d] => { results := [.lit (.bool false)], args := [d] }
  | _ => none }
def L4PlaysWrongFalsely : Prop := l4PlaysRow.holds Tryd.pinned (OpenSpec.ofChange l4PlaysWrong)

/-- 'weirlaw9.L4UdpBack': WHATEVER THE INPUT: true; the input reads as it did. -/
def l4UdpBackSpec : ChangeSpec := { name := "l4UdpBack", fn := fun _ => fun
  | [d1, d2, d3] => { results := [.lit (.bool true)], args := [d1, d2, d3] }
  | _ => none }
def l4UdpBackRow : OpenClaim := { program := "ytmchllbemgnieaadoor", sum := "f00c94e9f856f85373085df05d83377c0558980900bfd929a9c150165622da50", func := "weir/weirlaw9.L4UdpBack", spec := "l4UdpBack", unfollowed := true, recurses := true, named := ["weir/l4.udpWidths", "weir/l4.tcpWidths", "weir/l4.lengths"], apart := false, laid := [("weir/l4.udpWidths", laid_weir_l4_udpWidths), ("weir/l4.tcpWidths", laid_weir_l4_tcpWidths), ("weir/l4.lengths", laid_weir_l4_lengths)] }
def L4UdpBackSaid : Prop := l4UdpBackRow.holds Tryd.pinned (OpenSpec.ofChange l4UdpBackSpec)

/-- ITS FALSE NEIGHBOUR: 'it returns false'. Refute it at one input. -/
def l4UdpBackWrong : ChangeSpec := { name := "l4UdpBack", fn := fun _ => fun
  | [d1, d2, d3] => { results := [.lit (.bool false)], args := [d1, d2, d3] }
  | _ => none }
def L4UdpBackWrongFalsely : Prop := l4UdpBackRow.holds Tryd.pinned (OpenSpec.ofChange l4UdpBackWrong)

/-- 'weirlaw9.L4TcpBack': WHATEVER THE INPUT: true; the input reads as it did. -/
def l4TcpBackSpec : ChangeSpec := { name := "l4TcpBack", fn := fun _ => fun
  | [d1, d2, d3] => { results := [.lit (.bool true)], args := [d1, d2, d3] }
  | _ => none }
def l4TcpBackRow : OpenClaim := { program := "ytmchllbemgnieaadoor", sum := "f00c94e9f856f85373085df05d83377c0558980900bfd929a9c150165622da50", func := "weir/weirlaw9.L4TcpBack", spec := "l4TcpBack", unfollowed := true, recurses := true, named := ["weir/l4.udpWidths", "weir/l4.tcpWidths", "weir/l4.lengths"], apart := false, laid := [("weir/l4.udpWidths", laid_weir_l4_udpWidths), ("weir/l4.tcpWidths", laid_weir_l4_tcpWidths), ("weir/l4.lengths", laid_weir_l4_lengths)] }
def L4TcpBackSaid : Prop := l4TcpBackRow.holds Tryd.pinned (OpenSpec.ofChange l4TcpBackSpec)

/-- ITS FALSE NEIGHBOUR: 'it returns false'. Refute it at one input. -/
def l4TcpBackWrong : ChangeSpec := { name := "l4TcpBack", fn := fun _ => fun
  | [d1, d2, d3] => { results := [.lit (.bool false)], args := [d1, d2, d3] }
  | _ => none }
def L4TcpBackWrongFalsely : Prop := l4TcpBackRow.holds Tryd.pinned (OpenSpec.ofChange l4TcpBackWrong)

/-- 'weirlaw9.L4OneForm': WHATEVER THE INPUT: true; the input reads as it did. -/
def l4OneFormSpec : ChangeSpec := { name := "l4OneForm", fn := fun _ => fun
  | [d1, d2, d3] => { results := [.lit (.bool true)], args := [d1, d2, d3] }
  | _ => none }
def l4OneFormRow : OpenClaim := { program := "ytmchllbemgnieaadoor", sum := "f00c94e9f856f85373085df05d83377c0558980900bfd929a9c150165622da50", func := "weir/weirlaw9.L4OneForm", spec := "l4OneForm", unfollowed := true, recurses := true, named := ["weir/l4.udpWidths", "weir/l4.tcpWidths", "weir/l4.lengths"], apart := false, laid := [("weir/l4.udpWidths", laid_weir_l4_udpWidths), ("weir/l4.tcpWidths", laid_weir_l4_tcpWidths), ("weir/l4.lengths", laid_weir_l4_lengths)] }
def L4OneFormSaid : Prop := l4OneFormRow.holds Tryd.pinned (OpenSpec.ofChange l4OneFormSpec)

/-- ITS FALSE NEIGHBOUR: 'it returns false'. Refute it at one input. -/
def l4OneFormWrong : ChangeSpec := { name := "l4OneForm", fn := fun _ => fun
  | [d1, d2, d3] => { results := [.lit (.bool false)], args := [d1, d2, d3] }
  | _ => none }
def L4OneFormWrongFalsely : Prop := l4OneFormRow.holds Tryd.pinned (OpenSpec.ofChange l4OneFormWrong)

/-- 'weirlaw9.L4OneBit': WHATEVER THE INPUT: true; the input reads as it did. -/
def l4OneBitSpec : ChangeSpec := { name := "l4OneBit", fn := fun _ => fun
  | [d1, d2, d3, d4, d5] => { results := [.lit (.bool true)], args := [d1, d2, d3, d4, d5] }
  | _ => none }
def l4OneBitRow : OpenClaim := { program := "ytmchllbemgnieaadoor", sum := "f00c94e9f856f85373085df05d83377c0558980900bfd929a9c150165622da50", func := "weir/weirlaw9.L4OneBit", spec := "l4OneBit", unfollowed := true, recurses := true, named := ["weir/l4.udpWidths", "weir/l4.tcpWidths", "weir/l4.lengths"], apart := false, laid := [("weir/l4.udpWidths", laid_weir_l4_udpWidths), ("weir/l4.tcpWidths", laid_weir_l4_tcpWidths), ("weir/l4.lengths", laid_weir_l4_lengths)] }
def L4OneBitSaid : Prop := l4OneBitRow.holds Tryd.pinned (OpenSpec.ofChange l4OneBitSpec)

/-- ITS FALSE NEIGHBOUR: 'it returns false'. Refute it at one input. -/
def l4OneBitWrong : ChangeSpec := { name := "l4OneBit", fn := fun _ => fun
  | [d1, d2, d3, d4, d5] => { results := [.lit (.bool false)], args := [d1, d2, d3, d4, d5] }
  | _ => none }
def L4OneBitWrongFalsely : Prop := l4OneBitRow.holds Tryd.pinned (OpenSpec.ofChange l4OneBitWrong)

/-- 'weirlaw9.L4Ends': WHATEVER THE INPUT: true; the input reads as it did. -/
def l4EndsSpec : ChangeSpec := { name := "l4Ends", fn := fun _ => fun
  | [d1, d2, d3, d4, d5] => { results := [.lit (.bool true)], args := [d1, d2, d3, d4, d5] }
  | _ => none }
def l4EndsRow : OpenClaim := { program := "ytmchllbemgnieaadoor", sum := "f00c94e9f856f85373085df05d83377c0558980900bfd929a9c150165622da50", func := "weir/weirlaw9.L4Ends", spec := "l4Ends", unfollowed := true, recurses := true, named := ["weir/l4.udpWidths", "weir/l4.tcpWidths", "weir/l4.lengths"], apart := false, laid := [("weir/l4.udpWidths", laid_weir_l4_udpWidths), ("weir/l4.tcpWidths", laid_weir_l4_tcpWidths), ("weir/l4.lengths", laid_weir_l4_lengths)] }
def L4EndsSaid : Prop := l4EndsRow.holds Tryd.pinned (OpenSpec.ofChange l4EndsSpec)

/-- ITS FALSE NEIGHBOUR: 'it returns false'. Refute it at one input. -/
def l4EndsWrong : ChangeSpec := { name := "l4Ends", fn := fun _ => fun
  | [d1, d2, d3, d4, d5] => { results := [.lit (.bool false)], args := [d1, d2, d3, d4, d5] }
  | _ => none }
def L4EndsWrongFalsely : Prop := l4EndsRow.holds Tryd.pinned (OpenSpec.ofChange l4EndsWrong)

/-- 'weirlaw9.L4Window': WHATEVER THE INPUT: true; the input reads as it did. -/
def l4WindowSpec : ChangeSpec := { name := "l4Window", fn := fun _ => fun
  | [d1, d2, d3, d4] => { results := [.lit (.bool true)], args := [d1, d2, d3, d4] }
  | _ => none }
def l4WindowRow : OpenClaim := { program := "ytmchllbemgnieaadoor", sum := "f00c94e9f856f85373085df05d83377c0558980900bfd929a9c150165622da50", func := "weir/weirlaw9.L4Window", spec := "l4Window", unfollowed := true, recurses := true, named := ["weir/l4.udpWidths", "weir/l4.tcpWidths", "weir/l4.lengths"], apart := false, laid := [("weir/l4.udpWidths", laid_weir_l4_udpWidths), ("weir/l4.tcpWidths", laid_weir_l4_tcpWidths), ("weir/l4.lengths", laid_weir_l4_lengths)] }
def L4WindowSaid : Prop := l4WindowRow.holds Tryd.pinned (OpenSpec.ofChange l4WindowSpec)

/-- ITS FALSE NEIGHBOUR: 'it returns false'. Refute it at one input. -/
def l4WindowWrong : ChangeSpec := { name := "l4Window", fn := fun _ => fun
  | [d1, d2, d3, d4] => { results := [.lit (.bool false)], args := [d1, d2, d3, d4] }
  | _ => none }
def L4WindowWrongFalsely : Prop := l4WindowRow.holds Tryd.pinned (OpenSpec.ofChange l4WindowWrong)

/-- 'weirlaw9.L4Clamped': WHATEVER THE INPUT: true; the input reads as it did. -/
def l4ClampedSpec : ChangeSpec := { name := "l4Clamped", fn := fun _ => fun
  | [d1, d2] => { results := [.lit (.bool true)], args := [d1, d2] }
  | _ => none }
def l4ClampedRow : OpenClaim := { program := "ytmchllbemgnieaadoor", sum := "f00c94e9f856f85373085df05d83377c0558980900bfd929a9c150165622da50", func := "weir/weirlaw9.L4Clamped", spec := "l4Clamped", unfollowed := true, recurses := true, named := ["weir/l4.udpWidths", "weir/l4.tcpWidths", "weir/l4.lengths"], apart := false, laid := [("weir/l4.udpWidths", laid_weir_l4_udpWidths), ("weir/l4.tcpWidths", laid_weir_l4_tcpWidths), ("weir/l4.lengths", laid_weir_l4_lengths)] }
def L4ClampedSaid : Prop := l4ClampedRow.holds Tryd.pinned (OpenSpec.ofChange l4ClampedSpec)

/-- ITS FALSE NEIGHBOUR: 'it returns false'. Refute it at one input. -/
def l4ClampedWrong : ChangeSpec := { name := "l4Clamped", fn := fun _ => fun
  | [d1, d2] => { results := [.lit (.bool false)], args := [d1, d2] }
  | _ => none }
def L4ClampedWrongFalsely : Prop := l4ClampedRow.holds Tryd.pinned (OpenSpec.ofChange l4ClampedWrong)

/-- 'weirlaw9.L4Own': WHATEVER THE INPUT: true; the input reads as it did. -/
def l4OwnSpec : ChangeSpec := { name := "l4Own", fn := fun _ => fun
  | [d1, d2, d3, d4, d5] => { results := [.lit (.bool true)], args := [d1, d2, d3, d4, d5] }
  | _ => none }
def l4OwnRow : OpenClaim := { program := "ytmchllbemgnieaadoor", sum := "f00c94e9f856f85373085df05d83377c0558980900bfd929a9c150165622da50", func := "weir/weirlaw9.L4Own", spec := "l4Own", unfollowed := true, recurses := true, named := ["weir/l4.udpWidths", "weir/l4.tcpWidths", "weir/l4.lengths"], apart := false, laid := [("weir/l4.udpWidths", laid_weir_l4_udpWidths), ("weir/l4.tcpWidths", laid_weir_l4_tcpWidths), ("weir/l4.lengths", laid_weir_l4_lengths)] }
def L4OwnSaid : Prop := l4OwnRow.holds Tryd.pinned (OpenSpec.ofChange l4OwnSpec)

/-- ITS FALSE NEIGHBOUR: 'it returns false'. Refute it at one input. -/
def l4OwnWrong : ChangeSpec := { name := "l4Own", fn := fun _ => fun
  | [d1, d2, d3, d4, d5] => { results := [.lit (.bool false)], args := [d1, d2, d3, d4, d5] }
  | _ => none }
def L4OwnWrongFalsely : Prop := l4OwnRow.holds Tryd.pinned (OpenSpec.ofChange l4OwnWrong)

/-- 'weirlaw9.L4Again': WHATEVER THE INPUT: true; the input reads as it did. -/
def l4AgainSpec : ChangeSpec := { name := "l4Again", fn := fun _ => fun
  | [d1, d2, d3, d4] => { results := [.lit (.bool true)], args := [d1, d2, d3, d4] }
  | _ => none }
def l4AgainRow : OpenClaim := { program := "ytmchllbemgnieaadoor", sum := "f00c94e9f856f85373085df05d83377c0558980900bfd929a9c150165622da50", func := "weir/weirlaw9.L4Again", spec := "l4Again", unfollowed := true, recurses := true, named := ["weir/l4.udpWidths", "weir/l4.tcpWidths", "weir/l4.lengths"], apart := false, laid := [("weir/l4.udpWidths", laid_weir_l4_udpWidths), ("weir/l4.tcpWidths", laid_weir_l4_tcpWidths), ("weir/l4.lengths", laid_weir_l4_lengths)] }
def L4AgainSaid : Prop := l4AgainRow.holds Tryd.pinned (OpenSpec.ofChange l4AgainSpec)

/-- ITS FALSE NEIGHBOUR: 'it returns false'. Refute it at one input. -/
def l4AgainWrong : ChangeSpec := { name := "l4Again", fn := fun _ => fun
  | [d1, d2, d3, d4] => { results := [.lit (.bool false)], args := [d1, d2, d3, d4] }
  | _ => none }
def L4AgainWrongFalsely : Prop := l4AgainRow.holds Tryd.pinned (OpenSpec.ofChange l4AgainWrong)

/-- 'weirlaw9.L4Lent': WHATEVER THE INPUT: true; the input reads as it did. -/
def l4LentSpec : ChangeSpec := { name := "l4Lent", fn := fun _ => fun
  | [d1, d2, d3, d4, d5, d6] => { results := [.lit (.bool true)], args := [d1, d2, d3, d4, d5, d6] }
  | _ => none }
def l4LentRow : OpenClaim := { program := "ytmchllbemgnieaadoor", sum := "f00c94e9f856f85373085df05d83377c0558980900bfd929a9c150165622da50", func := "weir/weirlaw9.L4Lent", spec := "l4Lent", unfollowed := true, recurses := true, named := ["weir/l4.udpWidths", "weir/l4.tcpWidths", "weir/l4.lengths"], apart := false, laid := [("weir/l4.udpWidths", laid_weir_l4_udpWidths), ("weir/l4.tcpWidths", laid_weir_l4_tcpWidths), ("weir/l4.lengths", laid_weir_l4_lengths)] }
def L4LentSaid : Prop := l4LentRow.holds Tryd.pinned (OpenSpec.ofChange l4LentSpec)

/-- ITS FALSE NEIGHBOUR: 'it returns false'. Refute it at one input. -/
def l4LentWrong : ChangeSpec := { name := "l4Lent", fn := fun _ => fun
  | [d1, d2, d3, d4, d5, d6] => { results := [.lit (.bool false)], args := [d1, d2, d3, d4, d5, d6] }
  | _ => none }
def L4LentWrongFalsely : Prop := l4LentRow.holds Tryd.pinned (OpenSpec.ofChange l4LentWrong)

/- THE SECOND FORM. 'bulk': how many values and letters a reading holds, each counted each time it is reached (what is shared counts as often as it is met; a slice's spare places count too). A statement '..UptoSaid' is the law's where the arguments, and the package variables that the reading takes, are together of bulk at most 1048576: NARROWER than '..Said'. Prove '..Said' where nothing that the law and all that it calls make is longer than what came in: it says more and counts as full. Else prove '..UptoSaid'. A law counts once. -/
mutual
def uptoBulk {H : Type} : DataW H → Nat
  | .lit (.string bytes) => bytes.length + 1
  | .lit _ => 1
  | .nil => 1
  | .ptr d => uptoBulk d + 1
  | .slice elems spare => uptoBulkAll elems + uptoBulkAll spare + 1
  | .agg parts => uptoBulkAll parts + 1
  | .iface _ d => uptoBulk d + 1
  | .map entries => uptoBulkEntries entries + 1
  | .held _ => 1
def uptoBulkAll {H : Type} : List (DataW H) → Nat
  | [] => 0
  | d :: r => uptoBulk d + uptoBulkAll r
def uptoBulkEntries {H : Type} : List (Lit × DataW H) → Nat
  | [] => 0
  | x :: r => uptoBulkEntry x + uptoBulkEntries r
def uptoBulkEntry {H : Type} : Lit × DataW H → Nat
  | (.string bytes, d) => bytes.length + uptoBulk d + 1
  | (_, d) => uptoBulk d + 1
 end
def uptoSmall : (H : Type) → List (DataW H) → Bool := fun _ ds => decide (uptoBulkAll ds ≤ 1048576)
def OpenSpec.upto (s : _root_.Go.ChangeSpec) : _root_.Go.OpenSpec := { _root_.Go.OpenSpec.ofChange s with cond := some uptoSmall }

/-- 'weirlaw9.L4Udp', WHERE WHAT IT READS IS OF BULK AT MOST 1048576: true; the input reads as it did. -/
def l4UdpUptoRow : OpenClaim := { program := "ytmchllbemgnieaadoor", sum := "f00c94e9f856f85373085df05d83377c0558980900bfd929a9c150165622da50", func := "weir/weirlaw9.L4Udp", spec := "l4Udp", unfollowed := true, recurses := true, named := ["weir/l4.udpWidths", "weir/l4.tcpWidths", "weir/l4.lengths"], apart := false, laid := [("weir/l4.udpWidths", laid_weir_l4_udpWidths), ("weir/l4.tcpWidths", laid_weir_l4_tcpWidths), ("weir/l4.lengths", laid_weir_l4_lengths)], narrowed := true }
def L4UdpUptoSaid : Prop := l4UdpUptoRow.holds Tryd.pinned (OpenSpec.upto l4UdpSpec)

/-- 'weirlaw9.L4Tcp', WHERE WHAT IT READS IS OF BULK AT MOST 1048576: true; the input reads as it did. -/
def l4TcpUptoRow : OpenClaim := { program := "ytmchllbemgnieaadoor", sum := "f00c94e9f856f85373085df05d83377c0558980900bfd929a9c150165622da50", func := "weir/weirlaw9.L4Tcp", spec := "l4Tcp", unfollowed := true, recurses := true, named := ["weir/l4.udpWidths", "weir/l4.tcpWidths", "weir/l4.lengths"], apart := false, laid := [("weir/l4.udpWidths", laid_weir_l4_udpWidths), ("weir/l4.tcpWidths", laid_weir_l4_tcpWidths), ("weir/l4.lengths", laid_weir_l4_lengths)], narrowed := true }
def L4TcpUptoSaid : Prop := l4TcpUptoRow.holds Tryd.pinned (OpenSpec.upto l4TcpSpec)

/-- 'weirlaw9.L4Options', WHERE WHAT IT READS IS OF BULK AT MOST 1048576: true; the input reads as it did. -/
def l4OptionsUptoRow : OpenClaim := { program := "ytmchllbemgnieaadoor", sum := "f00c94e9f856f85373085df05d83377c0558980900bfd929a9c150165622da50", func := "weir/weirlaw9.L4Options", spec := "l4Options", unfollowed := true, recurses := true, named := ["weir/l4.udpWidths", "weir/l4.tcpWidths", "weir/l4.lengths"], apart := false, laid := [("weir/l4.udpWidths", laid_weir_l4_udpWidths), ("weir/l4.tcpWidths", laid_weir_l4_tcpWidths), ("weir/l4.lengths", laid_weir_l4_lengths)], narrowed := true }
def L4OptionsUptoSaid : Prop := l4OptionsUptoRow.holds Tryd.pinned (OpenSpec.upto l4OptionsSpec)

/-- 'weirlaw9.L4Plays', WHERE WHAT IT READS IS OF BULK AT MOST 1048576: true; the input reads as it did. -/
def l4PlaysUptoRow : OpenClaim := { program := "ytmchllbemgnieaadoor", sum := "f00c94e9f856f85373085df05d83377c0558980900bfd929a9c150165622da50", func := "weir/weirlaw9.L4Plays", spec := "l4Plays", unfollowed := true, recurses := true, named := ["weir/l4.udpWidths", "weir/l4.tcpWidths", "weir/l4.lengths"], apart := false, laid := [("weir/l4.udpWidths", laid_weir_l4_udpWidths), ("weir/l4.tcpWidths", laid_weir_l4_tcpWidths), ("weir/l4.lengths", laid_weir_l4_lengths)], narrowed := true }
def L4PlaysUptoSaid : Prop := l4PlaysUptoRow.holds Tryd.pinned (OpenSpec.upto l4PlaysSpec)

/-- 'weirlaw9.L4UdpBack', WHERE WHAT IT READS IS OF BULK AT MOST 1048576: true; the input reads as it did. -/
def l4UdpBackUptoRow : OpenClaim := { program := "ytmchllbemgnieaadoor", sum := "f00c94e9f856f85373085df05d83377c0558980900bfd929a9c150165622da50", func := "weir/weirlaw9.L4UdpBack", spec := "l4UdpBack", unfollowed := true, recurses := true, named := ["weir/l4.udpWidths", "weir/l4.tcpWidths", "weir/l4.lengths"], apart := false, laid := [("weir/l4.udpWidths", laid_weir_l4_udpWidths), ("weir/l4.tcpWidths", laid_weir_l4_tcpWidths), ("weir/l4.lengths", laid_weir_l4_lengths)], narrowed := true }
def L4UdpBackUptoSaid : Prop := l4UdpBackUptoRow.holds Tryd.pinned (OpenSpec.upto l4UdpBackSpec)

/-- 'weirlaw9.L4TcpBack', WHERE WHAT IT READS IS OF BULK AT MOST 1048576: true; the input reads as it did. -/
def l4TcpBackUptoRow : OpenClaim := { program := "ytmchllbemgnieaadoor", sum := "f00c94e9f856f85373085df05d83377c0558980900bfd929a9c150165622da50", func := "weir/weirlaw9.L4TcpBack", spec := "l4TcpBack", unfollowed := true, recurses := true, named := ["weir/l4.udpWidths", "weir/l4.tcpWidths", "weir/l4.lengths"], apart := false, laid := [("weir/l4.udpWidths", laid_weir_l4_udpWidths), ("weir/l4.tcpWidths", laid_weir_l4_tcpWidths), ("weir/l4.lengths", laid_weir_l4_lengths)], narrowed := true }
def L4TcpBackUptoSaid : Prop := l4TcpBackUptoRow.holds Tryd.pinned (OpenSpec.upto l4TcpBackSpec)

/-- 'weirlaw9.L4OneForm', WHERE WHAT IT READS IS OF BULK AT MOST 1048576: true; the input reads as it did. -/
def l4OneFormUptoRow : OpenClaim := { program := "ytmchllbemgnieaadoor", sum := "f00c94e9f856f85373085df05d83377c0558980900bfd929a9c150165622da50", func := "weir/weirlaw9.L4OneForm", spec := "l4OneForm", unfollowed := true, recurses := true, named := ["weir/l4.udpWidths", "weir/l4.tcpWidths", "weir/l4.lengths"], apart := false, laid := [("weir/l4.udpWidths", laid_weir_l4_udpWidths), ("weir/l4.tcpWidths", laid_weir_l4_tcpWidths), ("weir/l4.lengths", laid_weir_l4_lengths)], narrowed := true }
def L4OneFormUptoSaid : Prop := l4OneFormUptoRow.holds Tryd.pinned (OpenSpec.upto l4OneFormSpec)

/-- 'weirlaw9.L4OneBit', WHERE WHAT IT READS IS OF BULK AT MOST 1048576: true; the input reads as it did. -/
def l4OneBitUptoRow : OpenClaim := { program := "ytmchllbemgnieaadoor", sum := "f00c94e9f856f85373085df05d83377c0558980900bfd929a9c150165622da50", func := "weir/weirlaw9.L4OneBit", spec := "l4OneBit", unfollowed := true, recurses := true, named := ["weir/l4.udpWidths", "weir/l4.tcpWidths", "weir/l4.lengths"], apart := false, laid := [("weir/l4.udpWidths", laid_weir_l4_udpWidths), ("weir/l4.tcpWidths", laid_weir_l4_tcpWidths), ("weir/l4.lengths", laid_weir_l4_lengths)], narrowed := true }
def L4OneBitUptoSaid : Prop := l4OneBitUptoRow.holds Tryd.pinned (OpenSpec.upto l4OneBitSpec)

/-- 'weirlaw9.L4Ends', WHERE WHAT IT READS IS OF BULK AT MOST 1048576: true; the input reads as it did. -/
def l4EndsUptoRow : OpenClaim := { program := "ytmchllbemgnieaadoor", sum := "f00c94e9f856f85373085df05d83377c0558980900bfd929a9c150165622da50", func := "weir/weirlaw9.L4Ends", spec := "l4Ends", unfollowed := true, recurses := true, named := ["weir/l4.udpWidths", "weir/l4.tcpWidths", "weir/l4.lengths"], apart := false, laid := [("weir/l4.udpWidths", laid_weir_l4_udpWidths), ("weir/l4.tcpWidths", laid_weir_l4_tcpWidths), ("weir/l4.lengths", laid_weir_l4_lengths)], narrowed := true }
def L4EndsUptoSaid : Prop := l4EndsUptoRow.holds Tryd.pinned (OpenSpec.upto l4EndsSpec)

/-- 'weirlaw9.L4Window', WHERE WHAT IT READS IS OF BULK AT MOST 1048576: true; the input reads as it did. -/
def l4WindowUptoRow : OpenClaim := { program := "ytmchllbemgnieaadoor", sum := "f00c94e9f856f85373085df05d83377c0558980900bfd929a9c150165622da50", func := "weir/weirlaw9.L4Window", spec := "l4Window", unfollowed := true, recurses := true, named := ["weir/l4.udpWidths", "weir/l4.tcpWidths", "weir/l4.lengths"], apart := false, laid := [("weir/l4.udpWidths", laid_weir_l4_udpWidths), ("weir/l4.tcpWidths", laid_weir_l4_tcpWidths), ("weir/l4.lengths", laid_weir_l4_lengths)], narrowed := true }
def L4WindowUptoSaid : Prop := l4WindowUptoRow.holds Tryd.pinned (OpenSpec.upto l4WindowSpec)

/-- 'weirlaw9.L4Clamped', WHERE WHAT IT READS IS OF BULK AT MOST 1048576: true; the input reads as it did. -/
def l4ClampedUptoRow : OpenClaim := { program := "ytmchllbemgnieaadoor", sum := "f00c94e9f856f85373085df05d83377c0558980900bfd929a9c150165622da50", func := "weir/weirlaw9.L4Clamped", spec := "l4Clamped", unfollowed := true, recurses := true, named := ["weir/l4.udpWidths", "weir/l4.tcpWidths", "weir/l4.lengths"], apart := false, laid := [("weir/l4.udpWidths", laid_weir_l4_udpWidths), ("weir/l4.tcpWidths", laid_weir_l4_tcpWidths), ("weir/l4.lengths", laid_weir_l4_lengths)], narrowed := true }
def L4ClampedUptoSaid : Prop := l4ClampedUptoRow.holds Tryd.pinned (OpenSpec.upto l4ClampedSpec)

/-- 'weirlaw9.L4Own', WHERE WHAT IT READS IS OF BULK AT MOST 1048576: true; the input reads as it did. -/
def l4OwnUptoRow : OpenClaim := { program := "ytmchllbemgnieaadoor", sum := "f00c94e9f856f85373085df05d83377c0558980900bfd929a9c150165622da50", func := "weir/weirlaw9.L4Own", spec := "l4Own", unfollowed := true, recurses := true, named := ["weir/l4.udpWidths", "weir/l4.tcpWidths", "weir/l4.lengths"], apart := false, laid := [("weir/l4.udpWidths", laid_weir_l4_udpWidths), ("weir/l4.tcpWidths", laid_weir_l4_tcpWidths), ("weir/l4.lengths", laid_weir_l4_lengths)], narrowed := true }
def L4OwnUptoSaid : Prop := l4OwnUptoRow.holds Tryd.pinned (OpenSpec.upto l4OwnSpec)

/-- 'weirlaw9.L4Again', WHERE WHAT IT READS IS OF BULK AT MOST 1048576: true; the input reads as it did. -/
def l4AgainUptoRow : OpenClaim := { program := "ytmchllbemgnieaadoor", sum := "f00c94e9f856f85373085df05d83377c0558980900bfd929a9c150165622da50", func := "weir/weirlaw9.L4Again", spec := "l4Again", unfollowed := true, recurses := true, named := ["weir/l4.udpWidths", "weir/l4.tcpWidths", "weir/l4.lengths"], apart := false, laid := [("weir/l4.udpWidths", laid_weir_l4_udpWidths), ("weir/l4.tcpWidths", laid_weir_l4_tcpWidths), ("weir/l4.lengths", laid_weir_l4_lengths)], narrowed := true }
def L4AgainUptoSaid : Prop := l4AgainUptoRow.holds Tryd.pinned (OpenSpec.upto l4AgainSpec)

/-- 'weirlaw9.L4Lent', WHERE WHAT IT READS IS OF BULK AT MOST 1048576: true; the input reads as it did. -/
def l4LentUptoRow : OpenClaim := { program := "ytmchllbemgnieaadoor", sum := "f00c94e9f856f85373085df05d83377c0558980900bfd929a9c150165622da50", func := "weir/weirlaw9.L4Lent", spec := "l4Lent", unfollowed := true, recurses := true, named := ["weir/l4.udpWidths", "weir/l4.tcpWidths", "weir/l4.lengths"], apart := false, laid := [("weir/l4.udpWidths", laid_weir_l4_udpWidths), ("weir/l4.tcpWidths", laid_weir_l4_tcpWidths), ("weir/l4.lengths", laid_weir_l4_lengths)], narrowed := true }
def L4LentUptoSaid : Prop := l4LentUptoRow.holds Tryd.pinned (OpenSpec.upto l4LentSpec)

end Rows
end Go.Proofs.YtmchllbemgnieaaDoor
