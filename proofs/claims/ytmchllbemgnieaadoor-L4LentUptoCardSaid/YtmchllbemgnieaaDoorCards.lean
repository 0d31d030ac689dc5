/-
  DERIVED. GIVEN WITH THE SEED: THE CARDS: each row of YtmchllbemgnieaaDoorRows.lean that lists a variable, with what it lists TIED to the program's text (the seventh form; the later family's looks); each row that meets fmt, with fmt's text TOLD by the authors' own Lean function (tested against real Go, not proved from fmt's source: count such statements apart). THE CARD IS WHAT COUNTS. Prove the row's statement (the work); the ties are given (YtmchllbemgnieaaDoorTie.lean); close each card by the builder's one call (the guide's Derived/Test/ToyasCard.lean, 'card_holds'). Laid BY PROGRAM, IN A SANDBOX (cutbox-door.mjs). By AI agents, Wed Nov 11 2026. No macro, syntax, notation, axiom, sorry.
-/
import Derived.Test.YtmchllbemgnieaaDoorRows
import GoSem.ClaimSeven
namespace Go.Proofs.YtmchllbemgnieaaDoor
namespace Rows

/-- THE TIED CARD OF 'weirlaw9.L4Udp'. -/
def l4UdpCard : Claim7 := { stood := { row := l4UdpRow, standIns := [], harness := (true, "e725ba7094282f1b5278b0e6482d9d13d16396f7bfe844a15d50690bfd548719"), looks := false }, kinds := [], alts := [], laidByText := true, laidKinds := [.data, .data, .data], laidTests := true, laidLooks := .later }
def L4UdpCardSaid : Prop := Claim7.holds Tryd.pinned (.plain (OpenSpec.ofChange l4UdpSpec)) l4UdpCard

/-- THE TIED CARD OF 'weirlaw9.L4Tcp'. -/
def l4TcpCard : Claim7 := { stood := { row := l4TcpRow, standIns := [], harness := (true, "e725ba7094282f1b5278b0e6482d9d13d16396f7bfe844a15d50690bfd548719"), looks := false }, kinds := [], alts := [], laidByText := true, laidKinds := [.data, .data, .data], laidTests := true, laidLooks := .later }
def L4TcpCardSaid : Prop := Claim7.holds Tryd.pinned (.plain (OpenSpec.ofChange l4TcpSpec)) l4TcpCard

/-- THE TIED CARD OF 'weirlaw9.L4Options'. -/
def l4OptionsCard : Claim7 := { stood := { row := l4OptionsRow, standIns := [], harness := (true, "e725ba7094282f1b5278b0e6482d9d13d16396f7bfe844a15d50690bfd548719"), looks := false }, kinds := [], alts := [], laidByText := true, laidKinds := [.data, .data, .data], laidTests := true, laidLooks := .later }
def L4OptionsCardSaid : Prop := Claim7.holds Tryd.pinned (.plain (OpenSpec.ofChange l4OptionsSpec)) l4OptionsCard

/-- THE TIED CARD OF 'weirlaw9.L4Plays'. -/
def l4PlaysCard : Claim7 := { stood := { row := l4PlaysRow, standIns := [], harness := (true, "e725ba7094282f1b5278b0e6482d9d13d16396f7bfe844a15d50690bfd548719"), looks := false }, kinds := [], alts := [], laidByText := true, laidKinds := [.data, .data, .data], laidTests := true, laidLooks := .later }
def L4PlaysCardSaid : Prop := Claim7.holds Tryd.pinned (.plain (OpenSpec.ofChange l4PlaysSpec)) l4PlaysCard

/-- THE TIED CARD OF 'weirlaw9.L4UdpBack'. -/
def l4UdpBackCard : Claim7 := { stood := { row := l4UdpBackRow, standIns := [], harness := (true, "e725ba7094282f1b5278b0e6482d9d13d16396f7bfe844a15d50690bfd548719"), looks := false }, kinds := [], alts := [], laidByText := true, laidKinds := [.data, .data, .data], laidTests := true, laidLooks := .later }
def L4UdpBackCardSaid : Prop := Claim7.holds Tryd.pinned (.plain (OpenSpec.ofChange l4UdpBackSpec)) l4UdpBackCard

/-- THE TIED CARD OF 'weirlaw9.L4TcpBack'. -/
def l4TcpBackCard : Claim7 := { stood := { row := l4TcpBackRow, standIns := [], harness := (true, "e725ba7094282f1b5278b0e6482d9d13d16396f7bfe844a15d50690bfd548719"), looks := false }, kinds := [], alts := [], laidByText := true, laidKinds := [.data, .data, .data], laidTests := true, laidLooks := .later }
def L4TcpBackCardSaid : Prop := Claim7.holds Tryd.pinned (.plain (OpenSpec.ofChange l4TcpBackSpec)) l4TcpBackCard

/-- THE TIED CARD OF 'weirlaw9.L4OneForm'. -/
def l4OneFormCard : Claim7 := { stood := { row := l4OneFormRow, standIns := [], harness := (true, "e725ba7094282f1b5278b0e6482d9d13d16396f7bfe844a15d50690bfd548719"), looks := false }, kinds := [], alts := [], laidByText := true, laidKinds := [.data, .data, .data], laidTests := true, laidLooks := .later }
def L4OneFormCardSaid : Prop := Claim7.holds Tryd.pinned (.plain (OpenSpec.ofChange l4OneFormSpec)) l4OneFormCard

/-- THE TIED CARD OF 'weirlaw9.L4OneBit'. -/
def l4OneBitCard : Claim7 := { stood := { row := l4OneBitRow, standIns := [], harness := (true, "e725ba7094282f1b5278b0e6482d9d13d16396f7bfe844a15d50690bfd548719"), looks := false }, kinds := [], alts := [], laidByText := true, laidKinds := [.data, .data, .data], laidTests := true, laidLooks := .later }
def L4OneBitCardSaid : Prop := Claim7.holds Tryd.pinned (.plain (OpenSpec.ofChange l4OneBitSpec)) l4OneBitCard

/-- THE TIED CARD OF 'weirlaw9.L4Ends'. -/
def l4EndsCard : Claim7 := { stood := { row := l4EndsRow, standIns := [], harness := (true, "e725ba7094282f1b5278b0e6482d9d13d16396f7bfe844a15d50690bfd548719"), looks := false }, kinds := [], alts := [], laidByText := true, laidKinds := [.data, .data, .data], laidTests := true, laidLooks := .later }
def L4EndsCardSaid : Prop := Claim7.holds Tryd.pinned (.plain (OpenSpec.ofChange l4EndsSpec)) l4EndsCard

/-- THE TIED CARD OF 'weirlaw9.L4Window'. -/
def l4WindowCard : Claim7 := { stood := { row := l4WindowRow, standIns := [], harness := (true, "e725ba7094282f1b5278b0e6482d9d13d16396f7bfe844a15d50690bfd548719"), looks := false }, kinds := [], alts := [], laidByText := true, laidKinds := [.data, .data, .data], laidTests := true, laidLooks := .later }
def L4WindowCardSaid : Prop := Claim7.holds Tryd.pinned (.plain (OpenSpec.ofChange l4WindowSpec)) l4WindowCard

/-- THE TIED CARD OF 'weirlaw9.L4Clamped'. -/
def l4ClampedCard : Claim7 := { stood := { row := l4ClampedRow, standIns := [], harness := (true, "e725ba7094282f1b5278b0e6482d9d13d16396f7bfe844a15d50690bfd548719"), looks := false }, kinds := [], alts := [], laidByText := true, laidKinds := [.data, .data, .data], laidTests := true, laidLooks := .later }
def L4ClampedCardSaid : Prop := Claim7.holds Tryd.pinned (.plain (OpenSpec.ofChange l4ClampedSpec)) l4ClampedCard

/-- THE TIED CARD OF 'weirlaw9.L4Own'. -/
def l4OwnCard : Claim7 := { stood := { row := l4OwnRow, standIns := [], harness := (true, "e725ba7094282f1b5278b0e6482d9d13d16396f7bfe844a15d50690bfd548719"), looks := false }, kinds := [], alts := [], laidByText := true, laidKinds := [.data, .data, .data], laidTests := true, laidLooks := .later }
def L4OwnCardSaid : Prop := Claim7.holds Tryd.pinned (.plain (OpenSpec.ofChange l4OwnSpec)) l4OwnCard

/-- THE TIED CARD OF 'weirlaw9.L4Again'. -/
def l4AgainCard : Claim7 := { stood := { row := l4AgainRow, standIns := [], harness := (true, "e725ba7094282f1b5278b0e6482d9d13d16396f7bfe844a15d50690bfd548719"), looks := false }, kinds := [], alts := [], laidByText := true, laidKinds := [.data, .data, .data], laidTests := true, laidLooks := .later }
def L4AgainCardSaid : Prop := Claim7.holds Tryd.pinned (.plain (OpenSpec.ofChange l4AgainSpec)) l4AgainCard

/-- THE TIED CARD OF 'weirlaw9.L4Lent'. -/
def l4LentCard : Claim7 := { stood := { row := l4LentRow, standIns := [], harness := (true, "e725ba7094282f1b5278b0e6482d9d13d16396f7bfe844a15d50690bfd548719"), looks := false }, kinds := [], alts := [], laidByText := true, laidKinds := [.data, .data, .data], laidTests := true, laidLooks := .later }
def L4LentCardSaid : Prop := Claim7.holds Tryd.pinned (.plain (OpenSpec.ofChange l4LentSpec)) l4LentCard

/-- THE SECOND FORM's CARD OF 'weirlaw9.L4Udp'. -/
def l4UdpUptoCard : Claim7 := { stood := { row := l4UdpUptoRow, standIns := [], harness := (true, "e725ba7094282f1b5278b0e6482d9d13d16396f7bfe844a15d50690bfd548719"), looks := false }, kinds := [], alts := [], laidByText := true, laidKinds := [.data, .data, .data], laidTests := true, laidLooks := .later }
def L4UdpUptoCardSaid : Prop := Claim7.holds Tryd.pinned (.plain (OpenSpec.upto l4UdpSpec)) l4UdpUptoCard

/-- THE SECOND FORM's CARD OF 'weirlaw9.L4Tcp'. -/
def l4TcpUptoCard : Claim7 := { stood := { row := l4TcpUptoRow, standIns := [], harness := (true, "e725ba7094282f1b5278b0e6482d9d13d16396f7bfe844a15d50690bfd548719"), looks := false }, kinds := [], alts := [], laidByText := true, laidKinds := [.data, .data, .data], laidTests := true, laidLooks := .later }
def L4TcpUptoCardSaid : Prop := Claim7.holds Tryd.pinned (.plain (OpenSpec.upto l4TcpSpec)) l4TcpUptoCard

/-- THE SECOND FORM's CARD OF 'weirlaw9.L4Options'. -/
def l4OptionsUptoCard : Claim7 := { stood := { row := l4OptionsUptoRow, standIns := [], harness := (true, "e725ba7094282f1b5278b0e6482d9d13d16396f7bfe844a15d50690bfd548719"), looks := false }, kinds := [], alts := [], laidByText := true, laidKinds := [.data, .data, .data], laidTests := true, laidLooks := .later }
def L4OptionsUptoCardSaid : Prop := Claim7.holds Tryd.pinned (.plain (OpenSpec.upto l4OptionsSpec)) l4OptionsUptoCard

/-- THE SECOND FORM's CARD OF 'weirlaw9.L4Plays'. -/
def l4PlaysUptoCard : Claim7 := { stood := { row := l4PlaysUptoRow, standIns := [], harness := (true, "e725ba7094282f1b5278b0e6482d9d13d16396f7bfe844a15d50690bfd548719"), looks := false }, kinds := [], alts := [], laidByText := true, laidKinds := [.data, .data, .data], laidTests := true, laidLooks := .later }
def L4PlaysUptoCardSaid : Prop := Claim7.holds Tryd.pinned (.plain (OpenSpec.upto l4PlaysSpec)) l4PlaysUptoCard

/-- THE SECOND FORM's CARD OF 'weirlaw9.L4UdpBack'. -/
def l4UdpBackUptoCard : Claim7 := { stood := { row := l4UdpBackUptoRow, standIns := [], harness := (true, "e725ba7094282f1b5278b0e6482d9d13d16396f7bfe844a15d50690bfd548719"), looks := false }, kinds := [], alts := [], laidByText := true, laidKinds := [.data, .data, .data], laidTests := true, laidLooks := .later }
def L4UdpBackUptoCardSaid : Prop := Claim7.holds Tryd.pinned (.plain (OpenSpec.upto l4UdpBackSpec)) l4UdpBackUptoCard

/-- THE SECOND FORM's CARD OF 'weirlaw9.L4TcpBack'. -/
def l4TcpBackUptoCard : Claim7 := { stood := { row := l4TcpBackUptoRow, standIns := [], harness := (true, "e725ba7094282f1b5278b0e6482d9d13d16396f7bfe844a15d50690bfd548719"), looks := false }, kinds := [], alts := [], laidByText := true, laidKinds := [.data, .data, .data], laidTests := true, laidLooks := .later }
def L4TcpBackUptoCardSaid : Prop := Claim7.holds Tryd.pinned (.plain (OpenSpec.upto l4TcpBackSpec)) l4TcpBackUptoCard

/-- THE SECOND FORM's CARD OF 'weirlaw9.L4OneForm'. -/
def l4OneFormUptoCard : Claim7 := { stood := { row := l4OneFormUptoRow, standIns := [], harness := (true, "e725ba7094282f1b5278b0e6482d9d13d16396f7bfe844a15d50690bfd548719"), looks := false }, kinds := [], alts := [], laidByText := true, laidKinds := [.data, .data, .data], laidTests := true, laidLooks := .later }
def L4OneFormUptoCardSaid : Prop := Claim7.holds Tryd.pinned (.plain (OpenSpec.upto l4OneFormSpec)) l4OneFormUptoCard

/-- THE SECOND FORM's CARD OF 'weirlaw9.L4OneBit'. -/
def l4OneBitUptoCard : Claim7 := { stood := { row := l4OneBitUptoRow, standIns := [], harness := (true, "e725ba7094282f1b5278b0e6482d9d13d16396f7bfe844a15d50690bfd548719"), looks := false }, kinds := [], alts := [], laidByText := true, laidKinds := [.data, .data, .data], laidTests := true, laidLooks := .later }
def L4OneBitUptoCardSaid : Prop := Claim7.holds Tryd.pinned (.plain (OpenSpec.upto l4OneBitSpec)) l4OneBitUptoCard

/-- THE SECOND FORM's CARD OF 'weirlaw9.L4Ends'. -/
def l4EndsUptoCard : Claim7 := { stood := { row := l4EndsUptoRow, standIns := [], harness := (true, "e725ba7094282f1b5278b0e6482d9d13d16396f7bfe844a15d50690bfd548719"), looks := false }, kinds := [], alts := [], laidByText := true, laidKinds := [.data, .data, .data], laidTests := true, laidLooks := .later }
def L4EndsUptoCardSaid : Prop := Claim7.holds Tryd.pinned (.plain (OpenSpec.upto l4EndsSpec)) l4EndsUptoCard

/-- THE SECOND FORM's CARD OF 'weirlaw9.L4Window'. -/
def l4WindowUptoCard : Claim7 := { stood := { row := l4WindowUptoRow, standIns := [], harness := (true, "e725ba7094282f1b5278b0e6482d9d13d16396f7bfe844a15d50690bfd548719"), looks := false }, kinds := [], alts := [], laidByText := true, laidKinds := [.data, .data, .data], laidTests := true, laidLooks := .later }
def L4WindowUptoCardSaid : Prop := Claim7.holds Tryd.pinned (.plain (OpenSpec.upto l4WindowSpec)) l4WindowUptoCard

/-- THE SECOND FORM's CARD OF 'weirlaw9.L4Clamped'. -/
def l4ClampedUptoCard : Claim7 := { stood := { row := l4ClampedUptoRow, standIns := [], harness := (true, "e725ba7094282f1b5278b0e6482d9d13d16396f7bfe844a15d50690bfd548719"), looks := false }, kinds := [], alts := [], laidByText := true, laidKinds := [.data, .data, .data], laidTests := true, laidLooks := .later }
def L4ClampedUptoCardSaid : Prop := Claim7.holds Tryd.pinned (.plain (OpenSpec.upto l4ClampedSpec)) l4ClampedUptoCard

/-- THE SECOND FORM's CARD OF 'weirlaw9.L4Own'. -/
def l4OwnUptoCard : Claim7 := { stood := { row := l4OwnUptoRow, standIns := [], harness := (true, "e725ba7094282f1b5278b0e6482d9d13d16396f7bfe844a15d50690bfd548719"), looks := false }, kinds := [], alts := [], laidByText := true, laidKinds := [.data, .data, .data], laidTests := true, laidLooks := .later }
def L4OwnUptoCardSaid : Prop := Claim7.holds Tryd.pinned (.plain (OpenSpec.upto l4OwnSpec)) l4OwnUptoCard

/-- THE SECOND FORM's CARD OF 'weirlaw9.L4Again'. -/
def l4AgainUptoCard : Claim7 := { stood := { row := l4AgainUptoRow, standIns := [], harness := (true, "e725ba7094282f1b5278b0e6482d9d13d16396f7bfe844a15d50690bfd548719"), looks := false }, kinds := [], alts := [], laidByText := true, laidKinds := [.data, .data, .data], laidTests := true, laidLooks := .later }
def L4AgainUptoCardSaid : Prop := Claim7.holds Tryd.pinned (.plain (OpenSpec.upto l4AgainSpec)) l4AgainUptoCard

/-- THE SECOND FORM's CARD OF 'weirlaw9.L4Lent'. -/
def l4LentUptoCard : Claim7 := { stood := { row := l4LentUptoRow, standIns := [], harness := (true, "e725ba7094282f1b5278b0e6482d9d13d16396f7bfe844a15d50690bfd548719"), looks := false }, kinds := [], alts := [], laidByText := true, laidKinds := [.data, .data, .data], laidTests := true, laidLooks := .later }
def L4LentUptoCardSaid : Prop := Claim7.holds Tryd.pinned (.plain (OpenSpec.upto l4LentSpec)) l4LentUptoCard
end Rows
end Go.Proofs.YtmchllbemgnieaaDoor
