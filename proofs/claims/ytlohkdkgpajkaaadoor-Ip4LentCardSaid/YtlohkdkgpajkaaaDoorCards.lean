/-
  DERIVED. GIVEN WITH THE SEED: THE CARDS: each row of YtlohkdkgpajkaaaDoorRows.lean that lists a variable, with what it lists TIED to the program's text (the seventh form; the later family's looks); each row that meets fmt, with fmt's text TOLD by the authors' own Lean function (tested against real Go, not proved from fmt's source: count such statements apart). THE CARD IS WHAT COUNTS. Prove the row's statement (the work); the ties are given (YtlohkdkgpajkaaaDoorTie.lean); close each card by the builder's one call (the guide's Derived/Test/ToyasCard.lean, 'card_holds'). Laid BY PROGRAM, IN A SANDBOX (cutbox-door.mjs). By AI agents, Wed Nov 11 2026. No macro, syntax, notation, axiom, sorry.
-/
import Derived.Test.YtlohkdkgpajkaaaDoorRows
import GoSem.ClaimSeven
namespace Go.Proofs.YtlohkdkgpajkaaaDoor
namespace Rows

/-- THE TIED CARD OF 'weirlaw6.Ip4Window'. -/
def ip4WindowCard : Claim7 := { stood := { row := ip4WindowRow, standIns := [], harness := (true, "23061322b36fcb6a9c0f5f19faf0fe1a851a72eed2cc4dbf411017413654b408"), looks := false }, kinds := [], alts := [], laidByText := true, laidKinds := [.data], laidTests := true, laidLooks := .later }
def Ip4WindowCardSaid : Prop := Claim7.holds Tryd.pinned (.plain (OpenSpec.ofChange ip4WindowSpec)) ip4WindowCard

/-- THE TIED CARD OF 'weirlaw6.Ip4OneBit'. -/
def ip4OneBitCard : Claim7 := { stood := { row := ip4OneBitRow, standIns := [], harness := (true, "23061322b36fcb6a9c0f5f19faf0fe1a851a72eed2cc4dbf411017413654b408"), looks := false }, kinds := [], alts := [], laidByText := true, laidKinds := [.data], laidTests := true, laidLooks := .later }
def Ip4OneBitCardSaid : Prop := Claim7.holds Tryd.pinned (.plain (OpenSpec.ofChange ip4OneBitSpec)) ip4OneBitCard

/-- THE TIED CARD OF 'weirlaw6.Ip4Own'. -/
def ip4OwnCard : Claim7 := { stood := { row := ip4OwnRow, standIns := [], harness := (true, "23061322b36fcb6a9c0f5f19faf0fe1a851a72eed2cc4dbf411017413654b408"), looks := false }, kinds := [], alts := [], laidByText := true, laidKinds := [.data], laidTests := true, laidLooks := .later }
def Ip4OwnCardSaid : Prop := Claim7.holds Tryd.pinned (.plain (OpenSpec.ofChange ip4OwnSpec)) ip4OwnCard

/-- THE TIED CARD OF 'weirlaw6.Ip4Lent'. -/
def ip4LentCard : Claim7 := { stood := { row := ip4LentRow, standIns := [], harness := (true, "23061322b36fcb6a9c0f5f19faf0fe1a851a72eed2cc4dbf411017413654b408"), looks := false }, kinds := [], alts := [], laidByText := true, laidKinds := [.data], laidTests := true, laidLooks := .later }
def Ip4LentCardSaid : Prop := Claim7.holds Tryd.pinned (.plain (OpenSpec.ofChange ip4LentSpec)) ip4LentCard

/-- THE TIED CARD OF 'weirlaw6.Ip4Back'. -/
def ip4BackCard : Claim7 := { stood := { row := ip4BackRow, standIns := [], harness := (true, "23061322b36fcb6a9c0f5f19faf0fe1a851a72eed2cc4dbf411017413654b408"), looks := false }, kinds := [], alts := [], laidByText := true, laidKinds := [.data], laidTests := true, laidLooks := .later }
def Ip4BackCardSaid : Prop := Claim7.holds Tryd.pinned (.plain (OpenSpec.ofChange ip4BackSpec)) ip4BackCard

/-- THE TIED CARD OF 'weirlaw6.Ip4OneForm'. -/
def ip4OneFormCard : Claim7 := { stood := { row := ip4OneFormRow, standIns := [], harness := (true, "23061322b36fcb6a9c0f5f19faf0fe1a851a72eed2cc4dbf411017413654b408"), looks := false }, kinds := [], alts := [], laidByText := true, laidKinds := [.data], laidTests := true, laidLooks := .later }
def Ip4OneFormCardSaid : Prop := Claim7.holds Tryd.pinned (.plain (OpenSpec.ofChange ip4OneFormSpec)) ip4OneFormCard

/-- THE TIED CARD OF 'weirlaw6.Ip4Reads'. -/
def ip4ReadsCard : Claim7 := { stood := { row := ip4ReadsRow, standIns := [], harness := (true, "23061322b36fcb6a9c0f5f19faf0fe1a851a72eed2cc4dbf411017413654b408"), looks := false }, kinds := [], alts := [], laidByText := true, laidKinds := [.data], laidTests := true, laidLooks := .later }
def Ip4ReadsCardSaid : Prop := Claim7.holds Tryd.pinned (.plain (OpenSpec.ofChange ip4ReadsSpec)) ip4ReadsCard

/-- THE TIED CARD OF 'weirlaw6.Ip4Writes'. -/
def ip4WritesCard : Claim7 := { stood := { row := ip4WritesRow, standIns := [], harness := (true, "23061322b36fcb6a9c0f5f19faf0fe1a851a72eed2cc4dbf411017413654b408"), looks := false }, kinds := [], alts := [], laidByText := true, laidKinds := [.data], laidTests := true, laidLooks := .later }
def Ip4WritesCardSaid : Prop := Claim7.holds Tryd.pinned (.plain (OpenSpec.ofChange ip4WritesSpec)) ip4WritesCard

/-- THE TIED CARD OF 'weirlaw6.Ip4Canons'. -/
def ip4CanonsCard : Claim7 := { stood := { row := ip4CanonsRow, standIns := [], harness := (true, "23061322b36fcb6a9c0f5f19faf0fe1a851a72eed2cc4dbf411017413654b408"), looks := false }, kinds := [], alts := [], laidByText := true, laidKinds := [.data], laidTests := true, laidLooks := .later }
def Ip4CanonsCardSaid : Prop := Claim7.holds Tryd.pinned (.plain (OpenSpec.ofChange ip4CanonsSpec)) ip4CanonsCard

/-- THE TIED CARD OF 'weirlaw6.Ip4Options'. -/
def ip4OptionsCard : Claim7 := { stood := { row := ip4OptionsRow, standIns := [], harness := (true, "23061322b36fcb6a9c0f5f19faf0fe1a851a72eed2cc4dbf411017413654b408"), looks := false }, kinds := [], alts := [], laidByText := true, laidKinds := [.data], laidTests := true, laidLooks := .later }
def Ip4OptionsCardSaid : Prop := Claim7.holds Tryd.pinned (.plain (OpenSpec.ofChange ip4OptionsSpec)) ip4OptionsCard

/-- THE TIED CARD OF 'weirlaw6.Ip4Hops'. -/
def ip4HopsCard : Claim7 := { stood := { row := ip4HopsRow, standIns := [], harness := (true, "23061322b36fcb6a9c0f5f19faf0fe1a851a72eed2cc4dbf411017413654b408"), looks := false }, kinds := [], alts := [], laidByText := true, laidKinds := [.data], laidTests := true, laidLooks := .later }
def Ip4HopsCardSaid : Prop := Claim7.holds Tryd.pinned (.plain (OpenSpec.ofChange ip4HopsSpec)) ip4HopsCard

/-- THE TIED CARD OF 'weirlaw6.Ip4Plays'. -/
def ip4PlaysCard : Claim7 := { stood := { row := ip4PlaysRow, standIns := [], harness := (true, "23061322b36fcb6a9c0f5f19faf0fe1a851a72eed2cc4dbf411017413654b408"), looks := false }, kinds := [], alts := [], laidByText := true, laidKinds := [.data], laidTests := true, laidLooks := .later }
def Ip4PlaysCardSaid : Prop := Claim7.holds Tryd.pinned (.plain (OpenSpec.ofChange ip4PlaysSpec)) ip4PlaysCard

/-- THE TIED CARD OF 'weirlaw6.Ip4HopOnce'. -/
def ip4HopOnceCard : Claim7 := { stood := { row := ip4HopOnceRow, standIns := [], harness := (true, "23061322b36fcb6a9c0f5f19faf0fe1a851a72eed2cc4dbf411017413654b408"), looks := false }, kinds := [], alts := [], laidByText := true, laidKinds := [.data], laidTests := true, laidLooks := .later }
def Ip4HopOnceCardSaid : Prop := Claim7.holds Tryd.pinned (.plain (OpenSpec.ofChange ip4HopOnceSpec)) ip4HopOnceCard

/-- THE TIED CARD OF 'weirlaw6.Ip4HopsOut'. -/
def ip4HopsOutCard : Claim7 := { stood := { row := ip4HopsOutRow, standIns := [], harness := (true, "23061322b36fcb6a9c0f5f19faf0fe1a851a72eed2cc4dbf411017413654b408"), looks := false }, kinds := [], alts := [], laidByText := true, laidKinds := [.data], laidTests := true, laidLooks := .later }
def Ip4HopsOutCardSaid : Prop := Claim7.holds Tryd.pinned (.plain (OpenSpec.ofChange ip4HopsOutSpec)) ip4HopsOutCard

/-- THE TIED CARD OF 'weirlaw6.Ip4Again'. -/
def ip4AgainCard : Claim7 := { stood := { row := ip4AgainRow, standIns := [], harness := (true, "23061322b36fcb6a9c0f5f19faf0fe1a851a72eed2cc4dbf411017413654b408"), looks := false }, kinds := [], alts := [], laidByText := true, laidKinds := [.data], laidTests := true, laidLooks := .later }
def Ip4AgainCardSaid : Prop := Claim7.holds Tryd.pinned (.plain (OpenSpec.ofChange ip4AgainSpec)) ip4AgainCard

/-- THE SECOND FORM's CARD OF 'weirlaw6.Ip4Window'. -/
def ip4WindowUptoCard : Claim7 := { stood := { row := ip4WindowUptoRow, standIns := [], harness := (true, "23061322b36fcb6a9c0f5f19faf0fe1a851a72eed2cc4dbf411017413654b408"), looks := false }, kinds := [], alts := [], laidByText := true, laidKinds := [.data], laidTests := true, laidLooks := .later }
def Ip4WindowUptoCardSaid : Prop := Claim7.holds Tryd.pinned (.plain (OpenSpec.upto ip4WindowSpec)) ip4WindowUptoCard

/-- THE SECOND FORM's CARD OF 'weirlaw6.Ip4OneBit'. -/
def ip4OneBitUptoCard : Claim7 := { stood := { row := ip4OneBitUptoRow, standIns := [], harness := (true, "23061322b36fcb6a9c0f5f19faf0fe1a851a72eed2cc4dbf411017413654b408"), looks := false }, kinds := [], alts := [], laidByText := true, laidKinds := [.data], laidTests := true, laidLooks := .later }
def Ip4OneBitUptoCardSaid : Prop := Claim7.holds Tryd.pinned (.plain (OpenSpec.upto ip4OneBitSpec)) ip4OneBitUptoCard

/-- THE SECOND FORM's CARD OF 'weirlaw6.Ip4Own'. -/
def ip4OwnUptoCard : Claim7 := { stood := { row := ip4OwnUptoRow, standIns := [], harness := (true, "23061322b36fcb6a9c0f5f19faf0fe1a851a72eed2cc4dbf411017413654b408"), looks := false }, kinds := [], alts := [], laidByText := true, laidKinds := [.data], laidTests := true, laidLooks := .later }
def Ip4OwnUptoCardSaid : Prop := Claim7.holds Tryd.pinned (.plain (OpenSpec.upto ip4OwnSpec)) ip4OwnUptoCard

/-- THE SECOND FORM's CARD OF 'weirlaw6.Ip4Lent'. -/
def ip4LentUptoCard : Claim7 := { stood := { row := ip4LentUptoRow, standIns := [], harness := (true, "23061322b36fcb6a9c0f5f19faf0fe1a851a72eed2cc4dbf411017413654b408"), looks := false }, kinds := [], alts := [], laidByText := true, laidKinds := [.data], laidTests := true, laidLooks := .later }
def Ip4LentUptoCardSaid : Prop := Claim7.holds Tryd.pinned (.plain (OpenSpec.upto ip4LentSpec)) ip4LentUptoCard

/-- THE SECOND FORM's CARD OF 'weirlaw6.Ip4Back'. -/
def ip4BackUptoCard : Claim7 := { stood := { row := ip4BackUptoRow, standIns := [], harness := (true, "23061322b36fcb6a9c0f5f19faf0fe1a851a72eed2cc4dbf411017413654b408"), looks := false }, kinds := [], alts := [], laidByText := true, laidKinds := [.data], laidTests := true, laidLooks := .later }
def Ip4BackUptoCardSaid : Prop := Claim7.holds Tryd.pinned (.plain (OpenSpec.upto ip4BackSpec)) ip4BackUptoCard

/-- THE SECOND FORM's CARD OF 'weirlaw6.Ip4OneForm'. -/
def ip4OneFormUptoCard : Claim7 := { stood := { row := ip4OneFormUptoRow, standIns := [], harness := (true, "23061322b36fcb6a9c0f5f19faf0fe1a851a72eed2cc4dbf411017413654b408"), looks := false }, kinds := [], alts := [], laidByText := true, laidKinds := [.data], laidTests := true, laidLooks := .later }
def Ip4OneFormUptoCardSaid : Prop := Claim7.holds Tryd.pinned (.plain (OpenSpec.upto ip4OneFormSpec)) ip4OneFormUptoCard

/-- THE SECOND FORM's CARD OF 'weirlaw6.Ip4Reads'. -/
def ip4ReadsUptoCard : Claim7 := { stood := { row := ip4ReadsUptoRow, standIns := [], harness := (true, "23061322b36fcb6a9c0f5f19faf0fe1a851a72eed2cc4dbf411017413654b408"), looks := false }, kinds := [], alts := [], laidByText := true, laidKinds := [.data], laidTests := true, laidLooks := .later }
def Ip4ReadsUptoCardSaid : Prop := Claim7.holds Tryd.pinned (.plain (OpenSpec.upto ip4ReadsSpec)) ip4ReadsUptoCard

/-- THE SECOND FORM's CARD OF 'weirlaw6.Ip4Writes'. -/
def ip4WritesUptoCard : Claim7 := { stood := { row := ip4WritesUptoRow, standIns := [], harness := (true, "23061322b36fcb6a9c0f5f19faf0fe1a851a72eed2cc4dbf411017413654b408"), looks := false }, kinds := [], alts := [], laidByText := true, laidKinds := [.data], laidTests := true, laidLooks := .later }
def Ip4WritesUptoCardSaid : Prop := Claim7.holds Tryd.pinned (.plain (OpenSpec.upto ip4WritesSpec)) ip4WritesUptoCard

/-- THE SECOND FORM's CARD OF 'weirlaw6.Ip4Canons'. -/
def ip4CanonsUptoCard : Claim7 := { stood := { row := ip4CanonsUptoRow, standIns := [], harness := (true, "23061322b36fcb6a9c0f5f19faf0fe1a851a72eed2cc4dbf411017413654b408"), looks := false }, kinds := [], alts := [], laidByText := true, laidKinds := [.data], laidTests := true, laidLooks := .later }
def Ip4CanonsUptoCardSaid : Prop := Claim7.holds Tryd.pinned (.plain (OpenSpec.upto ip4CanonsSpec)) ip4CanonsUptoCard

/-- THE SECOND FORM's CARD OF 'weirlaw6.Ip4Options'. -/
def ip4OptionsUptoCard : Claim7 := { stood := { row := ip4OptionsUptoRow, standIns := [], harness := (true, "23061322b36fcb6a9c0f5f19faf0fe1a851a72eed2cc4dbf411017413654b408"), looks := false }, kinds := [], alts := [], laidByText := true, laidKinds := [.data], laidTests := true, laidLooks := .later }
def Ip4OptionsUptoCardSaid : Prop := Claim7.holds Tryd.pinned (.plain (OpenSpec.upto ip4OptionsSpec)) ip4OptionsUptoCard

/-- THE SECOND FORM's CARD OF 'weirlaw6.Ip4Hops'. -/
def ip4HopsUptoCard : Claim7 := { stood := { row := ip4HopsUptoRow, standIns := [], harness := (true, "23061322b36fcb6a9c0f5f19faf0fe1a851a72eed2cc4dbf411017413654b408"), looks := false }, kinds := [], alts := [], laidByText := true, laidKinds := [.data], laidTests := true, laidLooks := .later }
def Ip4HopsUptoCardSaid : Prop := Claim7.holds Tryd.pinned (.plain (OpenSpec.upto ip4HopsSpec)) ip4HopsUptoCard

/-- THE SECOND FORM's CARD OF 'weirlaw6.Ip4Plays'. -/
def ip4PlaysUptoCard : Claim7 := { stood := { row := ip4PlaysUptoRow, standIns := [], harness := (true, "23061322b36fcb6a9c0f5f19faf0fe1a851a72eed2cc4dbf411017413654b408"), looks := false }, kinds := [], alts := [], laidByText := true, laidKinds := [.data], laidTests := true, laidLooks := .later }
def Ip4PlaysUptoCardSaid : Prop := Claim7.holds Tryd.pinned (.plain (OpenSpec.upto ip4PlaysSpec)) ip4PlaysUptoCard

/-- THE SECOND FORM's CARD OF 'weirlaw6.Ip4HopOnce'. -/
def ip4HopOnceUptoCard : Claim7 := { stood := { row := ip4HopOnceUptoRow, standIns := [], harness := (true, "23061322b36fcb6a9c0f5f19faf0fe1a851a72eed2cc4dbf411017413654b408"), looks := false }, kinds := [], alts := [], laidByText := true, laidKinds := [.data], laidTests := true, laidLooks := .later }
def Ip4HopOnceUptoCardSaid : Prop := Claim7.holds Tryd.pinned (.plain (OpenSpec.upto ip4HopOnceSpec)) ip4HopOnceUptoCard

/-- THE SECOND FORM's CARD OF 'weirlaw6.Ip4HopsOut'. -/
def ip4HopsOutUptoCard : Claim7 := { stood := { row := ip4HopsOutUptoRow, standIns := [], harness := (true, "23061322b36fcb6a9c0f5f19faf0fe1a851a72eed2cc4dbf411017413654b408"), looks := false }, kinds := [], alts := [], laidByText := true, laidKinds := [.data], laidTests := true, laidLooks := .later }
def Ip4HopsOutUptoCardSaid : Prop := Claim7.holds Tryd.pinned (.plain (OpenSpec.upto ip4HopsOutSpec)) ip4HopsOutUptoCard

/-- THE SECOND FORM's CARD OF 'weirlaw6.Ip4Again'. -/
def ip4AgainUptoCard : Claim7 := { stood := { row := ip4AgainUptoRow, standIns := [], harness := (true, "23061322b36fcb6a9c0f5f19faf0fe1a851a72eed2cc4dbf411017413654b408"), looks := false }, kinds := [], alts := [], laidByText := true, laidKinds := [.data], laidTests := true, laidLooks := .later }
def Ip4AgainUptoCardSaid : Prop := Claim7.holds Tryd.pinned (.plain (OpenSpec.upto ip4AgainSpec)) ip4AgainUptoCard
end Rows
end Go.Proofs.YtlohkdkgpajkaaaDoor
