/-
  DERIVED. GIVEN WITH THE SEED: THE CARDS: each row of YtkahmepenjhcpaaDoorRows.lean that lists a variable, with what it lists TIED to the program's text (the seventh form; the later family's looks); each row that meets fmt, with fmt's text TOLD by the authors' own Lean function (tested against real Go, not proved from fmt's source: count such statements apart). THE CARD IS WHAT COUNTS. Prove the row's statement (the work); the ties are given (YtkahmepenjhcpaaDoorTie.lean); close each card by the builder's one call (the guide's Derived/Test/ToyasCard.lean, 'card_holds'). Laid BY PROGRAM, IN A SANDBOX (cutbox-door.mjs). By AI agents, Wed Nov 11 2026. No macro, syntax, notation, axiom, sorry.
-/
import Derived.Test.YtkahmepenjhcpaaDoorRows
import GoSem.ClaimSeven
namespace Go.Proofs.YtkahmepenjhcpaaDoor
namespace Rows

/-- THE TIED CARD OF 'weirlaw6.Ip4Back'. -/
def ip4BackCard : Claim7 := { stood := { row := ip4BackRow, standIns := [], harness := (true, "ae61ef9ae8b5684835509d9b949434e980528251f3a466b7ffbfdc15e0eb9829"), looks := false }, kinds := [], alts := [], laidByText := true, laidKinds := [.data], laidTests := true, laidLooks := .later }
def Ip4BackCardSaid : Prop := Claim7.holds Tryd.pinned (.plain (OpenSpec.ofChange ip4BackSpec)) ip4BackCard

/-- THE TIED CARD OF 'weirlaw6.Ip4OneForm'. -/
def ip4OneFormCard : Claim7 := { stood := { row := ip4OneFormRow, standIns := [], harness := (true, "ae61ef9ae8b5684835509d9b949434e980528251f3a466b7ffbfdc15e0eb9829"), looks := false }, kinds := [], alts := [], laidByText := true, laidKinds := [.data], laidTests := true, laidLooks := .later }
def Ip4OneFormCardSaid : Prop := Claim7.holds Tryd.pinned (.plain (OpenSpec.ofChange ip4OneFormSpec)) ip4OneFormCard

/-- THE TIED CARD OF 'weirlaw6.Ip4Reads'. -/
def ip4ReadsCard : Claim7 := { stood := { row := ip4ReadsRow, standIns := [], harness := (true, "ae61ef9ae8b5684835509d9b949434e980528251f3a466b7ffbfdc15e0eb9829"), looks := false }, kinds := [], alts := [], laidByText := true, laidKinds := [.data], laidTests := true, laidLooks := .later }
def Ip4ReadsCardSaid : Prop := Claim7.holds Tryd.pinned (.plain (OpenSpec.ofChange ip4ReadsSpec)) ip4ReadsCard

/-- THE TIED CARD OF 'weirlaw6.Ip4Writes'. -/
def ip4WritesCard : Claim7 := { stood := { row := ip4WritesRow, standIns := [], harness := (true, "ae61ef9ae8b5684835509d9b949434e980528251f3a466b7ffbfdc15e0eb9829"), looks := false }, kinds := [], alts := [], laidByText := true, laidKinds := [.data], laidTests := true, laidLooks := .later }
def Ip4WritesCardSaid : Prop := Claim7.holds Tryd.pinned (.plain (OpenSpec.ofChange ip4WritesSpec)) ip4WritesCard

/-- THE TIED CARD OF 'weirlaw6.Ip4Canons'. -/
def ip4CanonsCard : Claim7 := { stood := { row := ip4CanonsRow, standIns := [], harness := (true, "ae61ef9ae8b5684835509d9b949434e980528251f3a466b7ffbfdc15e0eb9829"), looks := false }, kinds := [], alts := [], laidByText := true, laidKinds := [.data], laidTests := true, laidLooks := .later }
def Ip4CanonsCardSaid : Prop := Claim7.holds Tryd.pinned (.plain (OpenSpec.ofChange ip4CanonsSpec)) ip4CanonsCard

/-- THE TIED CARD OF 'weirlaw6.Ip4Options'. -/
def ip4OptionsCard : Claim7 := { stood := { row := ip4OptionsRow, standIns := [], harness := (true, "ae61ef9ae8b5684835509d9b949434e980528251f3a466b7ffbfdc15e0eb9829"), looks := false }, kinds := [], alts := [], laidByText := true, laidKinds := [.data], laidTests := true, laidLooks := .later }
def Ip4OptionsCardSaid : Prop := Claim7.holds Tryd.pinned (.plain (OpenSpec.ofChange ip4OptionsSpec)) ip4OptionsCard

/-- THE TIED CARD OF 'weirlaw6.Ip4Hops'. -/
def ip4HopsCard : Claim7 := { stood := { row := ip4HopsRow, standIns := [], harness := (true, "ae61ef9ae8b5684835509d9b949434e980528251f3a466b7ffbfdc15e0eb9829"), looks := false }, kinds := [], alts := [], laidByText := true, laidKinds := [.data], laidTests := true, laidLooks := .later }
def Ip4HopsCardSaid : Prop := Claim7.holds Tryd.pinned (.plain (OpenSpec.ofChange ip4HopsSpec)) ip4HopsCard

/-- THE TIED CARD OF 'weirlaw6.Ip4Plays'. -/
def ip4PlaysCard : Claim7 := { stood := { row := ip4PlaysRow, standIns := [], harness := (true, "ae61ef9ae8b5684835509d9b949434e980528251f3a466b7ffbfdc15e0eb9829"), looks := false }, kinds := [], alts := [], laidByText := true, laidKinds := [.data], laidTests := true, laidLooks := .later }
def Ip4PlaysCardSaid : Prop := Claim7.holds Tryd.pinned (.plain (OpenSpec.ofChange ip4PlaysSpec)) ip4PlaysCard

/-- THE TIED CARD OF 'weirlaw6.Ip4HopOnce'. -/
def ip4HopOnceCard : Claim7 := { stood := { row := ip4HopOnceRow, standIns := [], harness := (true, "ae61ef9ae8b5684835509d9b949434e980528251f3a466b7ffbfdc15e0eb9829"), looks := false }, kinds := [], alts := [], laidByText := true, laidKinds := [.data], laidTests := true, laidLooks := .later }
def Ip4HopOnceCardSaid : Prop := Claim7.holds Tryd.pinned (.plain (OpenSpec.ofChange ip4HopOnceSpec)) ip4HopOnceCard

/-- THE TIED CARD OF 'weirlaw6.Ip4HopsOut'. -/
def ip4HopsOutCard : Claim7 := { stood := { row := ip4HopsOutRow, standIns := [], harness := (true, "ae61ef9ae8b5684835509d9b949434e980528251f3a466b7ffbfdc15e0eb9829"), looks := false }, kinds := [], alts := [], laidByText := true, laidKinds := [.data], laidTests := true, laidLooks := .later }
def Ip4HopsOutCardSaid : Prop := Claim7.holds Tryd.pinned (.plain (OpenSpec.ofChange ip4HopsOutSpec)) ip4HopsOutCard

/-- THE TIED CARD OF 'weirlaw6.Ip4Again'. -/
def ip4AgainCard : Claim7 := { stood := { row := ip4AgainRow, standIns := [], harness := (true, "ae61ef9ae8b5684835509d9b949434e980528251f3a466b7ffbfdc15e0eb9829"), looks := false }, kinds := [], alts := [], laidByText := true, laidKinds := [.data], laidTests := true, laidLooks := .later }
def Ip4AgainCardSaid : Prop := Claim7.holds Tryd.pinned (.plain (OpenSpec.ofChange ip4AgainSpec)) ip4AgainCard

/-- THE TIED CARD OF 'weirlaw9.L4Udp'. -/
def l4UdpCard : Claim7 := { stood := { row := l4UdpRow, standIns := [], harness := (true, "ae61ef9ae8b5684835509d9b949434e980528251f3a466b7ffbfdc15e0eb9829"), looks := false }, kinds := [], alts := [], laidByText := true, laidKinds := [.data, .data, .data], laidTests := true, laidLooks := .later }
def L4UdpCardSaid : Prop := Claim7.holds Tryd.pinned (.plain (OpenSpec.ofChange l4UdpSpec)) l4UdpCard

/-- THE TIED CARD OF 'weirlaw9.L4Tcp'. -/
def l4TcpCard : Claim7 := { stood := { row := l4TcpRow, standIns := [], harness := (true, "ae61ef9ae8b5684835509d9b949434e980528251f3a466b7ffbfdc15e0eb9829"), looks := false }, kinds := [], alts := [], laidByText := true, laidKinds := [.data, .data, .data], laidTests := true, laidLooks := .later }
def L4TcpCardSaid : Prop := Claim7.holds Tryd.pinned (.plain (OpenSpec.ofChange l4TcpSpec)) l4TcpCard

/-- THE TIED CARD OF 'weirlaw9.L4Options'. -/
def l4OptionsCard : Claim7 := { stood := { row := l4OptionsRow, standIns := [], harness := (true, "ae61ef9ae8b5684835509d9b949434e980528251f3a466b7ffbfdc15e0eb9829"), looks := false }, kinds := [], alts := [], laidByText := true, laidKinds := [.data, .data, .data], laidTests := true, laidLooks := .later }
def L4OptionsCardSaid : Prop := Claim7.holds Tryd.pinned (.plain (OpenSpec.ofChange l4OptionsSpec)) l4OptionsCard

/-- THE TIED CARD OF 'weirlaw9.L4Plays'. -/
def l4PlaysCard : Claim7 := { stood := { row := l4PlaysRow, standIns := [], harness := (true, "ae61ef9ae8b5684835509d9b949434e980528251f3a466b7ffbfdc15e0eb9829"), looks := false }, kinds := [], alts := [], laidByText := true, laidKinds := [.data, .data, .data], laidTests := true, laidLooks := .later }
def L4PlaysCardSaid : Prop := Claim7.holds Tryd.pinned (.plain (OpenSpec.ofChange l4PlaysSpec)) l4PlaysCard

/-- THE TIED CARD OF 'weirlaw9.L4UdpBack'. -/
def l4UdpBackCard : Claim7 := { stood := { row := l4UdpBackRow, standIns := [], harness := (true, "ae61ef9ae8b5684835509d9b949434e980528251f3a466b7ffbfdc15e0eb9829"), looks := false }, kinds := [], alts := [], laidByText := true, laidKinds := [.data, .data, .data], laidTests := true, laidLooks := .later }
def L4UdpBackCardSaid : Prop := Claim7.holds Tryd.pinned (.plain (OpenSpec.ofChange l4UdpBackSpec)) l4UdpBackCard

/-- THE TIED CARD OF 'weirlaw9.L4TcpBack'. -/
def l4TcpBackCard : Claim7 := { stood := { row := l4TcpBackRow, standIns := [], harness := (true, "ae61ef9ae8b5684835509d9b949434e980528251f3a466b7ffbfdc15e0eb9829"), looks := false }, kinds := [], alts := [], laidByText := true, laidKinds := [.data, .data, .data], laidTests := true, laidLooks := .later }
def L4TcpBackCardSaid : Prop := Claim7.holds Tryd.pinned (.plain (OpenSpec.ofChange l4TcpBackSpec)) l4TcpBackCard

/-- THE TIED CARD OF 'weirlaw9.L4OneForm'. -/
def l4OneFormCard : Claim7 := { stood := { row := l4OneFormRow, standIns := [], harness := (true, "ae61ef9ae8b5684835509d9b949434e980528251f3a466b7ffbfdc15e0eb9829"), looks := false }, kinds := [], alts := [], laidByText := true, laidKinds := [.data, .data, .data], laidTests := true, laidLooks := .later }
def L4OneFormCardSaid : Prop := Claim7.holds Tryd.pinned (.plain (OpenSpec.ofChange l4OneFormSpec)) l4OneFormCard

/-- THE TIED CARD OF 'weirlaw9.L4OneBit'. -/
def l4OneBitCard : Claim7 := { stood := { row := l4OneBitRow, standIns := [], harness := (true, "ae61ef9ae8b5684835509d9b949434e980528251f3a466b7ffbfdc15e0eb9829"), looks := false }, kinds := [], alts := [], laidByText := true, laidKinds := [.data, .data, .data], laidTests := true, laidLooks := .later }
def L4OneBitCardSaid : Prop := Claim7.holds Tryd.pinned (.plain (OpenSpec.ofChange l4OneBitSpec)) l4OneBitCard

/-- THE TIED CARD OF 'weirlaw9.L4Ends'. -/
def l4EndsCard : Claim7 := { stood := { row := l4EndsRow, standIns := [], harness := (true, "ae61ef9ae8b5684835509d9b949434e980528251f3a466b7ffbfdc15e0eb9829"), looks := false }, kinds := [], alts := [], laidByText := true, laidKinds := [.data, .data, .data], laidTests := true, laidLooks := .later }
def L4EndsCardSaid : Prop := Claim7.holds Tryd.pinned (.plain (OpenSpec.ofChange l4EndsSpec)) l4EndsCard

/-- THE TIED CARD OF 'weirlaw9.L4Window'. -/
def l4WindowCard : Claim7 := { stood := { row := l4WindowRow, standIns := [], harness := (true, "ae61ef9ae8b5684835509d9b949434e980528251f3a466b7ffbfdc15e0eb9829"), looks := false }, kinds := [], alts := [], laidByText := true, laidKinds := [.data, .data, .data], laidTests := true, laidLooks := .later }
def L4WindowCardSaid : Prop := Claim7.holds Tryd.pinned (.plain (OpenSpec.ofChange l4WindowSpec)) l4WindowCard

/-- THE TIED CARD OF 'weirlaw9.L4Clamped'. -/
def l4ClampedCard : Claim7 := { stood := { row := l4ClampedRow, standIns := [], harness := (true, "ae61ef9ae8b5684835509d9b949434e980528251f3a466b7ffbfdc15e0eb9829"), looks := false }, kinds := [], alts := [], laidByText := true, laidKinds := [.data, .data, .data], laidTests := true, laidLooks := .later }
def L4ClampedCardSaid : Prop := Claim7.holds Tryd.pinned (.plain (OpenSpec.ofChange l4ClampedSpec)) l4ClampedCard

/-- THE TIED CARD OF 'weirlaw9.L4Own'. -/
def l4OwnCard : Claim7 := { stood := { row := l4OwnRow, standIns := [], harness := (true, "ae61ef9ae8b5684835509d9b949434e980528251f3a466b7ffbfdc15e0eb9829"), looks := false }, kinds := [], alts := [], laidByText := true, laidKinds := [.data, .data, .data], laidTests := true, laidLooks := .later }
def L4OwnCardSaid : Prop := Claim7.holds Tryd.pinned (.plain (OpenSpec.ofChange l4OwnSpec)) l4OwnCard

/-- THE TIED CARD OF 'weirlaw9.L4Again'. -/
def l4AgainCard : Claim7 := { stood := { row := l4AgainRow, standIns := [], harness := (true, "ae61ef9ae8b5684835509d9b949434e980528251f3a466b7ffbfdc15e0eb9829"), looks := false }, kinds := [], alts := [], laidByText := true, laidKinds := [.data, .data, .data], laidTests := true, laidLooks := .later }
def L4AgainCardSaid : Prop := Claim7.holds Tryd.pinned (.plain (OpenSpec.ofChange l4AgainSpec)) l4AgainCard

/-- THE TIED CARD OF 'weirlaw9.L4Lent'. -/
def l4LentCard : Claim7 := { stood := { row := l4LentRow, standIns := [], harness := (true, "ae61ef9ae8b5684835509d9b949434e980528251f3a466b7ffbfdc15e0eb9829"), looks := false }, kinds := [], alts := [], laidByText := true, laidKinds := [.data, .data, .data], laidTests := true, laidLooks := .later }
def L4LentCardSaid : Prop := Claim7.holds Tryd.pinned (.plain (OpenSpec.ofChange l4LentSpec)) l4LentCard

/-- THE SECOND FORM's CARD OF 'weirlaw6.Ip4Back'. -/
def ip4BackUptoCard : Claim7 := { stood := { row := ip4BackUptoRow, standIns := [], harness := (true, "ae61ef9ae8b5684835509d9b949434e980528251f3a466b7ffbfdc15e0eb9829"), looks := false }, kinds := [], alts := [], laidByText := true, laidKinds := [.data], laidTests := true, laidLooks := .later }
def Ip4BackUptoCardSaid : Prop := Claim7.holds Tryd.pinned (.plain (OpenSpec.upto ip4BackSpec)) ip4BackUptoCard

/-- THE SECOND FORM's CARD OF 'weirlaw6.Ip4OneForm'. -/
def ip4OneFormUptoCard : Claim7 := { stood := { row := ip4OneFormUptoRow, standIns := [], harness := (true, "ae61ef9ae8b5684835509d9b949434e980528251f3a466b7ffbfdc15e0eb9829"), looks := false }, kinds := [], alts := [], laidByText := true, laidKinds := [.data], laidTests := true, laidLooks := .later }
def Ip4OneFormUptoCardSaid : Prop := Claim7.holds Tryd.pinned (.plain (OpenSpec.upto ip4OneFormSpec)) ip4OneFormUptoCard

/-- THE SECOND FORM's CARD OF 'weirlaw6.Ip4Reads'. -/
def ip4ReadsUptoCard : Claim7 := { stood := { row := ip4ReadsUptoRow, standIns := [], harness := (true, "ae61ef9ae8b5684835509d9b949434e980528251f3a466b7ffbfdc15e0eb9829"), looks := false }, kinds := [], alts := [], laidByText := true, laidKinds := [.data], laidTests := true, laidLooks := .later }
def Ip4ReadsUptoCardSaid : Prop := Claim7.holds Tryd.pinned (.plain (OpenSpec.upto ip4ReadsSpec)) ip4ReadsUptoCard

/-- THE SECOND FORM's CARD OF 'weirlaw6.Ip4Writes'. -/
def ip4WritesUptoCard : Claim7 := { stood := { row := ip4WritesUptoRow, standIns := [], harness := (true, "ae61ef9ae8b5684835509d9b949434e980528251f3a466b7ffbfdc15e0eb9829"), looks := false }, kinds := [], alts := [], laidByText := true, laidKinds := [.data], laidTests := true, laidLooks := .later }
def Ip4WritesUptoCardSaid : Prop := Claim7.holds Tryd.pinned (.plain (OpenSpec.upto ip4WritesSpec)) ip4WritesUptoCard

/-- THE SECOND FORM's CARD OF 'weirlaw6.Ip4Canons'. -/
def ip4CanonsUptoCard : Claim7 := { stood := { row := ip4CanonsUptoRow, standIns := [], harness := (true, "ae61ef9ae8b5684835509d9b949434e980528251f3a466b7ffbfdc15e0eb9829"), looks := false }, kinds := [], alts := [], laidByText := true, laidKinds := [.data], laidTests := true, laidLooks := .later }
def Ip4CanonsUptoCardSaid : Prop := Claim7.holds Tryd.pinned (.plain (OpenSpec.upto ip4CanonsSpec)) ip4CanonsUptoCard

/-- THE SECOND FORM's CARD OF 'weirlaw6.Ip4Options'. -/
def ip4OptionsUptoCard : Claim7 := { stood := { row := ip4OptionsUptoRow, standIns := [], harness := (true, "ae61ef9ae8b5684835509d9b949434e980528251f3a466b7ffbfdc15e0eb9829"), looks := false }, kinds := [], alts := [], laidByText := true, laidKinds := [.data], laidTests := true, laidLooks := .later }
def Ip4OptionsUptoCardSaid : Prop := Claim7.holds Tryd.pinned (.plain (OpenSpec.upto ip4OptionsSpec)) ip4OptionsUptoCard

/-- THE SECOND FORM's CARD OF 'weirlaw6.Ip4Hops'. -/
def ip4HopsUptoCard : Claim7 := { stood := { row := ip4HopsUptoRow, standIns := [], harness := (true, "ae61ef9ae8b5684835509d9b949434e980528251f3a466b7ffbfdc15e0eb9829"), looks := false }, kinds := [], alts := [], laidByText := true, laidKinds := [.data], laidTests := true, laidLooks := .later }
def Ip4HopsUptoCardSaid : Prop := Claim7.holds Tryd.pinned (.plain (OpenSpec.upto ip4HopsSpec)) ip4HopsUptoCard

/-- THE SECOND FORM's CARD OF 'weirlaw6.Ip4Plays'. -/
def ip4PlaysUptoCard : Claim7 := { stood := { row := ip4PlaysUptoRow, standIns := [], harness := (true, "ae61ef9ae8b5684835509d9b949434e980528251f3a466b7ffbfdc15e0eb9829"), looks := false }, kinds := [], alts := [], laidByText := true, laidKinds := [.data], laidTests := true, laidLooks := .later }
def Ip4PlaysUptoCardSaid : Prop := Claim7.holds Tryd.pinned (.plain (OpenSpec.upto ip4PlaysSpec)) ip4PlaysUptoCard

/-- THE SECOND FORM's CARD OF 'weirlaw6.Ip4HopOnce'. -/
def ip4HopOnceUptoCard : Claim7 := { stood := { row := ip4HopOnceUptoRow, standIns := [], harness := (true, "ae61ef9ae8b5684835509d9b949434e980528251f3a466b7ffbfdc15e0eb9829"), looks := false }, kinds := [], alts := [], laidByText := true, laidKinds := [.data], laidTests := true, laidLooks := .later }
def Ip4HopOnceUptoCardSaid : Prop := Claim7.holds Tryd.pinned (.plain (OpenSpec.upto ip4HopOnceSpec)) ip4HopOnceUptoCard

/-- THE SECOND FORM's CARD OF 'weirlaw6.Ip4HopsOut'. -/
def ip4HopsOutUptoCard : Claim7 := { stood := { row := ip4HopsOutUptoRow, standIns := [], harness := (true, "ae61ef9ae8b5684835509d9b949434e980528251f3a466b7ffbfdc15e0eb9829"), looks := false }, kinds := [], alts := [], laidByText := true, laidKinds := [.data], laidTests := true, laidLooks := .later }
def Ip4HopsOutUptoCardSaid : Prop := Claim7.holds Tryd.pinned (.plain (OpenSpec.upto ip4HopsOutSpec)) ip4HopsOutUptoCard

/-- THE SECOND FORM's CARD OF 'weirlaw6.Ip4Again'. -/
def ip4AgainUptoCard : Claim7 := { stood := { row := ip4AgainUptoRow, standIns := [], harness := (true, "ae61ef9ae8b5684835509d9b949434e980528251f3a466b7ffbfdc15e0eb9829"), looks := false }, kinds := [], alts := [], laidByText := true, laidKinds := [.data], laidTests := true, laidLooks := .later }
def Ip4AgainUptoCardSaid : Prop := Claim7.holds Tryd.pinned (.plain (OpenSpec.upto ip4AgainSpec)) ip4AgainUptoCard

/-- THE SECOND FORM's CARD OF 'weirlaw9.L4Udp'. -/
def l4UdpUptoCard : Claim7 := { stood := { row := l4UdpUptoRow, standIns := [], harness := (true, "ae61ef9ae8b5684835509d9b949434e980528251f3a466b7ffbfdc15e0eb9829"), looks := false }, kinds := [], alts := [], laidByText := true, laidKinds := [.data, .data, .data], laidTests := true, laidLooks := .later }
def L4UdpUptoCardSaid : Prop := Claim7.holds Tryd.pinned (.plain (OpenSpec.upto l4UdpSpec)) l4UdpUptoCard

/-- THE SECOND FORM's CARD OF 'weirlaw9.L4Tcp'. -/
def l4TcpUptoCard : Claim7 := { stood := { row := l4TcpUptoRow, standIns := [], harness := (true, "ae61ef9ae8b5684835509d9b949434e980528251f3a466b7ffbfdc15e0eb9829"), looks := false }, kinds := [], alts := [], laidByText := true, laidKinds := [.data, .data, .data], laidTests := true, laidLooks := .later }
def L4TcpUptoCardSaid : Prop := Claim7.holds Tryd.pinned (.plain (OpenSpec.upto l4TcpSpec)) l4TcpUptoCard

/-- THE SECOND FORM's CARD OF 'weirlaw9.L4Options'. -/
def l4OptionsUptoCard : Claim7 := { stood := { row := l4OptionsUptoRow, standIns := [], harness := (true, "ae61ef9ae8b5684835509d9b949434e980528251f3a466b7ffbfdc15e0eb9829"), looks := false }, kinds := [], alts := [], laidByText := true, laidKinds := [.data, .data, .data], laidTests := true, laidLooks := .later }
def L4OptionsUptoCardSaid : Prop := Claim7.holds Tryd.pinned (.plain (OpenSpec.upto l4OptionsSpec)) l4OptionsUptoCard

/-- THE SECOND FORM's CARD OF 'weirlaw9.L4Plays'. -/
def l4PlaysUptoCard : Claim7 := { stood := { row := l4PlaysUptoRow, standIns := [], harness := (true, "ae61ef9ae8b5684835509d9b949434e980528251f3a466b7ffbfdc15e0eb9829"), looks := false }, kinds := [], alts := [], laidByText := true, laidKinds := [.data, .data, .data], laidTests := true, laidLooks := .later }
def L4PlaysUptoCardSaid : Prop := Claim7.holds Tryd.pinned (.plain (OpenSpec.upto l4PlaysSpec)) l4PlaysUptoCard

/-- THE SECOND FORM's CARD OF 'weirlaw9.L4UdpBack'. -/
def l4UdpBackUptoCard : Claim7 := { stood := { row := l4UdpBackUptoRow, standIns := [], harness := (true, "ae61ef9ae8b5684835509d9b949434e980528251f3a466b7ffbfdc15e0eb9829"), looks := false }, kinds := [], alts := [], laidByText := true, laidKinds := [.data, .data, .data], laidTests := true, laidLooks := .later }
def L4UdpBackUptoCardSaid : Prop := Claim7.holds Tryd.pinned (.plain (OpenSpec.upto l4UdpBackSpec)) l4UdpBackUptoCard

/-- THE SECOND FORM's CARD OF 'weirlaw9.L4TcpBack'. -/
def l4TcpBackUptoCard : Claim7 := { stood := { row := l4TcpBackUptoRow, standIns := [], harness := (true, "ae61ef9ae8b5684835509d9b949434e980528251f3a466b7ffbfdc15e0eb9829"), looks := false }, kinds := [], alts := [], laidByText := true, laidKinds := [.data, .data, .data], laidTests := true, laidLooks := .later }
def L4TcpBackUptoCardSaid : Prop := Claim7.holds Tryd.pinned (.plain (OpenSpec.upto l4TcpBackSpec)) l4TcpBackUptoCard

/-- THE SECOND FORM's CARD OF 'weirlaw9.L4OneForm'. -/
def l4OneFormUptoCard : Claim7 := { stood := { row := l4OneFormUptoRow, standIns := [], harness := (true, "ae61ef9ae8b5684835509d9b949434e980528251f3a466b7ffbfdc15e0eb9829"), looks := false }, kinds := [], alts := [], laidByText := true, laidKinds := [.data, .data, .data], laidTests := true, laidLooks := .later }
def L4OneFormUptoCardSaid : Prop := Claim7.holds Tryd.pinned (.plain (OpenSpec.upto l4OneFormSpec)) l4OneFormUptoCard

/-- THE SECOND FORM's CARD OF 'weirlaw9.L4OneBit'. -/
def l4OneBitUptoCard : Claim7 := { stood := { row := l4OneBitUptoRow, standIns := [], harness := (true, "ae61ef9ae8b5684835509d9b949434e980528251f3a466b7ffbfdc15e0eb9829"), looks := false }, kinds := [], alts := [], laidByText := true, laidKinds := [.data, .data, .data], laidTests := true, laidLooks := .later }
def L4OneBitUptoCardSaid : Prop := Claim7.holds Tryd.pinned (.plain (OpenSpec.upto l4OneBitSpec)) l4OneBitUptoCard

/-- THE SECOND FORM's CARD OF 'weirlaw9.L4Ends'. -/
def l4EndsUptoCard : Claim7 := { stood := { row := l4EndsUptoRow, standIns := [], harness := (true, "ae61ef9ae8b5684835509d9b949434e980528251f3a466b7ffbfdc15e0eb9829"), looks := false }, kinds := [], alts := [], laidByText := true, laidKinds := [.data, .data, .data], laidTests := true, laidLooks := .later }
def L4EndsUptoCardSaid : Prop := Claim7.holds Tryd.pinned (.plain (OpenSpec.upto l4EndsSpec)) l4EndsUptoCard

/-- THE SECOND FORM's CARD OF 'weirlaw9.L4Window'. -/
def l4WindowUptoCard : Claim7 := { stood := { row := l4WindowUptoRow, standIns := [], harness := (true, "ae61ef9ae8b5684835509d9b949434e980528251f3a466b7ffbfdc15e0eb9829"), looks := false }, kinds := [], alts := [], laidByText := true, laidKinds := [.data, .data, .data], laidTests := true, laidLooks := .later }
def L4WindowUptoCardSaid : Prop := Claim7.holds Tryd.pinned (.plain (OpenSpec.upto l4WindowSpec)) l4WindowUptoCard

/-- THE SECOND FORM's CARD OF 'weirlaw9.L4Clamped'. -/
def l4ClampedUptoCard : Claim7 := { stood := { row := l4ClampedUptoRow, standIns := [], harness := (true, "ae61ef9ae8b5684835509d9b949434e980528251f3a466b7ffbfdc15e0eb9829"), looks := false }, kinds := [], alts := [], laidByText := true, laidKinds := [.data, .data, .data], laidTests := true, laidLooks := .later }
def L4ClampedUptoCardSaid : Prop := Claim7.holds Tryd.pinned (.plain (OpenSpec.upto l4ClampedSpec)) l4ClampedUptoCard

/-- THE SECOND FORM's CARD OF 'weirlaw9.L4Own'. -/
def l4OwnUptoCard : Claim7 := { stood := { row := l4OwnUptoRow, standIns := [], harness := (true, "ae61ef9ae8b5684835509d9b949434e980528251f3a466b7ffbfdc15e0eb9829"), looks := false }, kinds := [], alts := [], laidByText := true, laidKinds := [.data, .data, .data], laidTests := true, laidLooks := .later }
def L4OwnUptoCardSaid : Prop := Claim7.holds Tryd.pinned (.plain (OpenSpec.upto l4OwnSpec)) l4OwnUptoCard

/-- THE SECOND FORM's CARD OF 'weirlaw9.L4Again'. -/
def l4AgainUptoCard : Claim7 := { stood := { row := l4AgainUptoRow, standIns := [], harness := (true, "ae61ef9ae8b5684835509d9b949434e980528251f3a466b7ffbfdc15e0eb9829"), looks := false }, kinds := [], alts := [], laidByText := true, laidKinds := [.data, .data, .data], laidTests := true, laidLooks := .later }
def L4AgainUptoCardSaid : Prop := Claim7.holds Tryd.pinned (.plain (OpenSpec.upto l4AgainSpec)) l4AgainUptoCard

/-- THE SECOND FORM's CARD OF 'weirlaw9.L4Lent'. -/
def l4LentUptoCard : Claim7 := { stood := { row := l4LentUptoRow, standIns := [], harness := (true, "ae61ef9ae8b5684835509d9b949434e980528251f3a466b7ffbfdc15e0eb9829"), looks := false }, kinds := [], alts := [], laidByText := true, laidKinds := [.data, .data, .data], laidTests := true, laidLooks := .later }
def L4LentUptoCardSaid : Prop := Claim7.holds Tryd.pinned (.plain (OpenSpec.upto l4LentSpec)) l4LentUptoCard
end Rows
end Go.Proofs.YtkahmepenjhcpaaDoor
