/-
  DERIVED. GIVEN WITH THE SEED: THE CARDS: each row of YtjdmdhjincgdaaaDoorRows.lean that lists a variable, with what it lists TIED to the program's text (the seventh form; the later family's looks); each row that meets fmt, with fmt's text TOLD by the authors' own Lean function (tested against real Go, not proved from fmt's source: count such statements apart). THE CARD IS WHAT COUNTS. Prove the row's statement (the work); the ties are given (YtjdmdhjincgdaaaDoorTie.lean); close each card by the builder's one call (the guide's Derived/Test/ToyasCard.lean, 'card_holds'). Laid BY PROGRAM, IN A SANDBOX (cutbox-door.mjs). By AI agents, Wed Nov 11 2026. No macro, syntax, notation, axiom, sorry.
-/
import Derived.Test.YtjdmdhjincgdaaaDoorRows
import GoSem.ClaimSeven
namespace Go.Proofs.YtjdmdhjincgdaaaDoor
namespace Rows

/-- THE TIED CARD OF 'chargeparklaw11.PilotMatchesReference'. -/
def pilotMatchesReferenceCard : Claim7 := { stood := { row := pilotMatchesReferenceRow, standIns := [], harness := (true, "97d322c9588600f4520d3a7b2895fbd78427c497b8430ffa0a6a92f652aef491"), looks := false }, kinds := [], alts := [], laidByText := true, laidKinds := [.data], laidTests := true, laidLooks := .later }
def PilotMatchesReferenceCardSaid : Prop := Claim7.holds Tryd.pinned (.plain (OpenSpec.ofChange pilotMatchesReferenceSpec)) pilotMatchesReferenceCard

/-- THE TIED CARD OF 'chargeparklaw11.PilotInverse'. -/
def pilotInverseCard : Claim7 := { stood := { row := pilotInverseRow, standIns := [], harness := (true, "97d322c9588600f4520d3a7b2895fbd78427c497b8430ffa0a6a92f652aef491"), looks := false }, kinds := [], alts := [], laidByText := true, laidKinds := [.data], laidTests := true, laidLooks := .later }
def PilotInverseCardSaid : Prop := Claim7.holds Tryd.pinned (.plain (OpenSpec.ofChange pilotInverseSpec)) pilotInverseCard

/-- THE TIED CARD OF 'chargeparklaw11.PilotGreatest'. -/
def pilotGreatestCard : Claim7 := { stood := { row := pilotGreatestRow, standIns := [], harness := (true, "97d322c9588600f4520d3a7b2895fbd78427c497b8430ffa0a6a92f652aef491"), looks := false }, kinds := [], alts := [], laidByText := true, laidKinds := [.data], laidTests := true, laidLooks := .later }
def PilotGreatestCardSaid : Prop := Claim7.holds Tryd.pinned (.plain (OpenSpec.ofChange pilotGreatestSpec)) pilotGreatestCard

/-- THE TIED CARD OF 'chargeparklaw11.PilotOrder'. -/
def pilotOrderCard : Claim7 := { stood := { row := pilotOrderRow, standIns := [], harness := (true, "97d322c9588600f4520d3a7b2895fbd78427c497b8430ffa0a6a92f652aef491"), looks := false }, kinds := [], alts := [], laidByText := true, laidKinds := [.data], laidTests := true, laidLooks := .later }
def PilotOrderCardSaid : Prop := Claim7.holds Tryd.pinned (.plain (OpenSpec.ofChange pilotOrderSpec)) pilotOrderCard

/-- THE TIED CARD OF 'chargeparklaw11.PilotRange'. -/
def pilotRangeCard : Claim7 := { stood := { row := pilotRangeRow, standIns := [], harness := (true, "97d322c9588600f4520d3a7b2895fbd78427c497b8430ffa0a6a92f652aef491"), looks := false }, kinds := [], alts := [], laidByText := true, laidKinds := [.data], laidTests := true, laidLooks := .later }
def PilotRangeCardSaid : Prop := Claim7.holds Tryd.pinned (.plain (OpenSpec.ofChange pilotRangeSpec)) pilotRangeCard

/-- THE TIED CARD OF 'chargeparklaw11.PilotMisread'. -/
def pilotMisreadCard : Claim7 := { stood := { row := pilotMisreadRow, standIns := [], harness := (true, "97d322c9588600f4520d3a7b2895fbd78427c497b8430ffa0a6a92f652aef491"), looks := false }, kinds := [], alts := [], laidByText := true, laidKinds := [.data], laidTests := true, laidLooks := .later }
def PilotMisreadCardSaid : Prop := Claim7.holds Tryd.pinned (.plain (OpenSpec.ofChange pilotMisreadSpec)) pilotMisreadCard

/-- THE SECOND FORM's CARD OF 'chargeparklaw11.PilotMatchesReference'. -/
def pilotMatchesReferenceUptoCard : Claim7 := { stood := { row := pilotMatchesReferenceUptoRow, standIns := [], harness := (true, "97d322c9588600f4520d3a7b2895fbd78427c497b8430ffa0a6a92f652aef491"), looks := false }, kinds := [], alts := [], laidByText := true, laidKinds := [.data], laidTests := true, laidLooks := .later }
def PilotMatchesReferenceUptoCardSaid : Prop := Claim7.holds Tryd.pinned (.plain (OpenSpec.upto pilotMatchesReferenceSpec)) pilotMatchesReferenceUptoCard

/-- THE SECOND FORM's CARD OF 'chargeparklaw11.PilotInverse'. -/
def pilotInverseUptoCard : Claim7 := { stood := { row := pilotInverseUptoRow, standIns := [], harness := (true, "97d322c9588600f4520d3a7b2895fbd78427c497b8430ffa0a6a92f652aef491"), looks := false }, kinds := [], alts := [], laidByText := true, laidKinds := [.data], laidTests := true, laidLooks := .later }
def PilotInverseUptoCardSaid : Prop := Claim7.holds Tryd.pinned (.plain (OpenSpec.upto pilotInverseSpec)) pilotInverseUptoCard

/-- THE SECOND FORM's CARD OF 'chargeparklaw11.PilotGreatest'. -/
def pilotGreatestUptoCard : Claim7 := { stood := { row := pilotGreatestUptoRow, standIns := [], harness := (true, "97d322c9588600f4520d3a7b2895fbd78427c497b8430ffa0a6a92f652aef491"), looks := false }, kinds := [], alts := [], laidByText := true, laidKinds := [.data], laidTests := true, laidLooks := .later }
def PilotGreatestUptoCardSaid : Prop := Claim7.holds Tryd.pinned (.plain (OpenSpec.upto pilotGreatestSpec)) pilotGreatestUptoCard

/-- THE SECOND FORM's CARD OF 'chargeparklaw11.PilotOrder'. -/
def pilotOrderUptoCard : Claim7 := { stood := { row := pilotOrderUptoRow, standIns := [], harness := (true, "97d322c9588600f4520d3a7b2895fbd78427c497b8430ffa0a6a92f652aef491"), looks := false }, kinds := [], alts := [], laidByText := true, laidKinds := [.data], laidTests := true, laidLooks := .later }
def PilotOrderUptoCardSaid : Prop := Claim7.holds Tryd.pinned (.plain (OpenSpec.upto pilotOrderSpec)) pilotOrderUptoCard

/-- THE SECOND FORM's CARD OF 'chargeparklaw11.PilotRange'. -/
def pilotRangeUptoCard : Claim7 := { stood := { row := pilotRangeUptoRow, standIns := [], harness := (true, "97d322c9588600f4520d3a7b2895fbd78427c497b8430ffa0a6a92f652aef491"), looks := false }, kinds := [], alts := [], laidByText := true, laidKinds := [.data], laidTests := true, laidLooks := .later }
def PilotRangeUptoCardSaid : Prop := Claim7.holds Tryd.pinned (.plain (OpenSpec.upto pilotRangeSpec)) pilotRangeUptoCard

/-- THE SECOND FORM's CARD OF 'chargeparklaw11.PilotMisread'. -/
def pilotMisreadUptoCard : Claim7 := { stood := { row := pilotMisreadUptoRow, standIns := [], harness := (true, "97d322c9588600f4520d3a7b2895fbd78427c497b8430ffa0a6a92f652aef491"), looks := false }, kinds := [], alts := [], laidByText := true, laidKinds := [.data], laidTests := true, laidLooks := .later }
def PilotMisreadUptoCardSaid : Prop := Claim7.holds Tryd.pinned (.plain (OpenSpec.upto pilotMisreadSpec)) pilotMisreadUptoCard
end Rows
end Go.Proofs.YtjdmdhjincgdaaaDoor
