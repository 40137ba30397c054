/-
  DERIVED. GIVEN WITH THE SEED: THE CARDS: each row of YtodbohmbdgbheaaGreatDoorRows.lean that lists a variable, with what it lists TIED to the program's text (the seventh form; the later family's looks); each row that meets fmt, with fmt's text TOLD by the authors' own Lean function (tested against real Go, not proved from fmt's source: count such statements apart). THE CARD IS WHAT COUNTS. Prove the row's statement (the work); the ties are given (YtodbohmbdgbheaaGreatDoorTie.lean); close each card by the builder's one call (the guide's Derived/Test/ToyasCard.lean, 'card_holds'). Laid BY PROGRAM, IN A SANDBOX (cutbox-door.mjs). By AI agents, Wed Nov 11 2026. No macro, syntax, notation, axiom, sorry.
-/
import Derived.Test.YtodbohmbdgbheaaGreatDoorRows
import GoSem.ClaimSeven
namespace Go.Proofs.YtodbohmbdgbheaaGreatDoor
namespace Rows

/-- THE TIED CARD OF 'laws.FnQueryRoundTrip'. -/
def fnQueryRoundTripCard : Claim7 := { stood := { row := fnQueryRoundTripRow, standIns := [], harness := (true, "6c79f0ad1c4420700070a834265e37a9fa7869d063959ef4b961b059568dc5df"), looks := true }, kinds := [], alts := [], laidByText := true, laidKinds := [.data, .data, .data, .sentinel, .sentinel, .listed, .data], laidTests := true, laidLooks := .later }
def FnQueryRoundTripCardSaid : Prop := Claim7.holds Tryz.pinned (.plain (OpenSpec.ofChange fnQueryRoundTripSpec)) fnQueryRoundTripCard

/-- THE TIED CARD OF 'laws.FnExactPostorderQuery'. -/
def fnExactPostorderQueryCard : Claim7 := { stood := { row := fnExactPostorderQueryRow, standIns := [], harness := (true, "6c79f0ad1c4420700070a834265e37a9fa7869d063959ef4b961b059568dc5df"), looks := true }, kinds := [], alts := [], laidByText := true, laidKinds := [.data, .data, .data, .sentinel, .sentinel, .listed, .data], laidTests := true, laidLooks := .later }
def FnExactPostorderQueryCardSaid : Prop := Claim7.holds Tryz.pinned (.plain (OpenSpec.ofChange fnExactPostorderQuerySpec)) fnExactPostorderQueryCard

/-- THE SECOND FORM's CARD OF 'laws.FnQueryRoundTrip'. -/
def fnQueryRoundTripUptoCard : Claim7 := { stood := { row := fnQueryRoundTripUptoRow, standIns := [], harness := (true, "6c79f0ad1c4420700070a834265e37a9fa7869d063959ef4b961b059568dc5df"), looks := true }, kinds := [], alts := [], laidByText := true, laidKinds := [.data, .data, .data, .sentinel, .sentinel, .listed, .data], laidTests := true, laidLooks := .later }
def FnQueryRoundTripUptoCardSaid : Prop := Claim7.holds Tryz.pinned (.plain (OpenSpec.upto fnQueryRoundTripSpec)) fnQueryRoundTripUptoCard

/-- THE SECOND FORM's CARD OF 'laws.FnExactPostorderQuery'. -/
def fnExactPostorderQueryUptoCard : Claim7 := { stood := { row := fnExactPostorderQueryUptoRow, standIns := [], harness := (true, "6c79f0ad1c4420700070a834265e37a9fa7869d063959ef4b961b059568dc5df"), looks := true }, kinds := [], alts := [], laidByText := true, laidKinds := [.data, .data, .data, .sentinel, .sentinel, .listed, .data], laidTests := true, laidLooks := .later }
def FnExactPostorderQueryUptoCardSaid : Prop := Claim7.holds Tryz.pinned (.plain (OpenSpec.upto fnExactPostorderQuerySpec)) fnExactPostorderQueryUptoCard
end Rows
end Go.Proofs.YtodbohmbdgbheaaGreatDoor
