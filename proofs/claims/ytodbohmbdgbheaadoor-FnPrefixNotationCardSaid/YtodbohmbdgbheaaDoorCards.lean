/-
  DERIVED. GIVEN WITH THE SEED: THE CARDS: each row of YtodbohmbdgbheaaDoorRows.lean that lists a variable, with what it lists TIED to the program's text (the seventh form; the later family's looks); each row that meets fmt, with fmt's text TOLD by the authors' own Lean function (tested against real Go, not proved from fmt's source: count such statements apart). THE CARD IS WHAT COUNTS. Prove the row's statement (the work); the ties are given (YtodbohmbdgbheaaDoorTie.lean); close each card by the builder's one call (the guide's Derived/Test/ToyasCard.lean, 'card_holds'). Laid BY PROGRAM, IN A SANDBOX (cutbox-door.mjs). By AI agents, Wed Nov 11 2026. No macro, syntax, notation, axiom, sorry.
-/
import Derived.Test.YtodbohmbdgbheaaDoorRows
import GoSem.ClaimSeven
namespace Go.Proofs.YtodbohmbdgbheaaDoor
namespace Rows

/-- THE TIED CARD OF 'laws.FnExactFormatQuery'. -/
def fnExactFormatQueryCard : Claim7 := { stood := { row := fnExactFormatQueryRow, standIns := [], harness := (true, "b4afd272cd17c288dea788c84f151168b7f81ccd2dddcca94efc6794bb4727ca"), looks := true }, kinds := [], alts := [], laidByText := true, laidKinds := [.data, .data, .data], laidTests := true, laidLooks := .later }
def FnExactFormatQueryCardSaid : Prop := Claim7.holds Tryd.pinned (.plain (OpenSpec.ofChange fnExactFormatQuerySpec)) fnExactFormatQueryCard

/-- THE TIED CARD OF 'laws.FnPrefixNotation'. -/
def fnPrefixNotationCard : Claim7 := { stood := { row := fnPrefixNotationRow, standIns := [], harness := (true, "b4afd272cd17c288dea788c84f151168b7f81ccd2dddcca94efc6794bb4727ca"), looks := true }, kinds := [], alts := [], laidByText := true, laidKinds := [.data, .data, .data, .sentinel, .sentinel, .listed, .data], laidTests := true, laidLooks := .later }
def FnPrefixNotationCardSaid : Prop := Claim7.holds Tryd.pinned (.plain (OpenSpec.ofChange fnPrefixNotationSpec)) fnPrefixNotationCard

/-- THE TIED CARD OF 'laws.FnExactParseQuery'. -/
def fnExactParseQueryCard : Claim7 := { stood := { row := fnExactParseQueryRow, standIns := [], harness := (true, "b4afd272cd17c288dea788c84f151168b7f81ccd2dddcca94efc6794bb4727ca"), looks := true }, kinds := [], alts := [], laidByText := true, laidKinds := [.data, .data, .data, .sentinel, .sentinel, .listed, .data], laidTests := true, laidLooks := .later }
def FnExactParseQueryCardSaid : Prop := Claim7.holds Tryd.pinned (.plain (OpenSpec.ofChange fnExactParseQuerySpec)) fnExactParseQueryCard

/-- THE SECOND FORM's CARD OF 'laws.FnExactFormatQuery'. -/
def fnExactFormatQueryUptoCard : Claim7 := { stood := { row := fnExactFormatQueryUptoRow, standIns := [], harness := (true, "b4afd272cd17c288dea788c84f151168b7f81ccd2dddcca94efc6794bb4727ca"), looks := true }, kinds := [], alts := [], laidByText := true, laidKinds := [.data, .data, .data], laidTests := true, laidLooks := .later }
def FnExactFormatQueryUptoCardSaid : Prop := Claim7.holds Tryd.pinned (.plain (OpenSpec.upto fnExactFormatQuerySpec)) fnExactFormatQueryUptoCard

/-- THE SECOND FORM's CARD OF 'laws.FnPrefixNotation'. -/
def fnPrefixNotationUptoCard : Claim7 := { stood := { row := fnPrefixNotationUptoRow, standIns := [], harness := (true, "b4afd272cd17c288dea788c84f151168b7f81ccd2dddcca94efc6794bb4727ca"), looks := true }, kinds := [], alts := [], laidByText := true, laidKinds := [.data, .data, .data, .sentinel, .sentinel, .listed, .data], laidTests := true, laidLooks := .later }
def FnPrefixNotationUptoCardSaid : Prop := Claim7.holds Tryd.pinned (.plain (OpenSpec.upto fnPrefixNotationSpec)) fnPrefixNotationUptoCard

/-- THE SECOND FORM's CARD OF 'laws.FnExactParseQuery'. -/
def fnExactParseQueryUptoCard : Claim7 := { stood := { row := fnExactParseQueryUptoRow, standIns := [], harness := (true, "b4afd272cd17c288dea788c84f151168b7f81ccd2dddcca94efc6794bb4727ca"), looks := true }, kinds := [], alts := [], laidByText := true, laidKinds := [.data, .data, .data, .sentinel, .sentinel, .listed, .data], laidTests := true, laidLooks := .later }
def FnExactParseQueryUptoCardSaid : Prop := Claim7.holds Tryd.pinned (.plain (OpenSpec.upto fnExactParseQuerySpec)) fnExactParseQueryUptoCard
end Rows
end Go.Proofs.YtodbohmbdgbheaaDoor
