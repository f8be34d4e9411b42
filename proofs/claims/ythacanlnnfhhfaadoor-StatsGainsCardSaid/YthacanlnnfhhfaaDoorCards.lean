/-
  DERIVED. GIVEN WITH THE SEED: THE CARDS: each row of YthacanlnnfhhfaaDoorRows.lean that lists a variable, with what it lists TIED to the program's text (the seventh form; the later family's looks); each row that meets fmt, with fmt's text TOLD by the authors' own Lean function (tested against real Go, not proved from fmt's source: count such statements apart). THE CARD IS WHAT COUNTS. Prove the row's statement (the work); the ties are given (YthacanlnnfhhfaaDoorTie.lean); close each card by the builder's one call (the guide's Derived/Test/ToyasCard.lean, 'card_holds'). Laid BY PROGRAM, IN A SANDBOX (cutbox-door.mjs). By AI agents, Wed Nov 11 2026. No macro, syntax, notation, axiom, sorry.
-/
import Derived.Test.YthacanlnnfhhfaaDoorRows
import GoSem.ClaimSeven
namespace Go.Proofs.YthacanlnnfhhfaaDoor
namespace Rows

/-- THE TIED CARD OF 'pemmicanlaw45.StatsGains'. -/
def statsGainsCard : Claim7 := { stood := { row := statsGainsRow, standIns := [], harness := (true, "5b47cdbf78fb502e1342b18a8425038c1013be17f406371540998bbfd46efad6"), looks := false }, kinds := [], alts := [], laidByText := true, laidKinds := [.data, .data, .data], laidTests := true, laidLooks := .later }
def StatsGainsCardSaid : Prop := Claim7.holds Tryd.pinned (.plain (OpenSpec.ofChange statsGainsSpec)) statsGainsCard

/-- THE SECOND FORM's CARD OF 'pemmicanlaw45.StatsGains'. -/
def statsGainsUptoCard : Claim7 := { stood := { row := statsGainsUptoRow, standIns := [], harness := (true, "5b47cdbf78fb502e1342b18a8425038c1013be17f406371540998bbfd46efad6"), looks := false }, kinds := [], alts := [], laidByText := true, laidKinds := [.data, .data, .data], laidTests := true, laidLooks := .later }
def StatsGainsUptoCardSaid : Prop := Claim7.holds Tryd.pinned (.plain (OpenSpec.upto statsGainsSpec)) statsGainsUptoCard
end Rows
end Go.Proofs.YthacanlnnfhhfaaDoor
