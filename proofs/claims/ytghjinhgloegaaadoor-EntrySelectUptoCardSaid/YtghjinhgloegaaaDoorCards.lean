/-
  DERIVED. GIVEN WITH THE SEED: THE CARDS: each row of YtghjinhgloegaaaDoorRows.lean that lists a variable, with what it lists TIED to the program's text (the seventh form; the later family's looks); each row that meets fmt, with fmt's text TOLD by the authors' own Lean function (tested against real Go, not proved from fmt's source: count such statements apart). THE CARD IS WHAT COUNTS. Prove the row's statement (the work); the ties are given (YtghjinhgloegaaaDoorTie.lean); close each card by the builder's one call (the guide's Derived/Test/ToyasCard.lean, 'card_holds'). Laid BY PROGRAM, IN A SANDBOX (cutbox-door.mjs). By AI agents, Wed Nov 11 2026. No macro, syntax, notation, axiom, sorry.
-/
import Derived.Test.YtghjinhgloegaaaDoorRows
import GoSem.ClaimSeven
namespace Go.Proofs.YtghjinhgloegaaaDoor
namespace Rows

/-- THE TIED CARD OF 'rosterlaw08.EntryValues'. -/
def entryValuesCard : Claim7 := { stood := { row := entryValuesRow, standIns := [], harness := (true, "566124443cdf2d9d1cd0e6493f76b8d11a96d450fc5e450edfd0cd17bfb1d179"), looks := false }, kinds := [], alts := [], laidByText := true, laidKinds := [.data, .data, .pinned], laidTests := true, laidLooks := .later }
def EntryValuesCardSaid : Prop := Claim7.holds Tryd.pinned (.plain (OpenSpec.ofChange entryValuesSpec)) entryValuesCard

/-- THE TIED CARD OF 'rosterlaw08.EntrySelect'. -/
def entrySelectCard : Claim7 := { stood := { row := entrySelectRow, standIns := [], harness := (true, "566124443cdf2d9d1cd0e6493f76b8d11a96d450fc5e450edfd0cd17bfb1d179"), looks := false }, kinds := [], alts := [], laidByText := true, laidKinds := [.data, .data, .pinned], laidTests := true, laidLooks := .later }
def EntrySelectCardSaid : Prop := Claim7.holds Tryd.pinned (.plain (OpenSpec.ofChange entrySelectSpec)) entrySelectCard

/-- THE TIED CARD OF 'rosterlaw08.EntryWishes'. -/
def entryWishesCard : Claim7 := { stood := { row := entryWishesRow, standIns := [], harness := (true, "566124443cdf2d9d1cd0e6493f76b8d11a96d450fc5e450edfd0cd17bfb1d179"), looks := false }, kinds := [], alts := [], laidByText := true, laidKinds := [.data, .pinned], laidTests := true, laidLooks := .later }
def EntryWishesCardSaid : Prop := Claim7.holds Tryd.pinned (.plain (OpenSpec.ofChange entryWishesSpec)) entryWishesCard

/-- THE TIED CARD OF 'rosterlaw08.EntryAll'. -/
def entryAllCard : Claim7 := { stood := { row := entryAllRow, standIns := [], harness := (true, "566124443cdf2d9d1cd0e6493f76b8d11a96d450fc5e450edfd0cd17bfb1d179"), looks := false }, kinds := [], alts := [], laidByText := true, laidKinds := [.data, .pinned], laidTests := true, laidLooks := .later }
def EntryAllCardSaid : Prop := Claim7.holds Tryd.pinned (.plain (OpenSpec.ofChange entryAllSpec)) entryAllCard

/-- THE SECOND FORM's CARD OF 'rosterlaw08.EntryValues'. -/
def entryValuesUptoCard : Claim7 := { stood := { row := entryValuesUptoRow, standIns := [], harness := (true, "566124443cdf2d9d1cd0e6493f76b8d11a96d450fc5e450edfd0cd17bfb1d179"), looks := false }, kinds := [], alts := [], laidByText := true, laidKinds := [.data, .data, .pinned], laidTests := true, laidLooks := .later }
def EntryValuesUptoCardSaid : Prop := Claim7.holds Tryd.pinned (.plain (OpenSpec.upto entryValuesSpec)) entryValuesUptoCard

/-- THE SECOND FORM's CARD OF 'rosterlaw08.EntrySelect'. -/
def entrySelectUptoCard : Claim7 := { stood := { row := entrySelectUptoRow, standIns := [], harness := (true, "566124443cdf2d9d1cd0e6493f76b8d11a96d450fc5e450edfd0cd17bfb1d179"), looks := false }, kinds := [], alts := [], laidByText := true, laidKinds := [.data, .data, .pinned], laidTests := true, laidLooks := .later }
def EntrySelectUptoCardSaid : Prop := Claim7.holds Tryd.pinned (.plain (OpenSpec.upto entrySelectSpec)) entrySelectUptoCard

/-- THE SECOND FORM's CARD OF 'rosterlaw08.EntryWishes'. -/
def entryWishesUptoCard : Claim7 := { stood := { row := entryWishesUptoRow, standIns := [], harness := (true, "566124443cdf2d9d1cd0e6493f76b8d11a96d450fc5e450edfd0cd17bfb1d179"), looks := false }, kinds := [], alts := [], laidByText := true, laidKinds := [.data, .pinned], laidTests := true, laidLooks := .later }
def EntryWishesUptoCardSaid : Prop := Claim7.holds Tryd.pinned (.plain (OpenSpec.upto entryWishesSpec)) entryWishesUptoCard

/-- THE SECOND FORM's CARD OF 'rosterlaw08.EntryAll'. -/
def entryAllUptoCard : Claim7 := { stood := { row := entryAllUptoRow, standIns := [], harness := (true, "566124443cdf2d9d1cd0e6493f76b8d11a96d450fc5e450edfd0cd17bfb1d179"), looks := false }, kinds := [], alts := [], laidByText := true, laidKinds := [.data, .pinned], laidTests := true, laidLooks := .later }
def EntryAllUptoCardSaid : Prop := Claim7.holds Tryd.pinned (.plain (OpenSpec.upto entryAllSpec)) entryAllUptoCard
end Rows
end Go.Proofs.YtghjinhgloegaaaDoor
