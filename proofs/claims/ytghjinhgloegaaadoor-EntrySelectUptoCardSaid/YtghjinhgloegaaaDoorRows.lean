/-
  NARROWER THAN 'FOR EVERY INPUT', by the rows' own cells (each row's printed sentence says how): EntryValues: laid · EntrySelect: laid · EntryWishes: laid · EntryAll: laid.
  DERIVED. THE GIVEN ROWS OF THIS SEAT. 4 by the template 'for every input the law returns true; each argument reads behind the call as it read before'; 0 by the template 'total and deterministic' (their statements: YtghjinhgloegaaaDoorTotals.lean).
  GIVEN WITH THE SEED: the statements are not yours to turn. If you find one false, say at which input.
  Laid BY PROGRAM, IN A SANDBOX (cutbox-rows.mjs): the forced cells as the released guide's own fill.sh prints them over the translation b5f5df9507ceaeff… (all of the seat's roots in one cut). By AI agents, Wed Nov 11 2026. No macro, syntax, notation, axiom, sorry.
-/
import Derived.Test.YtghjinhgloegaaaDoorChecked
import GoSem.PinnedTables
import GoSem.Claim
import GoSem.ClaimJoined
import GoSem.ClaimMapViews
import Derived.JoinedTies
import Derived.KernelRfl
namespace Go.Proofs.YtghjinhgloegaaaDoor
/- THE CELL 'sum', in the pinned program and in every row, IS THE sha256 OF THE DUMP (.gsa) THAT YtghjinhgloegaaaDoorProg.lean LOADS. Nothing in Lean hashes anything: it is a label: what it is worth is what the hold of that sum in a sandbox is worth. -/
noncomputable def Tryd.pinned : Pinned := { name := "ytghjinhgloegaaadoor", sum := "b5f5df9507ceaeff74d5707292c5fec648117dc219ec160b02923e043b7c1f27", checked := Tryd.checked }
namespace Rows
def none {H : Type} : Left H := { results := [], args := [] }

/- WHAT THE LISTED PACKAGE-LEVEL VARIABLES READ AS WHEN THE CALL BEGINS. Each datum BY PROGRAM (the guide's laid-datum.mjs) off the statement by which the dump's own 'gosem.cut.vars' lays the variable. In a bare row this is a premise. The card (YtghjinhgloegaaaDoorCards.lean) ties it to the program's text. -/
def laid_roster_rosterref04_kinds {H : Type} : DataW H := .agg [.agg [.lit (.int .i64 (-1)), .lit (.int .i64 11), .lit (.int .i64 0)], .agg [.lit (.int .i64 (-1)), .lit (.int .i64 10), .lit (.int .i64 0)], .agg [.lit (.int .i64 (-1)), .lit (.int .i64 1), .lit (.int .i64 0)], .agg [.lit (.int .i64 (-1)), .lit (.int .i64 10), .lit (.int .i64 0)], .agg [.lit (.int .i64 2), .lit (.int .i64 1), .lit (.int .i64 0)], .agg [.lit (.int .i64 2), .lit (.int .i64 1), .lit (.int .i64 0)], .agg [.lit (.int .i64 (-1)), .lit (.int .i64 1), .lit (.int .i64 0)], .agg [.lit (.int .i64 2), .lit (.int .i64 1), .lit (.int .i64 0)], .agg [.lit (.int .i64 2), .lit (.int .i64 1), .lit (.int .i64 0)], .agg [.lit (.int .i64 2), .lit (.int .i64 1), .lit (.int .i64 0)], .agg [.lit (.int .i64 (-1)), .lit (.int .i64 1), .lit (.int .i64 0)], .agg [.lit (.int .i64 2), .lit (.int .i64 1), .lit (.int .i64 0)], .agg [.lit (.int .i64 2), .lit (.int .i64 1), .lit (.int .i64 0)], .agg [.lit (.int .i64 2), .lit (.int .i64 1), .lit (.int .i64 0)], .agg [.lit (.int .i64 (-1)), .lit (.int .i64 1), .lit (.int .i64 0)], .agg [.lit (.int .i64 (-1)), .lit (.int .i64 1), .lit (.int .i64 0)], .agg [.lit (.int .i64 (-1)), .lit (.int .i64 13), .lit (.int .i64 0)], .agg [.lit (.int .i64 (-1)), .lit (.int .i64 1), .lit (.int .i64 0)], .agg [.lit (.int .i64 (-1)), .lit (.int .i64 1), .lit (.int .i64 0)], .agg [.lit (.int .i64 (-1)), .lit (.int .i64 1), .lit (.int .i64 0)], .agg [.lit (.int .i64 (-1)), .lit (.int .i64 6), .lit (.int .i64 0)], .agg [.lit (.int .i64 (-1)), .lit (.int .i64 6), .lit (.int .i64 0)], .agg [.lit (.int .i64 (-1)), .lit (.int .i64 5), .lit (.int .i64 0)], .agg [.lit (.int .i64 (-1)), .lit (.int .i64 5), .lit (.int .i64 0)], .agg [.lit (.int .i64 16), .lit (.int .i64 13), .lit (.int .i64 0)], .agg [.lit (.int .i64 (-1)), .lit (.int .i64 1), .lit (.int .i64 0)], .agg [.lit (.int .i64 3), .lit (.int .i64 10), .lit (.int .i64 0)], .agg [.lit (.int .i64 3), .lit (.int .i64 10), .lit (.int .i64 0)], .agg [.lit (.int .i64 3), .lit (.int .i64 10), .lit (.int .i64 0)], .agg [.lit (.int .i64 3), .lit (.int .i64 10), .lit (.int .i64 0)], .agg [.lit (.int .i64 (-1)), .lit (.int .i64 9), .lit (.int .i64 0)], .agg [.lit (.int .i64 2), .lit (.int .i64 1), .lit (.int .i64 0)], .agg [.lit (.int .i64 2), .lit (.int .i64 1), .lit (.int .i64 0)], .agg [.lit (.int .i64 2), .lit (.int .i64 1), .lit (.int .i64 0)], .agg [.lit (.int .i64 (-1)), .lit (.int .i64 1), .lit (.int .i64 0)], .agg [.lit (.int .i64 (-1)), .lit (.int .i64 1), .lit (.int .i64 0)], .agg [.lit (.int .i64 8), .lit (.int .i64 1), .lit (.int .i64 0)], .agg [.lit (.int .i64 9), .lit (.int .i64 1), .lit (.int .i64 0)], .agg [.lit (.int .i64 11), .lit (.int .i64 1), .lit (.int .i64 0)], .agg [.lit (.int .i64 12), .lit (.int .i64 1), .lit (.int .i64 0)], .agg [.lit (.int .i64 (-1)), .lit (.int .i64 1), .lit (.int .i64 0)], .agg [.lit (.int .i64 (-1)), .lit (.int .i64 3), .lit (.int .i64 0)], .agg [.lit (.int .i64 (-1)), .lit (.int .i64 1), .lit (.int .i64 0)], .agg [.lit (.int .i64 (-1)), .lit (.int .i64 10), .lit (.int .i64 0)], .agg [.lit (.int .i64 (-1)), .lit (.int .i64 6), .lit (.int .i64 0)], .agg [.lit (.int .i64 (-1)), .lit (.int .i64 10), .lit (.int .i64 0)], .agg [.lit (.int .i64 (-1)), .lit (.int .i64 3), .lit (.int .i64 0)], .agg [.lit (.int .i64 (-1)), .lit (.int .i64 6), .lit (.int .i64 0)], .agg [.lit (.int .i64 (-1)), .lit (.int .i64 6), .lit (.int .i64 0)], .agg [.lit (.int .i64 (-1)), .lit (.int .i64 1), .lit (.int .i64 0)], .agg [.lit (.int .i64 (-1)), .lit (.int .i64 1), .lit (.int .i64 0)], .agg [.lit (.int .i64 (-1)), .lit (.int .i64 7), .lit (.int .i64 0)], .agg [.lit (.int .i64 (-1)), .lit (.int .i64 7), .lit (.int .i64 0)], .agg [.lit (.int .i64 (-1)), .lit (.int .i64 4), .lit (.int .i64 0)], .agg [.lit (.int .i64 (-1)), .lit (.int .i64 4), .lit (.int .i64 0)], .agg [.lit (.int .i64 (-1)), .lit (.int .i64 2), .lit (.int .i64 0)], .agg [.lit (.int .i64 (-1)), .lit (.int .i64 12), .lit (.int .i64 1)], .agg [.lit (.int .i64 (-1)), .lit (.int .i64 12), .lit (.int .i64 1)], .agg [.lit (.int .i64 (-1)), .lit (.int .i64 10), .lit (.int .i64 1)], .agg [.lit (.int .i64 (-1)), .lit (.int .i64 10), .lit (.int .i64 1)], .agg [.lit (.int .i64 (-1)), .lit (.int .i64 8), .lit (.int .i64 1)], .agg [.lit (.int .i64 (-1)), .lit (.int .i64 14), .lit (.int .i64 0)]]
def laid_unicode_utf8_acceptRanges {H : Type} : DataW H := .agg [.agg [.lit (.int .u8 128), .lit (.int .u8 191)], .agg [.lit (.int .u8 160), .lit (.int .u8 191)], .agg [.lit (.int .u8 128), .lit (.int .u8 159)], .agg [.lit (.int .u8 144), .lit (.int .u8 191)], .agg [.lit (.int .u8 128), .lit (.int .u8 143)], .agg [.lit (.int .u8 0), .lit (.int .u8 0)], .agg [.lit (.int .u8 0), .lit (.int .u8 0)], .agg [.lit (.int .u8 0), .lit (.int .u8 0)], .agg [.lit (.int .u8 0), .lit (.int .u8 0)], .agg [.lit (.int .u8 0), .lit (.int .u8 0)], .agg [.lit (.int .u8 0), .lit (.int .u8 0)], .agg [.lit (.int .u8 0), .lit (.int .u8 0)], .agg [.lit (.int .u8 0), .lit (.int .u8 0)], .agg [.lit (.int .u8 0), .lit (.int .u8 0)], .agg [.lit (.int .u8 0), .lit (.int .u8 0)], .agg [.lit (.int .u8 0), .lit (.int .u8 0)]]
/-- One of Go's own tables, pinned by name: the form's constant. -/
def laid_unicode_utf8_first : DataW Unit := Go.Pinned.utf8First

/-- 'rosterlaw08.EntryValues': WHATEVER THE INPUT: true; the input reads as it did. -/
def entryValuesSpec : ChangeSpec := { name := "entryValues", fn := fun _ => fun
  | [d1, d2] => { results := [.lit (.bool true)], args := [d1, d2] }
  | _ => none }
def entryValuesRow : OpenClaim := { program := "ytghjinhgloegaaadoor", sum := "b5f5df9507ceaeff74d5707292c5fec648117dc219ec160b02923e043b7c1f27", func := "roster/rosterlaw08.EntryValues", spec := "entryValues", inPlace := ["internal/bytealg.CountString", "internal/bytealg.IndexByteString", "internal/bytealg.IndexString"], unfollowed := true, recurses := true, named := ["unicode/utf8.first", "unicode/utf8.acceptRanges", "internal/bytealg.MaxLen", "roster/rosterref04.kinds"], apart := false, laid := [("roster/rosterref04.kinds", laid_roster_rosterref04_kinds), ("unicode/utf8.acceptRanges", laid_unicode_utf8_acceptRanges), ("unicode/utf8.first", laid_unicode_utf8_first)] }
def EntryValuesSaid : Prop := entryValuesRow.holds Tryd.pinned (OpenSpec.ofChange entryValuesSpec)

/-- ITS FALSE NEIGHBOUR: 'it returns false'. Refute it at one input. -/
def entryValuesWrong : ChangeSpec := { name := "entryValues", fn := fun _ => fun
  | [d1, d2] => { results := [.lit (.bool false)], args := [d1, d2] }
  | _ => none }
def EntryValuesWrongFalsely : Prop := entryValuesRow.holds Tryd.pinned (OpenSpec.ofChange entryValuesWrong)

/-- 'rosterlaw08.EntrySelect': WHATEVER THE INPUT: true; the input reads as it did. -/
def entrySelectSpec : ChangeSpec := { name := "entrySelect", fn := fun _ => fun
  | [d1, d2, d3] => { results := [.lit (.bool true)], args := [d1, d2, d3] }
  | _ => none }
def entrySelectRow : OpenClaim := { program := "ytghjinhgloegaaadoor", sum := "b5f5df9507ceaeff74d5707292c5fec648117dc219ec160b02923e043b7c1f27", func := "roster/rosterlaw08.EntrySelect", spec := "entrySelect", inPlace := ["internal/bytealg.CountString", "internal/bytealg.IndexByteString", "internal/bytealg.IndexString"], unfollowed := true, recurses := true, named := ["unicode/utf8.first", "unicode/utf8.acceptRanges", "internal/bytealg.MaxLen", "roster/rosterref04.kinds"], apart := false, laid := [("roster/rosterref04.kinds", laid_roster_rosterref04_kinds), ("unicode/utf8.acceptRanges", laid_unicode_utf8_acceptRanges), ("unicode/utf8.first", laid_unicode_utf8_first)] }
def EntrySelectSaid : Prop := entrySelectRow.holds Tryd.pinned (OpenSpec.ofChange entrySelectSpec)

/-- ITS FALSE NEIGHBOUR: 'it returns false'. Refute it at one input. -/
def entrySelectWrong : ChangeSpec := { name := "entrySelect", fn := fun _ => fun
  | [d1, d2, d3] => { results := [.lit (.bool false)], args := [d1, d2, d3] }
  | _ => none }
def EntrySelectWrongFalsely : Prop := entrySelectRow.holds Tryd.pinned (OpenSpec.ofChange entrySelectWrong)

/-- 'rosterlaw08.EntryWishes': WHATEVER THE INPUT: true; the input reads as it did. -/
def entryWishesSpec : ChangeSpec := { name := "entryWishes", fn := fun _ => fun
  | [d1, d2, d3] => { results := [.lit (.bool true)], args := [d1, d2, d3] }
  | _ => none }
def entryWishesRow : OpenClaim := { program := "ytghjinhgloegaaadoor", sum := "b5f5df9507ceaeff74d5707292c5fec648117dc219ec160b02923e043b7c1f27", func := "roster/rosterlaw08.EntryWishes", spec := "entryWishes", inPlace := ["internal/bytealg.CountString", "internal/bytealg.IndexByteString", "internal/bytealg.IndexString"], unfollowed := true, recurses := true, named := ["unicode/utf8.first", "unicode/utf8.acceptRanges", "internal/bytealg.MaxLen"], apart := false, laid := [("unicode/utf8.acceptRanges", laid_unicode_utf8_acceptRanges), ("unicode/utf8.first", laid_unicode_utf8_first)] }
def EntryWishesSaid : Prop := entryWishesRow.holds Tryd.pinned (OpenSpec.ofChange entryWishesSpec)

/-- ITS FALSE NEIGHBOUR: 'it returns false'. Refute it at one input. -/
def entryWishesWrong : ChangeSpec := { name := "entryWishes", fn := fun _ => fun
  | [d1, d2, d3] => { results := [.lit (.bool false)], args := [d1, d2, d3] }
  | _ => none }
def EntryWishesWrongFalsely : Prop := entryWishesRow.holds Tryd.pinned (OpenSpec.ofChange entryWishesWrong)

/-- 'rosterlaw08.EntryAll': WHATEVER THE INPUT: true; the input reads as it did. -/
def entryAllSpec : ChangeSpec := { name := "entryAll", fn := fun _ => fun
  | [d1, d2] => { results := [.lit (.bool true)], args := [d1, d2] }
  | _ => none }
def entryAllRow : OpenClaim := { program := "ytghjinhgloegaaadoor", sum := "b5f5df9507ceaeff74d5707292c5fec648117dc219ec160b02923e043b7c1f27", func := "roster/rosterlaw08.EntryAll", spec := "entryAll", inPlace := ["internal/bytealg.CountString", "internal/bytealg.IndexByteString", "internal/bytealg.IndexString", "internal/abi.NoEscape"], unfollowed := true, recurses := true, named := ["unicode/utf8.first", "unicode/utf8.acceptRanges", "internal/bytealg.MaxLen"], apart := false, laid := [("unicode/utf8.acceptRanges", laid_unicode_utf8_acceptRanges), ("unicode/utf8.first", laid_unicode_utf8_first)] }
def EntryAllSaid : Prop := entryAllRow.holds Tryd.pinned (OpenSpec.ofChange entryAllSpec)

/-- ITS FALSE NEIGHBOUR: 'it returns false'. Refute it at one input. -/
def entryAllWrong : ChangeSpec := { name := "entryAll", fn := fun _ => fun
  | [d1, d2] => { results := [.lit (.bool false)], args := [d1, d2] }
  | _ => none }
def EntryAllWrongFalsely : Prop := entryAllRow.holds Tryd.pinned (OpenSpec.ofChange entryAllWrong)

/- THE SECOND FORM. 'bulk': how many values and letters a reading holds, each counted each time it is reached (what is shared counts as often as it is met; a slice's spare places count too). A statement '..UptoSaid' is the law's where the arguments, and the package variables that the reading takes, are together of bulk at most 1048576: NARROWER than '..Said'. Prove '..Said' where nothing that the law and all that it calls make is longer than what came in: it says more and counts as full. Else prove '..UptoSaid'. A law counts once. -/
mutual
def uptoBulk {H : Type} : DataW H → Nat
  | .lit (.string bytes) => bytes.length + 1
  | .lit _ => 1
  | .nil => 1
  | .ptr d => uptoBulk d + 1
  | .slice elems spare => uptoBulkAll elems + uptoBulkAll spare + 1
  | .agg parts => uptoBulkAll parts + 1
  | .iface _ d => uptoBulk d + 1
  | .map entries => uptoBulkEntries entries + 1
  | .held _ => 1
def uptoBulkAll {H : Type} : List (DataW H) → Nat
  | [] => 0
  | d :: r => uptoBulk d + uptoBulkAll r
def uptoBulkEntries {H : Type} : List (Lit × DataW H) → Nat
  | [] => 0
  | x :: r => uptoBulkEntry x + uptoBulkEntries r
def uptoBulkEntry {H : Type} : Lit × DataW H → Nat
  | (.string bytes, d) => bytes.length + uptoBulk d + 1
  | (_, d) => uptoBulk d + 1
 end
def uptoSmall : (H : Type) → List (DataW H) → Bool := fun _ ds => decide (uptoBulkAll ds ≤ 1048576)
def OpenSpec.upto (s : _root_.Go.ChangeSpec) : _root_.Go.OpenSpec := { _root_.Go.OpenSpec.ofChange s with cond := some uptoSmall }

/-- 'rosterlaw08.EntryValues', WHERE WHAT IT READS IS OF BULK AT MOST 1048576: true; the input reads as it did. -/
def entryValuesUptoRow : OpenClaim := { program := "ytghjinhgloegaaadoor", sum := "b5f5df9507ceaeff74d5707292c5fec648117dc219ec160b02923e043b7c1f27", func := "roster/rosterlaw08.EntryValues", spec := "entryValues", inPlace := ["internal/bytealg.CountString", "internal/bytealg.IndexByteString", "internal/bytealg.IndexString"], unfollowed := true, recurses := true, named := ["unicode/utf8.first", "unicode/utf8.acceptRanges", "internal/bytealg.MaxLen", "roster/rosterref04.kinds"], apart := false, laid := [("roster/rosterref04.kinds", laid_roster_rosterref04_kinds), ("unicode/utf8.acceptRanges", laid_unicode_utf8_acceptRanges), ("unicode/utf8.first", laid_unicode_utf8_first)], narrowed := true }
def EntryValuesUptoSaid : Prop := entryValuesUptoRow.holds Tryd.pinned (OpenSpec.upto entryValuesSpec)

/-- 'rosterlaw08.EntrySelect', WHERE WHAT IT READS IS OF BULK AT MOST 1048576: true; the input reads as it did. -/
def entrySelectUptoRow : OpenClaim := { program := "ytghjinhgloegaaadoor", sum := "b5f5df9507ceaeff74d5707292c5fec648117dc219ec160b02923e043b7c1f27", func := "roster/rosterlaw08.EntrySelect", spec := "entrySelect", inPlace := ["internal/bytealg.CountString", "internal/bytealg.IndexByteString", "internal/bytealg.IndexString"], unfollowed := true, recurses := true, named := ["unicode/utf8.first", "unicode/utf8.acceptRanges", "internal/bytealg.MaxLen", "roster/rosterref04.kinds"], apart := false, laid := [("roster/rosterref04.kinds", laid_roster_rosterref04_kinds), ("unicode/utf8.acceptRanges", laid_unicode_utf8_acceptRanges), ("unicode/utf8.first", laid_unicode_utf8_first)], narrowed := true }
def EntrySelectUptoSaid : Prop := entrySelectUptoRow.holds Tryd.pinned (OpenSpec.upto entrySelectSpec)

/-- 'rosterlaw08.EntryWishes', WHERE WHAT IT READS IS OF BULK AT MOST 1048576: true; the input reads as it did. -/
def entryWishesUptoRow : OpenClaim := { program := "ytghjinhgloegaaadoor", sum := "b5f5df9507ceaeff74d5707292c5fec648117dc219ec160b02923e043b7c1f27", func := "roster/rosterlaw08.EntryWishes", spec := "entryWishes", inPlace := ["internal/bytealg.CountString", "internal/bytealg.IndexByteString", "internal/bytealg.IndexString"], unfollowed := true, recurses := true, named := ["unicode/utf8.first", "unicode/utf8.acceptRanges", "internal/bytealg.MaxLen"], apart := false, laid := [("unicode/utf8.acceptRanges", laid_unicode_utf8_acceptRanges), ("unicode/utf8.first", laid_unicode_utf8_first)], narrowed := true }
def EntryWishesUptoSaid : Prop := entryWishesUptoRow.holds Tryd.pinned (OpenSpec.upto entryWishesSpec)

/-- 'rosterlaw08.EntryAll', WHERE WHAT IT READS IS OF BULK AT MOST 1048576: true; the input reads as it did. -/
def entryAllUptoRow : OpenClaim := { program := "ytghjinhgloegaaadoor", sum := "b5f5df9507ceaeff74d5707292c5fec648117dc219ec160b02923e043b7c1f27", func := "roster/rosterlaw08.EntryAll", spec := "entryAll", inPlace := ["internal/bytealg.CountString", "internal/bytealg.IndexByteString", "internal/bytealg.IndexString", "internal/abi.NoEscape"], unfollowed := true, recurses := true, named := ["unicode/utf8.first", "unicode/utf8.acceptRanges", "internal/bytealg.MaxLen"], apart := false, laid := [("unicode/utf8.acceptRanges", laid_unicode_utf8_acceptRanges), ("unicode/utf8.first", laid_unicode_utf8_first)], narrowed := true }
def EntryAllUptoSaid : Prop := entryAllUptoRow.holds Tryd.pinned (OpenSpec.upto entryAllSpec)

end Rows
end Go.Proofs.YtghjinhgloegaaaDoor
