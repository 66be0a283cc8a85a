/- attr.rows and attr.later: the row that each of the numbers 0 to 61 gives. -/
import Derived.Test.YtghjinhgloegaaaDoorProg
import Derived.Test.YtghjinhgloegaaaDoorWWords
namespace Go.Proofs.YtghjinhgloegaaaDoor
open Go.RowKit Go.Proofs.YtghjinhgloegaaaDoorW.PrintWords
set_option linter.unusedVariables false
set_option linter.unusedSimpArgs false
structure RowT where
  nm : ByteArray
  al : List ByteArray
  oid : ByteArray
  sup : ByteArray
  syn : Int
  use : Int
def RowPost (w : World) (r : RowT) (e : Ending) (w' : World) : Prop := ∃ v, e = .returned (.agg #[.string r.nm, v, .string r.oid, .string r.sup, .int .i64 r.syn, .int .i64 r.use]) ∧ Kd.R Kd.string 9 w' w.heap.size (fun _ => True) v r.al ∧ Below w.heap.size w w'
theorem row_none (w : World) (nm oid sup : ByteArray) (syn use : Int) (o : Obj) : RowPost w ⟨nm, [], oid, sup, syn, use⟩ (.returned (.agg #[.string nm, .slice none 0 0, .string oid, .string sup, .int .i64 syn, .int .i64 use])) (w.alloc o) :=
  ⟨_, rfl, Kd.R_nil _ _ _ _ _, (Below.refl _ _).alloc (Nat.le_refl _) _⟩
theorem row_one (w : World) (nm x oid sup : ByteArray) (syn use : Int) (o : Obj) : RowPost w ⟨nm, [x], oid, sup, syn, use⟩ (.returned (.agg #[.string nm, .slice (some ⟨w.heap.size + 1, 0, none⟩) 1 1, .string oid, .string sup, .int .i64 syn, .int .i64 use])) ((w.alloc o).alloc (.cells #[.string x] 9)) := by
  refine ⟨_, rfl, ⟨fun k hk => trivial, [.string x], ⟨rfl, .inr ⟨w.heap.size + 1, 1, #[.string x], rfl, by omega, ?_, by simp, by simp [maxLen], rfl, rfl⟩⟩, ?_⟩, ((Below.refl _ _).alloc (Nat.le_refl _) _).alloc (by simp) _⟩
  · have := heap_alloc_new (w.alloc o) (.cells #[.string x] 9)
    simpa using this
  · exact (Reps.none _ 1).snoc (c := [.string x]) rfl rfl
def row0 : RowT := ⟨⟨#[111, 98, 106, 101, 99, 116, 99, 108, 97, 115, 115]⟩, [], ⟨#[50, 46, 53, 46, 52, 46, 48]⟩, ⟨#[]⟩, 11, 0⟩
def row1 : RowT := ⟨⟨#[97, 108, 105, 97, 115, 101, 100, 111, 98, 106, 101, 99, 116, 110, 97, 109, 101]⟩, [⟨#[97, 108, 105, 97, 115, 101, 100, 101, 110, 116, 114, 121, 110, 97, 109, 101]⟩], ⟨#[50, 46, 53, 46, 52, 46, 49]⟩, ⟨#[]⟩, 10, 0⟩
def row2 : RowT := ⟨⟨#[110, 97, 109, 101]⟩, [], ⟨#[50, 46, 53, 46, 52, 46, 52, 49]⟩, ⟨#[]⟩, 1, 0⟩
def row3 : RowT := ⟨⟨#[100, 105, 115, 116, 105, 110, 103, 117, 105, 115, 104, 101, 100, 110, 97, 109, 101]⟩, [], ⟨#[50, 46, 53, 46, 52, 46, 52, 57]⟩, ⟨#[]⟩, 10, 0⟩
def row4 : RowT := ⟨⟨#[99, 110]⟩, [⟨#[99, 111, 109, 109, 111, 110, 110, 97, 109, 101]⟩], ⟨#[50, 46, 53, 46, 52, 46, 51]⟩, ⟨#[110, 97, 109, 101]⟩, 1, 0⟩
def row5 : RowT := ⟨⟨#[115, 110]⟩, [⟨#[115, 117, 114, 110, 97, 109, 101]⟩], ⟨#[50, 46, 53, 46, 52, 46, 52]⟩, ⟨#[110, 97, 109, 101]⟩, 1, 0⟩
def row6 : RowT := ⟨⟨#[115, 101, 114, 105, 97, 108, 110, 117, 109, 98, 101, 114]⟩, [], ⟨#[50, 46, 53, 46, 52, 46, 53]⟩, ⟨#[]⟩, 1, 0⟩
def row7 : RowT := ⟨⟨#[99]⟩, [⟨#[99, 111, 117, 110, 116, 114, 121, 110, 97, 109, 101]⟩], ⟨#[50, 46, 53, 46, 52, 46, 54]⟩, ⟨#[110, 97, 109, 101]⟩, 1, 0⟩
def row8 : RowT := ⟨⟨#[108]⟩, [⟨#[108, 111, 99, 97, 108, 105, 116, 121, 110, 97, 109, 101]⟩], ⟨#[50, 46, 53, 46, 52, 46, 55]⟩, ⟨#[110, 97, 109, 101]⟩, 1, 0⟩
def row9 : RowT := ⟨⟨#[115, 116]⟩, [⟨#[115, 116, 97, 116, 101, 111, 114, 112, 114, 111, 118, 105, 110, 99, 101, 110, 97, 109, 101]⟩], ⟨#[50, 46, 53, 46, 52, 46, 56]⟩, ⟨#[110, 97, 109, 101]⟩, 1, 0⟩
def row10 : RowT := ⟨⟨#[115, 116, 114, 101, 101, 116]⟩, [⟨#[115, 116, 114, 101, 101, 116, 97, 100, 100, 114, 101, 115, 115]⟩], ⟨#[50, 46, 53, 46, 52, 46, 57]⟩, ⟨#[]⟩, 1, 0⟩
def row11 : RowT := ⟨⟨#[111]⟩, [⟨#[111, 114, 103, 97, 110, 105, 122, 97, 116, 105, 111, 110, 110, 97, 109, 101]⟩], ⟨#[50, 46, 53, 46, 52, 46, 49, 48]⟩, ⟨#[110, 97, 109, 101]⟩, 1, 0⟩
def row12 : RowT := ⟨⟨#[111, 117]⟩, [⟨#[111, 114, 103, 97, 110, 105, 122, 97, 116, 105, 111, 110, 97, 108, 117, 110, 105, 116, 110, 97, 109, 101]⟩], ⟨#[50, 46, 53, 46, 52, 46, 49, 49]⟩, ⟨#[110, 97, 109, 101]⟩, 1, 0⟩
def row13 : RowT := ⟨⟨#[116, 105, 116, 108, 101]⟩, [], ⟨#[50, 46, 53, 46, 52, 46, 49, 50]⟩, ⟨#[110, 97, 109, 101]⟩, 1, 0⟩
def row14 : RowT := ⟨⟨#[100, 101, 115, 99, 114, 105, 112, 116, 105, 111, 110]⟩, [], ⟨#[50, 46, 53, 46, 52, 46, 49, 51]⟩, ⟨#[]⟩, 1, 0⟩
def row15 : RowT := ⟨⟨#[98, 117, 115, 105, 110, 101, 115, 115, 99, 97, 116, 101, 103, 111, 114, 121]⟩, [], ⟨#[50, 46, 53, 46, 52, 46, 49, 53]⟩, ⟨#[]⟩, 1, 0⟩
def row16 : RowT := ⟨⟨#[112, 111, 115, 116, 97, 108, 97, 100, 100, 114, 101, 115, 115]⟩, [], ⟨#[50, 46, 53, 46, 52, 46, 49, 54]⟩, ⟨#[]⟩, 13, 0⟩
def row17 : RowT := ⟨⟨#[112, 111, 115, 116, 97, 108, 99, 111, 100, 101]⟩, [], ⟨#[50, 46, 53, 46, 52, 46, 49, 55]⟩, ⟨#[]⟩, 1, 0⟩
def row18 : RowT := ⟨⟨#[112, 111, 115, 116, 111, 102, 102, 105, 99, 101, 98, 111, 120]⟩, [], ⟨#[50, 46, 53, 46, 52, 46, 49, 56]⟩, ⟨#[]⟩, 1, 0⟩
def row19 : RowT := ⟨⟨#[112, 104, 121, 115, 105, 99, 97, 108, 100, 101, 108, 105, 118, 101, 114, 121, 111, 102, 102, 105, 99, 101, 110, 97, 109, 101]⟩, [], ⟨#[50, 46, 53, 46, 52, 46, 49, 57]⟩, ⟨#[]⟩, 1, 0⟩
def row20 : RowT := ⟨⟨#[116, 101, 108, 101, 112, 104, 111, 110, 101, 110, 117, 109, 98, 101, 114]⟩, [], ⟨#[50, 46, 53, 46, 52, 46, 50, 48]⟩, ⟨#[]⟩, 6, 0⟩
def row21 : RowT := ⟨⟨#[102, 97, 99, 115, 105, 109, 105, 108, 101, 116, 101, 108, 101, 112, 104, 111, 110, 101, 110, 117, 109, 98, 101, 114]⟩, [⟨#[102, 97, 120]⟩], ⟨#[50, 46, 53, 46, 52, 46, 50, 51]⟩, ⟨#[]⟩, 6, 0⟩
def row22 : RowT := ⟨⟨#[120, 49, 50, 49, 97, 100, 100, 114, 101, 115, 115]⟩, [], ⟨#[50, 46, 53, 46, 52, 46, 50, 52]⟩, ⟨#[]⟩, 5, 0⟩
def row23 : RowT := ⟨⟨#[105, 110, 116, 101, 114, 110, 97, 116, 105, 111, 110, 97, 108, 105, 115, 100, 110, 110, 117, 109, 98, 101, 114]⟩, [], ⟨#[50, 46, 53, 46, 52, 46, 50, 53]⟩, ⟨#[]⟩, 5, 0⟩
def row24 : RowT := ⟨⟨#[114, 101, 103, 105, 115, 116, 101, 114, 101, 100, 97, 100, 100, 114, 101, 115, 115]⟩, [], ⟨#[50, 46, 53, 46, 52, 46, 50, 54]⟩, ⟨#[112, 111, 115, 116, 97, 108, 97, 100, 100, 114, 101, 115, 115]⟩, 13, 0⟩
def row25 : RowT := ⟨⟨#[100, 101, 115, 116, 105, 110, 97, 116, 105, 111, 110, 105, 110, 100, 105, 99, 97, 116, 111, 114]⟩, [], ⟨#[50, 46, 53, 46, 52, 46, 50, 55]⟩, ⟨#[]⟩, 1, 0⟩
def row26 : RowT := ⟨⟨#[109, 101, 109, 98, 101, 114]⟩, [], ⟨#[50, 46, 53, 46, 52, 46, 51, 49]⟩, ⟨#[100, 105, 115, 116, 105, 110, 103, 117, 105, 115, 104, 101, 100, 110, 97, 109, 101]⟩, 10, 0⟩
def row27 : RowT := ⟨⟨#[111, 119, 110, 101, 114]⟩, [], ⟨#[50, 46, 53, 46, 52, 46, 51, 50]⟩, ⟨#[100, 105, 115, 116, 105, 110, 103, 117, 105, 115, 104, 101, 100, 110, 97, 109, 101]⟩, 10, 0⟩
def row28 : RowT := ⟨⟨#[114, 111, 108, 101, 111, 99, 99, 117, 112, 97, 110, 116]⟩, [], ⟨#[50, 46, 53, 46, 52, 46, 51, 51]⟩, ⟨#[100, 105, 115, 116, 105, 110, 103, 117, 105, 115, 104, 101, 100, 110, 97, 109, 101]⟩, 10, 0⟩
def row29 : RowT := ⟨⟨#[115, 101, 101, 97, 108, 115, 111]⟩, [], ⟨#[50, 46, 53, 46, 52, 46, 51, 52]⟩, ⟨#[100, 105, 115, 116, 105, 110, 103, 117, 105, 115, 104, 101, 100, 110, 97, 109, 101]⟩, 10, 0⟩
def row30 : RowT := ⟨⟨#[117, 115, 101, 114, 112, 97, 115, 115, 119, 111, 114, 100]⟩, [], ⟨#[50, 46, 53, 46, 52, 46, 51, 53]⟩, ⟨#[]⟩, 9, 0⟩
def row31 : RowT := ⟨⟨#[103, 105, 118, 101, 110, 110, 97, 109, 101]⟩, [⟨#[103, 110]⟩], ⟨#[50, 46, 53, 46, 52, 46, 52, 50]⟩, ⟨#[110, 97, 109, 101]⟩, 1, 0⟩
def row32 : RowT := ⟨⟨#[105, 110, 105, 116, 105, 97, 108, 115]⟩, [], ⟨#[50, 46, 53, 46, 52, 46, 52, 51]⟩, ⟨#[110, 97, 109, 101]⟩, 1, 0⟩
def row33 : RowT := ⟨⟨#[103, 101, 110, 101, 114, 97, 116, 105, 111, 110, 113, 117, 97, 108, 105, 102, 105, 101, 114]⟩, [], ⟨#[50, 46, 53, 46, 52, 46, 52, 52]⟩, ⟨#[110, 97, 109, 101]⟩, 1, 0⟩
def row34 : RowT := ⟨⟨#[100, 110, 113, 117, 97, 108, 105, 102, 105, 101, 114]⟩, [], ⟨#[50, 46, 53, 46, 52, 46, 52, 54]⟩, ⟨#[]⟩, 1, 0⟩
def row35 : RowT := ⟨⟨#[104, 111, 117, 115, 101, 105, 100, 101, 110, 116, 105, 102, 105, 101, 114]⟩, [], ⟨#[50, 46, 53, 46, 52, 46, 53, 49]⟩, ⟨#[]⟩, 1, 0⟩
def row36 : RowT := ⟨⟨#[99, 45, 108]⟩, [], ⟨#[50, 46, 53, 46, 52, 46, 55, 46, 49]⟩, ⟨#[108]⟩, 1, 0⟩
def row37 : RowT := ⟨⟨#[99, 45, 115, 116]⟩, [], ⟨#[50, 46, 53, 46, 52, 46, 56, 46, 49]⟩, ⟨#[115, 116]⟩, 1, 0⟩
def row38 : RowT := ⟨⟨#[99, 45, 111]⟩, [], ⟨#[50, 46, 53, 46, 52, 46, 49, 48, 46, 49]⟩, ⟨#[111]⟩, 1, 0⟩
def row39 : RowT := ⟨⟨#[99, 45, 111, 117]⟩, [], ⟨#[50, 46, 53, 46, 52, 46, 49, 49, 46, 49]⟩, ⟨#[111, 117]⟩, 1, 0⟩
def row40 : RowT := ⟨⟨#[117, 105, 100]⟩, [⟨#[117, 115, 101, 114, 105, 100]⟩], ⟨#[48, 46, 57, 46, 50, 51, 52, 50, 46, 49, 57, 50, 48, 48, 51, 48, 48, 46, 49, 48, 48, 46, 49, 46, 49]⟩, ⟨#[]⟩, 1, 0⟩
def row41 : RowT := ⟨⟨#[109, 97, 105, 108]⟩, [⟨#[114, 102, 99, 56, 50, 50, 109, 97, 105, 108, 98, 111, 120]⟩], ⟨#[48, 46, 57, 46, 50, 51, 52, 50, 46, 49, 57, 50, 48, 48, 51, 48, 48, 46, 49, 48, 48, 46, 49, 46, 51]⟩, ⟨#[]⟩, 3, 0⟩
def row42 : RowT := ⟨⟨#[114, 111, 111, 109, 110, 117, 109, 98, 101, 114]⟩, [], ⟨#[48, 46, 57, 46, 50, 51, 52, 50, 46, 49, 57, 50, 48, 48, 51, 48, 48, 46, 49, 48, 48, 46, 49, 46, 54]⟩, ⟨#[]⟩, 1, 0⟩
def row43 : RowT := ⟨⟨#[109, 97, 110, 97, 103, 101, 114]⟩, [], ⟨#[48, 46, 57, 46, 50, 51, 52, 50, 46, 49, 57, 50, 48, 48, 51, 48, 48, 46, 49, 48, 48, 46, 49, 46, 49, 48]⟩, ⟨#[]⟩, 10, 0⟩
def row44 : RowT := ⟨⟨#[104, 111, 109, 101, 112, 104, 111, 110, 101]⟩, [⟨#[104, 111, 109, 101, 116, 101, 108, 101, 112, 104, 111, 110, 101, 110, 117, 109, 98, 101, 114]⟩], ⟨#[48, 46, 57, 46, 50, 51, 52, 50, 46, 49, 57, 50, 48, 48, 51, 48, 48, 46, 49, 48, 48, 46, 49, 46, 50, 48]⟩, ⟨#[]⟩, 6, 0⟩
def row45 : RowT := ⟨⟨#[115, 101, 99, 114, 101, 116, 97, 114, 121]⟩, [], ⟨#[48, 46, 57, 46, 50, 51, 52, 50, 46, 49, 57, 50, 48, 48, 51, 48, 48, 46, 49, 48, 48, 46, 49, 46, 50, 49]⟩, ⟨#[]⟩, 10, 0⟩
def row46 : RowT := ⟨⟨#[100, 99]⟩, [⟨#[100, 111, 109, 97, 105, 110, 99, 111, 109, 112, 111, 110, 101, 110, 116]⟩], ⟨#[48, 46, 57, 46, 50, 51, 52, 50, 46, 49, 57, 50, 48, 48, 51, 48, 48, 46, 49, 48, 48, 46, 49, 46, 50, 53]⟩, ⟨#[]⟩, 3, 0⟩
def row47 : RowT := ⟨⟨#[109, 111, 98, 105, 108, 101]⟩, [⟨#[109, 111, 98, 105, 108, 101, 116, 101, 108, 101, 112, 104, 111, 110, 101, 110, 117, 109, 98, 101, 114]⟩], ⟨#[48, 46, 57, 46, 50, 51, 52, 50, 46, 49, 57, 50, 48, 48, 51, 48, 48, 46, 49, 48, 48, 46, 49, 46, 52, 49]⟩, ⟨#[]⟩, 6, 0⟩
def row48 : RowT := ⟨⟨#[112, 97, 103, 101, 114]⟩, [⟨#[112, 97, 103, 101, 114, 116, 101, 108, 101, 112, 104, 111, 110, 101, 110, 117, 109, 98, 101, 114]⟩], ⟨#[48, 46, 57, 46, 50, 51, 52, 50, 46, 49, 57, 50, 48, 48, 51, 48, 48, 46, 49, 48, 48, 46, 49, 46, 52, 50]⟩, ⟨#[]⟩, 6, 0⟩
def row49 : RowT := ⟨⟨#[101, 109, 112, 108, 111, 121, 101, 101, 110, 117, 109, 98, 101, 114]⟩, [], ⟨#[50, 46, 49, 54, 46, 56, 52, 48, 46, 49, 46, 49, 49, 51, 55, 51, 48, 46, 51, 46, 49, 46, 51]⟩, ⟨#[]⟩, 1, 0⟩
def row50 : RowT := ⟨⟨#[100, 105, 115, 112, 108, 97, 121, 110, 97, 109, 101]⟩, [], ⟨#[50, 46, 49, 54, 46, 56, 52, 48, 46, 49, 46, 49, 49, 51, 55, 51, 48, 46, 51, 46, 49, 46, 50, 52, 49]⟩, ⟨#[]⟩, 1, 0⟩
def row51 : RowT := ⟨⟨#[117, 105, 100, 110, 117, 109, 98, 101, 114]⟩, [], ⟨#[49, 46, 51, 46, 54, 46, 49, 46, 49, 46, 49, 46, 49, 46, 48]⟩, ⟨#[]⟩, 7, 0⟩
def row52 : RowT := ⟨⟨#[103, 105, 100, 110, 117, 109, 98, 101, 114]⟩, [], ⟨#[49, 46, 51, 46, 54, 46, 49, 46, 49, 46, 49, 46, 49, 46, 49]⟩, ⟨#[]⟩, 7, 0⟩
def row53 : RowT := ⟨⟨#[104, 111, 109, 101, 100, 105, 114, 101, 99, 116, 111, 114, 121]⟩, [], ⟨#[49, 46, 51, 46, 54, 46, 49, 46, 49, 46, 49, 46, 49, 46, 51]⟩, ⟨#[]⟩, 4, 0⟩
def row54 : RowT := ⟨⟨#[108, 111, 103, 105, 110, 115, 104, 101, 108, 108]⟩, [], ⟨#[49, 46, 51, 46, 54, 46, 49, 46, 49, 46, 49, 46, 49, 46, 52]⟩, ⟨#[]⟩, 4, 0⟩
def row55 : RowT := ⟨⟨#[108, 97, 98, 101, 108, 101, 100, 117, 114, 105]⟩, [], ⟨#[49, 46, 51, 46, 54, 46, 49, 46, 52, 46, 49, 46, 50, 53, 48, 46, 49, 46, 53, 55]⟩, ⟨#[]⟩, 2, 0⟩
def row56 : RowT := ⟨⟨#[99, 114, 101, 97, 116, 101, 116, 105, 109, 101, 115, 116, 97, 109, 112]⟩, [], ⟨#[50, 46, 53, 46, 49, 56, 46, 49]⟩, ⟨#[]⟩, 12, 1⟩
def row57 : RowT := ⟨⟨#[109, 111, 100, 105, 102, 121, 116, 105, 109, 101, 115, 116, 97, 109, 112]⟩, [], ⟨#[50, 46, 53, 46, 49, 56, 46, 50]⟩, ⟨#[]⟩, 12, 1⟩
def row58 : RowT := ⟨⟨#[99, 114, 101, 97, 116, 111, 114, 115, 110, 97, 109, 101]⟩, [], ⟨#[50, 46, 53, 46, 49, 56, 46, 51]⟩, ⟨#[]⟩, 10, 1⟩
def row59 : RowT := ⟨⟨#[109, 111, 100, 105, 102, 105, 101, 114, 115, 110, 97, 109, 101]⟩, [], ⟨#[50, 46, 53, 46, 49, 56, 46, 52]⟩, ⟨#[]⟩, 10, 1⟩
def row60 : RowT := ⟨⟨#[104, 97, 115, 115, 117, 98, 111, 114, 100, 105, 110, 97, 116, 101, 115]⟩, [], ⟨#[50, 46, 53, 46, 49, 56, 46, 57]⟩, ⟨#[]⟩, 8, 1⟩
def row61 : RowT := ⟨⟨#[120, 53, 48, 48, 117, 110, 105, 113, 117, 101, 105, 100, 101, 110, 116, 105, 102, 105, 101, 114]⟩, [], ⟨#[50, 46, 53, 46, 52, 46, 52, 53]⟩, ⟨#[]⟩, 14, 0⟩
set_option maxHeartbeats 4000000 in
set_option maxRecDepth 100000 in
theorem rows_0 (w : World) : Calls Tryd.prog 57 #[.int .i64 0] w (RowPost w row0) := by
  have hu := Tryd.underlying84
  go_enter Tryd.func57, Tryd.ntmps57
  go_wp2
  exact bodyPost_ret (v := .agg #[_, _, _, _, _, _]) (by simp [results, Tryd.results57, go_sem]) rfl (row_none _ _ _ _ _ _ _)
set_option maxHeartbeats 4000000 in
set_option maxRecDepth 100000 in
theorem rows_1 (w : World) : Calls Tryd.prog 57 #[.int .i64 1] w (RowPost w row1) := by
  have hu := Tryd.underlying84
  go_enter Tryd.func57, Tryd.ntmps57
  go_wp2
  exact bodyPost_ret (v := .agg #[_, _, _, _, _, _]) (by simp [results, Tryd.results57, go_sem]) rfl (row_one _ _ _ _ _ _ _ _)
set_option maxHeartbeats 4000000 in
set_option maxRecDepth 100000 in
theorem rows_2 (w : World) : Calls Tryd.prog 57 #[.int .i64 2] w (RowPost w row2) := by
  have hu := Tryd.underlying84
  go_enter Tryd.func57, Tryd.ntmps57
  go_wp2
  exact bodyPost_ret (v := .agg #[_, _, _, _, _, _]) (by simp [results, Tryd.results57, go_sem]) rfl (row_none _ _ _ _ _ _ _)
set_option maxHeartbeats 4000000 in
set_option maxRecDepth 100000 in
theorem rows_3 (w : World) : Calls Tryd.prog 57 #[.int .i64 3] w (RowPost w row3) := by
  have hu := Tryd.underlying84
  go_enter Tryd.func57, Tryd.ntmps57
  go_wp2
  exact bodyPost_ret (v := .agg #[_, _, _, _, _, _]) (by simp [results, Tryd.results57, go_sem]) rfl (row_none _ _ _ _ _ _ _)
set_option maxHeartbeats 4000000 in
set_option maxRecDepth 100000 in
theorem rows_4 (w : World) : Calls Tryd.prog 57 #[.int .i64 4] w (RowPost w row4) := by
  have hu := Tryd.underlying84
  go_enter Tryd.func57, Tryd.ntmps57
  go_wp2
  exact bodyPost_ret (v := .agg #[_, _, _, _, _, _]) (by simp [results, Tryd.results57, go_sem]) rfl (row_one _ _ _ _ _ _ _ _)
set_option maxHeartbeats 4000000 in
set_option maxRecDepth 100000 in
theorem rows_5 (w : World) : Calls Tryd.prog 57 #[.int .i64 5] w (RowPost w row5) := by
  have hu := Tryd.underlying84
  go_enter Tryd.func57, Tryd.ntmps57
  go_wp2
  exact bodyPost_ret (v := .agg #[_, _, _, _, _, _]) (by simp [results, Tryd.results57, go_sem]) rfl (row_one _ _ _ _ _ _ _ _)
set_option maxHeartbeats 4000000 in
set_option maxRecDepth 100000 in
theorem rows_6 (w : World) : Calls Tryd.prog 57 #[.int .i64 6] w (RowPost w row6) := by
  have hu := Tryd.underlying84
  go_enter Tryd.func57, Tryd.ntmps57
  go_wp2
  exact bodyPost_ret (v := .agg #[_, _, _, _, _, _]) (by simp [results, Tryd.results57, go_sem]) rfl (row_none _ _ _ _ _ _ _)
set_option maxHeartbeats 4000000 in
set_option maxRecDepth 100000 in
theorem rows_7 (w : World) : Calls Tryd.prog 57 #[.int .i64 7] w (RowPost w row7) := by
  have hu := Tryd.underlying84
  go_enter Tryd.func57, Tryd.ntmps57
  go_wp2
  exact bodyPost_ret (v := .agg #[_, _, _, _, _, _]) (by simp [results, Tryd.results57, go_sem]) rfl (row_one _ _ _ _ _ _ _ _)
set_option maxHeartbeats 4000000 in
set_option maxRecDepth 100000 in
theorem rows_8 (w : World) : Calls Tryd.prog 57 #[.int .i64 8] w (RowPost w row8) := by
  have hu := Tryd.underlying84
  go_enter Tryd.func57, Tryd.ntmps57
  go_wp2
  exact bodyPost_ret (v := .agg #[_, _, _, _, _, _]) (by simp [results, Tryd.results57, go_sem]) rfl (row_one _ _ _ _ _ _ _ _)
set_option maxHeartbeats 4000000 in
set_option maxRecDepth 100000 in
theorem rows_9 (w : World) : Calls Tryd.prog 57 #[.int .i64 9] w (RowPost w row9) := by
  have hu := Tryd.underlying84
  go_enter Tryd.func57, Tryd.ntmps57
  go_wp2
  exact bodyPost_ret (v := .agg #[_, _, _, _, _, _]) (by simp [results, Tryd.results57, go_sem]) rfl (row_one _ _ _ _ _ _ _ _)
set_option maxHeartbeats 4000000 in
set_option maxRecDepth 100000 in
theorem rows_10 (w : World) : Calls Tryd.prog 57 #[.int .i64 10] w (RowPost w row10) := by
  have hu := Tryd.underlying84
  go_enter Tryd.func57, Tryd.ntmps57
  go_wp2
  exact bodyPost_ret (v := .agg #[_, _, _, _, _, _]) (by simp [results, Tryd.results57, go_sem]) rfl (row_one _ _ _ _ _ _ _ _)
set_option maxHeartbeats 4000000 in
set_option maxRecDepth 100000 in
theorem rows_11 (w : World) : Calls Tryd.prog 57 #[.int .i64 11] w (RowPost w row11) := by
  have hu := Tryd.underlying84
  go_enter Tryd.func57, Tryd.ntmps57
  go_wp2
  exact bodyPost_ret (v := .agg #[_, _, _, _, _, _]) (by simp [results, Tryd.results57, go_sem]) rfl (row_one _ _ _ _ _ _ _ _)
set_option maxHeartbeats 4000000 in
set_option maxRecDepth 100000 in
theorem rows_12 (w : World) : Calls Tryd.prog 57 #[.int .i64 12] w (RowPost w row12) := by
  have hu := Tryd.underlying84
  go_enter Tryd.func57, Tryd.ntmps57
  go_wp2
  exact bodyPost_ret (v := .agg #[_, _, _, _, _, _]) (by simp [results, Tryd.results57, go_sem]) rfl (row_one _ _ _ _ _ _ _ _)
set_option maxHeartbeats 4000000 in
set_option maxRecDepth 100000 in
theorem rows_13 (w : World) : Calls Tryd.prog 57 #[.int .i64 13] w (RowPost w row13) := by
  have hu := Tryd.underlying84
  go_enter Tryd.func57, Tryd.ntmps57
  go_wp2
  exact bodyPost_ret (v := .agg #[_, _, _, _, _, _]) (by simp [results, Tryd.results57, go_sem]) rfl (row_none _ _ _ _ _ _ _)
set_option maxHeartbeats 4000000 in
set_option maxRecDepth 100000 in
theorem rows_14 (w : World) : Calls Tryd.prog 57 #[.int .i64 14] w (RowPost w row14) := by
  have hu := Tryd.underlying84
  go_enter Tryd.func57, Tryd.ntmps57
  go_wp2
  exact bodyPost_ret (v := .agg #[_, _, _, _, _, _]) (by simp [results, Tryd.results57, go_sem]) rfl (row_none _ _ _ _ _ _ _)
set_option maxHeartbeats 4000000 in
set_option maxRecDepth 100000 in
theorem rows_15 (w : World) : Calls Tryd.prog 57 #[.int .i64 15] w (RowPost w row15) := by
  have hu := Tryd.underlying84
  go_enter Tryd.func57, Tryd.ntmps57
  go_wp2
  exact bodyPost_ret (v := .agg #[_, _, _, _, _, _]) (by simp [results, Tryd.results57, go_sem]) rfl (row_none _ _ _ _ _ _ _)
set_option maxHeartbeats 4000000 in
set_option maxRecDepth 100000 in
theorem rows_16 (w : World) : Calls Tryd.prog 57 #[.int .i64 16] w (RowPost w row16) := by
  have hu := Tryd.underlying84
  go_enter Tryd.func57, Tryd.ntmps57
  go_wp2
  exact bodyPost_ret (v := .agg #[_, _, _, _, _, _]) (by simp [results, Tryd.results57, go_sem]) rfl (row_none _ _ _ _ _ _ _)
set_option maxHeartbeats 4000000 in
set_option maxRecDepth 100000 in
theorem rows_17 (w : World) : Calls Tryd.prog 57 #[.int .i64 17] w (RowPost w row17) := by
  have hu := Tryd.underlying84
  go_enter Tryd.func57, Tryd.ntmps57
  go_wp2
  exact bodyPost_ret (v := .agg #[_, _, _, _, _, _]) (by simp [results, Tryd.results57, go_sem]) rfl (row_none _ _ _ _ _ _ _)
set_option maxHeartbeats 4000000 in
set_option maxRecDepth 100000 in
theorem rows_18 (w : World) : Calls Tryd.prog 57 #[.int .i64 18] w (RowPost w row18) := by
  have hu := Tryd.underlying84
  go_enter Tryd.func57, Tryd.ntmps57
  go_wp2
  exact bodyPost_ret (v := .agg #[_, _, _, _, _, _]) (by simp [results, Tryd.results57, go_sem]) rfl (row_none _ _ _ _ _ _ _)
set_option maxHeartbeats 4000000 in
set_option maxRecDepth 100000 in
theorem rows_19 (w : World) : Calls Tryd.prog 57 #[.int .i64 19] w (RowPost w row19) := by
  have hu := Tryd.underlying84
  go_enter Tryd.func57, Tryd.ntmps57
  go_wp2
  exact bodyPost_ret (v := .agg #[_, _, _, _, _, _]) (by simp [results, Tryd.results57, go_sem]) rfl (row_none _ _ _ _ _ _ _)
set_option maxHeartbeats 4000000 in
set_option maxRecDepth 100000 in
theorem rows_20 (w : World) : Calls Tryd.prog 57 #[.int .i64 20] w (RowPost w row20) := by
  have hu := Tryd.underlying84
  go_enter Tryd.func57, Tryd.ntmps57
  go_wp2
  exact bodyPost_ret (v := .agg #[_, _, _, _, _, _]) (by simp [results, Tryd.results57, go_sem]) rfl (row_none _ _ _ _ _ _ _)
set_option maxHeartbeats 4000000 in
set_option maxRecDepth 100000 in
theorem rows_21 (w : World) : Calls Tryd.prog 57 #[.int .i64 21] w (RowPost w row21) := by
  have hu := Tryd.underlying84
  go_enter Tryd.func57, Tryd.ntmps57
  go_wp2
  exact bodyPost_ret (v := .agg #[_, _, _, _, _, _]) (by simp [results, Tryd.results57, go_sem]) rfl (row_one _ _ _ _ _ _ _ _)
set_option maxHeartbeats 4000000 in
set_option maxRecDepth 100000 in
theorem rows_22 (w : World) : Calls Tryd.prog 57 #[.int .i64 22] w (RowPost w row22) := by
  have hu := Tryd.underlying84
  go_enter Tryd.func57, Tryd.ntmps57
  go_wp2
  exact bodyPost_ret (v := .agg #[_, _, _, _, _, _]) (by simp [results, Tryd.results57, go_sem]) rfl (row_none _ _ _ _ _ _ _)
set_option maxHeartbeats 4000000 in
set_option maxRecDepth 100000 in
theorem rows_23 (w : World) : Calls Tryd.prog 57 #[.int .i64 23] w (RowPost w row23) := by
  have hu := Tryd.underlying84
  go_enter Tryd.func57, Tryd.ntmps57
  go_wp2
  exact bodyPost_ret (v := .agg #[_, _, _, _, _, _]) (by simp [results, Tryd.results57, go_sem]) rfl (row_none _ _ _ _ _ _ _)
set_option maxHeartbeats 4000000 in
set_option maxRecDepth 100000 in
theorem rows_24 (w : World) : Calls Tryd.prog 57 #[.int .i64 24] w (RowPost w row24) := by
  have hu := Tryd.underlying84
  go_enter Tryd.func57, Tryd.ntmps57
  go_wp2
  exact bodyPost_ret (v := .agg #[_, _, _, _, _, _]) (by simp [results, Tryd.results57, go_sem]) rfl (row_none _ _ _ _ _ _ _)
set_option maxHeartbeats 4000000 in
set_option maxRecDepth 100000 in
theorem rows_25 (w : World) : Calls Tryd.prog 57 #[.int .i64 25] w (RowPost w row25) := by
  have hu := Tryd.underlying84
  go_enter Tryd.func57, Tryd.ntmps57
  go_wp2
  exact bodyPost_ret (v := .agg #[_, _, _, _, _, _]) (by simp [results, Tryd.results57, go_sem]) rfl (row_none _ _ _ _ _ _ _)
set_option maxHeartbeats 4000000 in
set_option maxRecDepth 100000 in
theorem rows_26 (w : World) : Calls Tryd.prog 57 #[.int .i64 26] w (RowPost w row26) := by
  have hu := Tryd.underlying84
  go_enter Tryd.func57, Tryd.ntmps57
  go_wp2
  exact bodyPost_ret (v := .agg #[_, _, _, _, _, _]) (by simp [results, Tryd.results57, go_sem]) rfl (row_none _ _ _ _ _ _ _)
set_option maxHeartbeats 4000000 in
set_option maxRecDepth 100000 in
theorem rows_27 (w : World) : Calls Tryd.prog 57 #[.int .i64 27] w (RowPost w row27) := by
  have hu := Tryd.underlying84
  go_enter Tryd.func57, Tryd.ntmps57
  go_wp2
  exact bodyPost_ret (v := .agg #[_, _, _, _, _, _]) (by simp [results, Tryd.results57, go_sem]) rfl (row_none _ _ _ _ _ _ _)
set_option maxHeartbeats 4000000 in
set_option maxRecDepth 100000 in
theorem rows_28 (w : World) : Calls Tryd.prog 57 #[.int .i64 28] w (RowPost w row28) := by
  have hu := Tryd.underlying84
  go_enter Tryd.func57, Tryd.ntmps57
  go_wp2
  exact bodyPost_ret (v := .agg #[_, _, _, _, _, _]) (by simp [results, Tryd.results57, go_sem]) rfl (row_none _ _ _ _ _ _ _)
set_option maxHeartbeats 4000000 in
set_option maxRecDepth 100000 in
theorem rows_29 (w : World) : Calls Tryd.prog 57 #[.int .i64 29] w (RowPost w row29) := by
  have hu := Tryd.underlying84
  go_enter Tryd.func57, Tryd.ntmps57
  go_wp2
  exact bodyPost_ret (v := .agg #[_, _, _, _, _, _]) (by simp [results, Tryd.results57, go_sem]) rfl (row_none _ _ _ _ _ _ _)
set_option maxHeartbeats 4000000 in
set_option maxRecDepth 100000 in
theorem rows_30 (w : World) : Calls Tryd.prog 57 #[.int .i64 30] w (RowPost w row30) := by
  have hu := Tryd.underlying84
  go_enter Tryd.func57, Tryd.ntmps57
  go_wp2
  exact bodyPost_ret (v := .agg #[_, _, _, _, _, _]) (by simp [results, Tryd.results57, go_sem]) rfl (row_none _ _ _ _ _ _ _)
set_option maxHeartbeats 4000000 in
set_option maxRecDepth 100000 in
theorem later_31 (w : World) : Calls Tryd.prog 74 #[.int .i64 31] w (RowPost w row31) := by
  have hu := Tryd.underlying84
  go_enter Tryd.func74, Tryd.ntmps74
  go_wp2
  exact bodyPost_ret (v := .agg #[_, _, _, _, _, _]) (by simp [results, Tryd.results74, go_sem]) rfl (row_one _ _ _ _ _ _ _ _)
set_option maxHeartbeats 4000000 in
set_option maxRecDepth 100000 in
theorem later_32 (w : World) : Calls Tryd.prog 74 #[.int .i64 32] w (RowPost w row32) := by
  have hu := Tryd.underlying84
  go_enter Tryd.func74, Tryd.ntmps74
  go_wp2
  exact bodyPost_ret (v := .agg #[_, _, _, _, _, _]) (by simp [results, Tryd.results74, go_sem]) rfl (row_none _ _ _ _ _ _ _)
set_option maxHeartbeats 4000000 in
set_option maxRecDepth 100000 in
theorem later_33 (w : World) : Calls Tryd.prog 74 #[.int .i64 33] w (RowPost w row33) := by
  have hu := Tryd.underlying84
  go_enter Tryd.func74, Tryd.ntmps74
  go_wp2
  exact bodyPost_ret (v := .agg #[_, _, _, _, _, _]) (by simp [results, Tryd.results74, go_sem]) rfl (row_none _ _ _ _ _ _ _)
set_option maxHeartbeats 4000000 in
set_option maxRecDepth 100000 in
theorem later_34 (w : World) : Calls Tryd.prog 74 #[.int .i64 34] w (RowPost w row34) := by
  have hu := Tryd.underlying84
  go_enter Tryd.func74, Tryd.ntmps74
  go_wp2
  exact bodyPost_ret (v := .agg #[_, _, _, _, _, _]) (by simp [results, Tryd.results74, go_sem]) rfl (row_none _ _ _ _ _ _ _)
set_option maxHeartbeats 4000000 in
set_option maxRecDepth 100000 in
theorem later_35 (w : World) : Calls Tryd.prog 74 #[.int .i64 35] w (RowPost w row35) := by
  have hu := Tryd.underlying84
  go_enter Tryd.func74, Tryd.ntmps74
  go_wp2
  exact bodyPost_ret (v := .agg #[_, _, _, _, _, _]) (by simp [results, Tryd.results74, go_sem]) rfl (row_none _ _ _ _ _ _ _)
set_option maxHeartbeats 4000000 in
set_option maxRecDepth 100000 in
theorem later_36 (w : World) : Calls Tryd.prog 74 #[.int .i64 36] w (RowPost w row36) := by
  have hu := Tryd.underlying84
  go_enter Tryd.func74, Tryd.ntmps74
  go_wp2
  exact bodyPost_ret (v := .agg #[_, _, _, _, _, _]) (by simp [results, Tryd.results74, go_sem]) rfl (row_none _ _ _ _ _ _ _)
set_option maxHeartbeats 4000000 in
set_option maxRecDepth 100000 in
theorem later_37 (w : World) : Calls Tryd.prog 74 #[.int .i64 37] w (RowPost w row37) := by
  have hu := Tryd.underlying84
  go_enter Tryd.func74, Tryd.ntmps74
  go_wp2
  exact bodyPost_ret (v := .agg #[_, _, _, _, _, _]) (by simp [results, Tryd.results74, go_sem]) rfl (row_none _ _ _ _ _ _ _)
set_option maxHeartbeats 4000000 in
set_option maxRecDepth 100000 in
theorem later_38 (w : World) : Calls Tryd.prog 74 #[.int .i64 38] w (RowPost w row38) := by
  have hu := Tryd.underlying84
  go_enter Tryd.func74, Tryd.ntmps74
  go_wp2
  exact bodyPost_ret (v := .agg #[_, _, _, _, _, _]) (by simp [results, Tryd.results74, go_sem]) rfl (row_none _ _ _ _ _ _ _)
set_option maxHeartbeats 4000000 in
set_option maxRecDepth 100000 in
theorem later_39 (w : World) : Calls Tryd.prog 74 #[.int .i64 39] w (RowPost w row39) := by
  have hu := Tryd.underlying84
  go_enter Tryd.func74, Tryd.ntmps74
  go_wp2
  exact bodyPost_ret (v := .agg #[_, _, _, _, _, _]) (by simp [results, Tryd.results74, go_sem]) rfl (row_none _ _ _ _ _ _ _)
set_option maxHeartbeats 4000000 in
set_option maxRecDepth 100000 in
theorem later_40 (w : World) : Calls Tryd.prog 74 #[.int .i64 40] w (RowPost w row40) := by
  have hu := Tryd.underlying84
  go_enter Tryd.func74, Tryd.ntmps74
  go_wp2
  exact bodyPost_ret (v := .agg #[_, _, _, _, _, _]) (by simp [results, Tryd.results74, go_sem]) rfl (row_one _ _ _ _ _ _ _ _)
set_option maxHeartbeats 4000000 in
set_option maxRecDepth 100000 in
theorem later_41 (w : World) : Calls Tryd.prog 74 #[.int .i64 41] w (RowPost w row41) := by
  have hu := Tryd.underlying84
  go_enter Tryd.func74, Tryd.ntmps74
  go_wp2
  exact bodyPost_ret (v := .agg #[_, _, _, _, _, _]) (by simp [results, Tryd.results74, go_sem]) rfl (row_one _ _ _ _ _ _ _ _)
set_option maxHeartbeats 4000000 in
set_option maxRecDepth 100000 in
theorem later_42 (w : World) : Calls Tryd.prog 74 #[.int .i64 42] w (RowPost w row42) := by
  have hu := Tryd.underlying84
  go_enter Tryd.func74, Tryd.ntmps74
  go_wp2
  exact bodyPost_ret (v := .agg #[_, _, _, _, _, _]) (by simp [results, Tryd.results74, go_sem]) rfl (row_none _ _ _ _ _ _ _)
set_option maxHeartbeats 4000000 in
set_option maxRecDepth 100000 in
theorem later_43 (w : World) : Calls Tryd.prog 74 #[.int .i64 43] w (RowPost w row43) := by
  have hu := Tryd.underlying84
  go_enter Tryd.func74, Tryd.ntmps74
  go_wp2
  exact bodyPost_ret (v := .agg #[_, _, _, _, _, _]) (by simp [results, Tryd.results74, go_sem]) rfl (row_none _ _ _ _ _ _ _)
set_option maxHeartbeats 4000000 in
set_option maxRecDepth 100000 in
theorem later_44 (w : World) : Calls Tryd.prog 74 #[.int .i64 44] w (RowPost w row44) := by
  have hu := Tryd.underlying84
  go_enter Tryd.func74, Tryd.ntmps74
  go_wp2
  exact bodyPost_ret (v := .agg #[_, _, _, _, _, _]) (by simp [results, Tryd.results74, go_sem]) rfl (row_one _ _ _ _ _ _ _ _)
set_option maxHeartbeats 4000000 in
set_option maxRecDepth 100000 in
theorem later_45 (w : World) : Calls Tryd.prog 74 #[.int .i64 45] w (RowPost w row45) := by
  have hu := Tryd.underlying84
  go_enter Tryd.func74, Tryd.ntmps74
  go_wp2
  exact bodyPost_ret (v := .agg #[_, _, _, _, _, _]) (by simp [results, Tryd.results74, go_sem]) rfl (row_none _ _ _ _ _ _ _)
set_option maxHeartbeats 4000000 in
set_option maxRecDepth 100000 in
theorem later_46 (w : World) : Calls Tryd.prog 74 #[.int .i64 46] w (RowPost w row46) := by
  have hu := Tryd.underlying84
  go_enter Tryd.func74, Tryd.ntmps74
  go_wp2
  exact bodyPost_ret (v := .agg #[_, _, _, _, _, _]) (by simp [results, Tryd.results74, go_sem]) rfl (row_one _ _ _ _ _ _ _ _)
set_option maxHeartbeats 4000000 in
set_option maxRecDepth 100000 in
theorem later_47 (w : World) : Calls Tryd.prog 74 #[.int .i64 47] w (RowPost w row47) := by
  have hu := Tryd.underlying84
  go_enter Tryd.func74, Tryd.ntmps74
  go_wp2
  exact bodyPost_ret (v := .agg #[_, _, _, _, _, _]) (by simp [results, Tryd.results74, go_sem]) rfl (row_one _ _ _ _ _ _ _ _)
set_option maxHeartbeats 4000000 in
set_option maxRecDepth 100000 in
theorem later_48 (w : World) : Calls Tryd.prog 74 #[.int .i64 48] w (RowPost w row48) := by
  have hu := Tryd.underlying84
  go_enter Tryd.func74, Tryd.ntmps74
  go_wp2
  exact bodyPost_ret (v := .agg #[_, _, _, _, _, _]) (by simp [results, Tryd.results74, go_sem]) rfl (row_one _ _ _ _ _ _ _ _)
set_option maxHeartbeats 4000000 in
set_option maxRecDepth 100000 in
theorem later_49 (w : World) : Calls Tryd.prog 74 #[.int .i64 49] w (RowPost w row49) := by
  have hu := Tryd.underlying84
  go_enter Tryd.func74, Tryd.ntmps74
  go_wp2
  exact bodyPost_ret (v := .agg #[_, _, _, _, _, _]) (by simp [results, Tryd.results74, go_sem]) rfl (row_none _ _ _ _ _ _ _)
set_option maxHeartbeats 4000000 in
set_option maxRecDepth 100000 in
theorem later_50 (w : World) : Calls Tryd.prog 74 #[.int .i64 50] w (RowPost w row50) := by
  have hu := Tryd.underlying84
  go_enter Tryd.func74, Tryd.ntmps74
  go_wp2
  exact bodyPost_ret (v := .agg #[_, _, _, _, _, _]) (by simp [results, Tryd.results74, go_sem]) rfl (row_none _ _ _ _ _ _ _)
set_option maxHeartbeats 4000000 in
set_option maxRecDepth 100000 in
theorem later_51 (w : World) : Calls Tryd.prog 74 #[.int .i64 51] w (RowPost w row51) := by
  have hu := Tryd.underlying84
  go_enter Tryd.func74, Tryd.ntmps74
  go_wp2
  exact bodyPost_ret (v := .agg #[_, _, _, _, _, _]) (by simp [results, Tryd.results74, go_sem]) rfl (row_none _ _ _ _ _ _ _)
set_option maxHeartbeats 4000000 in
set_option maxRecDepth 100000 in
theorem later_52 (w : World) : Calls Tryd.prog 74 #[.int .i64 52] w (RowPost w row52) := by
  have hu := Tryd.underlying84
  go_enter Tryd.func74, Tryd.ntmps74
  go_wp2
  exact bodyPost_ret (v := .agg #[_, _, _, _, _, _]) (by simp [results, Tryd.results74, go_sem]) rfl (row_none _ _ _ _ _ _ _)
set_option maxHeartbeats 4000000 in
set_option maxRecDepth 100000 in
theorem later_53 (w : World) : Calls Tryd.prog 74 #[.int .i64 53] w (RowPost w row53) := by
  have hu := Tryd.underlying84
  go_enter Tryd.func74, Tryd.ntmps74
  go_wp2
  exact bodyPost_ret (v := .agg #[_, _, _, _, _, _]) (by simp [results, Tryd.results74, go_sem]) rfl (row_none _ _ _ _ _ _ _)
set_option maxHeartbeats 4000000 in
set_option maxRecDepth 100000 in
theorem later_54 (w : World) : Calls Tryd.prog 74 #[.int .i64 54] w (RowPost w row54) := by
  have hu := Tryd.underlying84
  go_enter Tryd.func74, Tryd.ntmps74
  go_wp2
  exact bodyPost_ret (v := .agg #[_, _, _, _, _, _]) (by simp [results, Tryd.results74, go_sem]) rfl (row_none _ _ _ _ _ _ _)
set_option maxHeartbeats 4000000 in
set_option maxRecDepth 100000 in
theorem later_55 (w : World) : Calls Tryd.prog 74 #[.int .i64 55] w (RowPost w row55) := by
  have hu := Tryd.underlying84
  go_enter Tryd.func74, Tryd.ntmps74
  go_wp2
  exact bodyPost_ret (v := .agg #[_, _, _, _, _, _]) (by simp [results, Tryd.results74, go_sem]) rfl (row_none _ _ _ _ _ _ _)
set_option maxHeartbeats 4000000 in
set_option maxRecDepth 100000 in
theorem later_56 (w : World) : Calls Tryd.prog 74 #[.int .i64 56] w (RowPost w row56) := by
  have hu := Tryd.underlying84
  go_enter Tryd.func74, Tryd.ntmps74
  go_wp2
  exact bodyPost_ret (v := .agg #[_, _, _, _, _, _]) (by simp [results, Tryd.results74, go_sem]) rfl (row_none _ _ _ _ _ _ _)
set_option maxHeartbeats 4000000 in
set_option maxRecDepth 100000 in
theorem later_57 (w : World) : Calls Tryd.prog 74 #[.int .i64 57] w (RowPost w row57) := by
  have hu := Tryd.underlying84
  go_enter Tryd.func74, Tryd.ntmps74
  go_wp2
  exact bodyPost_ret (v := .agg #[_, _, _, _, _, _]) (by simp [results, Tryd.results74, go_sem]) rfl (row_none _ _ _ _ _ _ _)
set_option maxHeartbeats 4000000 in
set_option maxRecDepth 100000 in
theorem later_58 (w : World) : Calls Tryd.prog 74 #[.int .i64 58] w (RowPost w row58) := by
  have hu := Tryd.underlying84
  go_enter Tryd.func74, Tryd.ntmps74
  go_wp2
  exact bodyPost_ret (v := .agg #[_, _, _, _, _, _]) (by simp [results, Tryd.results74, go_sem]) rfl (row_none _ _ _ _ _ _ _)
set_option maxHeartbeats 4000000 in
set_option maxRecDepth 100000 in
theorem later_59 (w : World) : Calls Tryd.prog 74 #[.int .i64 59] w (RowPost w row59) := by
  have hu := Tryd.underlying84
  go_enter Tryd.func74, Tryd.ntmps74
  go_wp2
  exact bodyPost_ret (v := .agg #[_, _, _, _, _, _]) (by simp [results, Tryd.results74, go_sem]) rfl (row_none _ _ _ _ _ _ _)
set_option maxHeartbeats 4000000 in
set_option maxRecDepth 100000 in
theorem later_60 (w : World) : Calls Tryd.prog 74 #[.int .i64 60] w (RowPost w row60) := by
  have hu := Tryd.underlying84
  go_enter Tryd.func74, Tryd.ntmps74
  go_wp2
  exact bodyPost_ret (v := .agg #[_, _, _, _, _, _]) (by simp [results, Tryd.results74, go_sem]) rfl (row_none _ _ _ _ _ _ _)
set_option maxHeartbeats 4000000 in
set_option maxRecDepth 100000 in
theorem later_61 (w : World) : Calls Tryd.prog 74 #[.int .i64 61] w (RowPost w row61) := by
  have hu := Tryd.underlying84
  go_enter Tryd.func74, Tryd.ntmps74
  go_wp2
  exact bodyPost_ret (v := .agg #[_, _, _, _, _, _]) (by simp [results, Tryd.results74, go_sem]) rfl (row_none _ _ _ _ _ _ _)
theorem R_setLow {α : Type} {d : Kd α} {e : Nat} {w : World} {base : Nat} {ok : Nat → Prop} {v : Value} {xs : List α} (h : d.R e w base ok v xs) {g : Nat} (hg : g < base) (j : Nat) (u : Value) : d.R e (w.setCell ⟨g, j, none⟩ u) base ok v xs :=
  Kd.R_mono (Kd.R_far (p := ⟨g, j, none⟩) (Kd.R_bound h) (fun k hk => by have := hk.2.1; show k ≠ g; omega) u) (fun _ hk => hk.1)
theorem block_kept {w w1 : World} {o : Obj} (hb : Below (w.alloc o).heap.size (w.alloc o) w1) : w1.heap[w.heap.size]? = some o := (hb.block w.heap.size (by simp)).trans (heap_alloc_new w o)
theorem cell_of {w : World} {g : Nat} {cs : Array Value} {t : TypeId} (h : w.heap[g]? = some (.cells cs t (0, 0))) (j : Nat) : w.cell? ⟨g, j, none⟩ = cs[j]? := by simp [World.cell?, h]
set_option maxHeartbeats 4000000 in
set_option maxRecDepth 100000 in
theorem rows_high (i : Int) (h : 31 ≤ i) (r : RowT) (hl : ∀ w, Calls Tryd.prog 74 #[.int .i64 i] w (RowPost w r)) (w : World) : Calls Tryd.prog 57 #[.int .i64 i] w (RowPost w r) := by
  have hu := Tryd.underlying84
  go_enter Tryd.func57, Tryd.ntmps57
  go_wp2_with (go_at_call 74; refine (hl _).mono ?_; rintro e w1 ⟨v, rfl, hv, hb⟩; obtain ⟨A0, c0, rfl⟩ := Kd.R_slice hv; have hblk := block_kept hb; have q0 := cell_of hblk 0; have q1 := cell_of hblk 1; have q2 := cell_of hblk 2; have q3 := cell_of hblk 3; have q4 := cell_of hblk 4; have q5 := cell_of hblk 5; have qf := fun j => frozen_of_row w1 w.heap.size j _ _ hblk)
  refine bodyPost_ret (results_cell_row rfl _ _ w.heap.size 84 _ (0, 0) _ rfl (blk_set (blk_set (blk_set (blk_set (blk_set (blk_set hblk _ _) _ _) _ _) _ _) _ _) _ _) hu rfl (by kernel_rfl)) rfl ⟨_, rfl, ?_, ?_⟩
  · have hg : w.heap.size < (w.alloc (.cells #[.string ⟨#[]⟩, .slice none 0 0, .string ⟨#[]⟩, .string ⟨#[]⟩, .int .i64 0, .int .i64 0] 84)).heap.size := by simp
    exact Kd.R_lower (R_setLow (R_setLow (R_setLow (R_setLow (R_setLow (R_setLow hv hg _ _) hg _ _) hg _ _) hg _ _) hg _ _) hg _ _) (Nat.le_of_lt hg)
  · have hb2 := ((Below.refl w.heap.size w).alloc (Nat.le_refl _) _).trans (hb.mono (by simp))
    exact (((((hb2.setCell (Nat.le_refl _) _).setCell (Nat.le_refl _) _).setCell (Nat.le_refl _) _).setCell (Nat.le_refl _) _).setCell (Nat.le_refl _) _).setCell (Nat.le_refl _) _
def rowTab : List RowT := [row0, row1, row2, row3, row4, row5, row6, row7, row8, row9, row10, row11, row12, row13, row14, row15, row16, row17, row18, row19, row20, row21, row22, row23, row24, row25, row26, row27, row28, row29, row30, row31, row32, row33, row34, row35, row36, row37, row38, row39, row40, row41, row42, row43, row44, row45, row46, row47, row48, row49, row50, row51, row52, row53, row54, row55, row56, row57, row58, row59, row60, row61]
def rowAt (i : Nat) : RowT := rowTab.getD i row0
theorem attr_rows (i : Nat) (hi : i < 62) (w : World) : Calls Tryd.prog 57 #[.int .i64 i] w (RowPost w (rowAt i)) :=
  match i, hi with
  | 0, _ => rows_0 w
  | 1, _ => rows_1 w
  | 2, _ => rows_2 w
  | 3, _ => rows_3 w
  | 4, _ => rows_4 w
  | 5, _ => rows_5 w
  | 6, _ => rows_6 w
  | 7, _ => rows_7 w
  | 8, _ => rows_8 w
  | 9, _ => rows_9 w
  | 10, _ => rows_10 w
  | 11, _ => rows_11 w
  | 12, _ => rows_12 w
  | 13, _ => rows_13 w
  | 14, _ => rows_14 w
  | 15, _ => rows_15 w
  | 16, _ => rows_16 w
  | 17, _ => rows_17 w
  | 18, _ => rows_18 w
  | 19, _ => rows_19 w
  | 20, _ => rows_20 w
  | 21, _ => rows_21 w
  | 22, _ => rows_22 w
  | 23, _ => rows_23 w
  | 24, _ => rows_24 w
  | 25, _ => rows_25 w
  | 26, _ => rows_26 w
  | 27, _ => rows_27 w
  | 28, _ => rows_28 w
  | 29, _ => rows_29 w
  | 30, _ => rows_30 w
  | 31, _ => rows_high 31 (by decide) _ later_31 w
  | 32, _ => rows_high 32 (by decide) _ later_32 w
  | 33, _ => rows_high 33 (by decide) _ later_33 w
  | 34, _ => rows_high 34 (by decide) _ later_34 w
  | 35, _ => rows_high 35 (by decide) _ later_35 w
  | 36, _ => rows_high 36 (by decide) _ later_36 w
  | 37, _ => rows_high 37 (by decide) _ later_37 w
  | 38, _ => rows_high 38 (by decide) _ later_38 w
  | 39, _ => rows_high 39 (by decide) _ later_39 w
  | 40, _ => rows_high 40 (by decide) _ later_40 w
  | 41, _ => rows_high 41 (by decide) _ later_41 w
  | 42, _ => rows_high 42 (by decide) _ later_42 w
  | 43, _ => rows_high 43 (by decide) _ later_43 w
  | 44, _ => rows_high 44 (by decide) _ later_44 w
  | 45, _ => rows_high 45 (by decide) _ later_45 w
  | 46, _ => rows_high 46 (by decide) _ later_46 w
  | 47, _ => rows_high 47 (by decide) _ later_47 w
  | 48, _ => rows_high 48 (by decide) _ later_48 w
  | 49, _ => rows_high 49 (by decide) _ later_49 w
  | 50, _ => rows_high 50 (by decide) _ later_50 w
  | 51, _ => rows_high 51 (by decide) _ later_51 w
  | 52, _ => rows_high 52 (by decide) _ later_52 w
  | 53, _ => rows_high 53 (by decide) _ later_53 w
  | 54, _ => rows_high 54 (by decide) _ later_54 w
  | 55, _ => rows_high 55 (by decide) _ later_55 w
  | 56, _ => rows_high 56 (by decide) _ later_56 w
  | 57, _ => rows_high 57 (by decide) _ later_57 w
  | 58, _ => rows_high 58 (by decide) _ later_58 w
  | 59, _ => rows_high 59 (by decide) _ later_59 w
  | 60, _ => rows_high 60 (by decide) _ later_60 w
  | 61, _ => rows_high 61 (by decide) _ later_61 w
  | n + 62, h => absurd h (by omega)
end Go.Proofs.YtghjinhgloegaaaDoor
