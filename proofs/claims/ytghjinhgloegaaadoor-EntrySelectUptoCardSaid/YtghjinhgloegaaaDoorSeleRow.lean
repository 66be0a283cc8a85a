/- WHAT IS PROVED: roster/rosterlaw08.EntrySelect returns true and leaves its input as it was, for every entry and every list of texts of together at most 1048576 values and letters and for both forms of the answer (with values and without). Conditions: none beyond the statement. -/
import Derived.Test.YtghjinhgloegaaaDoorSele
import Derived.Test.YtghjinhgloegaaaDoorOpen2
import Derived.Test.YtghjinhgloegaaaDoorCards
import Derived.Test.YtghjinhgloegaaaDoorTie
import Derived.WalkKit
import Derived.ProofKit
import Derived.OpenShut
import Derived.Deep.DeepHandedRow
import Derived.Lib.LaidTab
import Derived.Deep.Modes
namespace Go.Proofs.YtghjinhgloegaaaDoor.entrySelect
open Go.ChangeShapes Go.WideShapes Go.ChangeAt Go.RowKit Go.Joins
set_option linter.unusedVariables false
set_option linter.unusedSimpArgs false

theorem own : ownKnob Tryd.prog.godebug = none := by kernel_rfl
theorem laidOut : laidOutB Tryd.prog = true := by kernel_rfl

set_option maxRecDepth 100000 in
/-- WHAT THE WALK GIVES. -/
theorem contract (H : Type) (enc : TypeId × Value → H) (W : World) (base : Nat) (args : Array Value) (ds gs : List (DataW H)) (before : List MemPlace)
    (hval : ∀ (j : Nat) t v, Tryd.f4.params[j]? = some t → args[j]? = some v → Value.okWide Tryd.prog W .any base t v)
    (hW : DataW.Whole enc Tryd.prog Tryd.f4.params.toList Rows.entrySelectSpec.vars false W args.toList ds gs before) (hk : Rows.uptoSmall H (ds ++ gs) = true) (hL : laidMet Tryd.prog Rows.entrySelectUptoRow.laid W) (hsh : W.ShapedOpen Tryd.prog) :
    Calls Tryd.prog 4 args W fun e W' => ∃ v, e = .returned v ∧ Rows.entrySelectSpec.post enc Tryd.prog Tryd.f4 false true false false W args v W' := by
  have hW' := hW
  obtain ⟨p, q, hA0, hV, rfl, hfz, hnd⟩ := hW
  have hA : DataW.TrodAll enc Tryd.prog W 0 (fun _ => true) true Tryd.f4.params.toList args.toList ds p := hA0
  rw [Tryd.params4] at hA hval
  obtain ⟨v0, v1, v2, d0, d1, d2, p0, p1, p2, rfl, rfl, rfl, h0, h1, h2⟩ := trodAll_three hA
  obtain ⟨rfl, rfl⟩ := trodVars_none hV
  obtain ⟨u0, u1, u2, u3, y0, y1, y2, y3, n0, rfl, rfl, hp0, g0, g1, g2, g3⟩ := open_agg4 Tryd.underlying25 (by kernel_rfl) (by kernel_rfl) (hval 0 25 v0 rfl rfl) h0
  have h0k : DataW.Trod enc Tryd.prog W 0 (fun _ => true) true 25 (.agg #[u0, u1, u2, u3]) (.agg [y0.1, y1.1, y2.1, y3.1]) p0 := h0
  have h1k := h1
  have h2k := h2
  obtain ⟨line, e0, r0, _⟩ := DataW.trod_int Tryd.underlying3 g0
  obtain ⟨name, e1, r1, _⟩ := DataW.trod_string Tryd.underlying9 g1
  obtain rfl : u0 = .int .i64 line := by simpa using e0
  obtain rfl : u1 = .string name := by simpa using e1
  have g2' : DataW.trod enc Tryd.prog W 0 (fun _ => true) true n0 22 [u2] = some (y2.1, y2.2) := g2
  have g3' : DataW.trod enc Tryd.prog W 0 (fun _ => true) true n0 23 [u3] = some (y3.1, y3.2) := g3
  obtain ⟨K1, c1, key, rfl, gK, hK, sK, _⟩ := open_texts g2'
  obtain ⟨AA, ca, attrs, rfl, gA, hAt, sA, sA2, sA3⟩ := open_attrs2 g3'
  obtain ⟨a1, l1, k1, rfl⟩ := okWide_slice Tryd.underlying22 (hval 1 22 v1 rfl rfl)
  obtain ⟨f1, hf1⟩ := h1
  have hf1' : DataW.trod enc Tryd.prog W 0 (fun _ => true) true f1 22 [.slice a1 l1 k1] = some (d1, p1) := hf1
  obtain ⟨AW, cw, wanted, ea, gW, hWt, sW, sW2⟩ := open_texts hf1'
  obtain ⟨ty, rfl, ry⟩ := open_bool Tryd.underlying4 (hval 2 4 v2 rfl rfl) h2
  simp only [List.append_nil] at hW' hk
  have hbd := bulks.bound hk
  have b0 := bulks.part_le (H := H) (d := .agg [y0.1, y1.1, y2.1, y3.1]) (l := [.agg [y0.1, y1.1, y2.1, y3.1], d1, d2]) (by simp)
  have b1 := bulks.part_le (H := H) (d := d1) (l := [.agg [y0.1, y1.1, y2.1, y3.1], d1, d2]) (by simp)
  have b3 := bulks.part_le (H := H) (d := y2.1) (l := [y0.1, y1.1, y2.1, y3.1]) (by simp)
  have b4 := bulks.part_le (H := H) (d := y3.1) (l := [y0.1, y1.1, y2.1, y3.1]) (by simp)
  have b5 : Rows.uptoBulk (DataW.agg [y0.1, y1.1, y2.1, y3.1]) = Rows.uptoBulkAll [y0.1, y1.1, y2.1, y3.1] + 1 := by simp only [Rows.uptoBulk]
  have hlt : ∀ x ∈ p0 ++ p1 ++ p2, x.block < W.heap.size := fun x hx => hW'.lt x hx
  rw [ea]
  refine (law_Select line name K1 key.length c1 key AA attrs.length ca attrs AW wanted.length cw wanted ty W hK gK (by omega) hAt gA ⟨by omega, fun x hx => by have := sA2 x hx; omega⟩ (fun x hx => by have := sA2 x hx; omega) hWt gW ⟨by omega, fun x hx => by have := sW2 x hx; omega⟩ (fun x hx => by have := sW2 x hx; omega) (maxAt_of hsh) (kindsAt_of hL)).mono ?_
  rintro e W' ⟨rfl, bel⟩
  rw [← ea]
  refine ⟨_, rfl, _, _, _, [], p0 ++ p1 ++ p2, [], hW', ?_, ?_, rfl, bel.frame _, fun h => by cases h⟩
  · exact trodAll_mk1 (shut_bool Tryd.underlying4 _)
  · rw [List.append_assoc]; exact trodAll_mk3 (Below.trod laidOut (by kernel_rfl) (of_decide_eq_true (by kernel_rfl)) h0k bel (fun x hx => hlt x (by simp [hx]))) (Below.trod laidOut (by kernel_rfl) (of_decide_eq_true (by kernel_rfl)) h1k bel (fun x hx => hlt x (by simp [hx]))) (Below.trod laidOut (by kernel_rfl) (of_decide_eq_true (by kernel_rfl)) h2k bel (fun x hx => hlt x (by simp [hx])))

def lay (cs : Array Value) : Obj → Obj
  | .cells _ t frozen => .cells cs t frozen
  | o => o
def kindCells : Array Value := #[.int .i64 (-1), .int .i64 11, .int .i64 0, .int .i64 (-1), .int .i64 10, .int .i64 0, .int .i64 (-1), .int .i64 1, .int .i64 0, .int .i64 (-1), .int .i64 10, .int .i64 0, .int .i64 2, .int .i64 1, .int .i64 0, .int .i64 2, .int .i64 1, .int .i64 0, .int .i64 (-1), .int .i64 1, .int .i64 0, .int .i64 2, .int .i64 1, .int .i64 0, .int .i64 2, .int .i64 1, .int .i64 0, .int .i64 2, .int .i64 1, .int .i64 0, .int .i64 (-1), .int .i64 1, .int .i64 0, .int .i64 2, .int .i64 1, .int .i64 0, .int .i64 2, .int .i64 1, .int .i64 0, .int .i64 2, .int .i64 1, .int .i64 0, .int .i64 (-1), .int .i64 1, .int .i64 0, .int .i64 (-1), .int .i64 1, .int .i64 0, .int .i64 (-1), .int .i64 13, .int .i64 0, .int .i64 (-1), .int .i64 1, .int .i64 0, .int .i64 (-1), .int .i64 1, .int .i64 0, .int .i64 (-1), .int .i64 1, .int .i64 0, .int .i64 (-1), .int .i64 6, .int .i64 0, .int .i64 (-1), .int .i64 6, .int .i64 0, .int .i64 (-1), .int .i64 5, .int .i64 0, .int .i64 (-1), .int .i64 5, .int .i64 0, .int .i64 16, .int .i64 13, .int .i64 0, .int .i64 (-1), .int .i64 1, .int .i64 0, .int .i64 3, .int .i64 10, .int .i64 0, .int .i64 3, .int .i64 10, .int .i64 0, .int .i64 3, .int .i64 10, .int .i64 0, .int .i64 3, .int .i64 10, .int .i64 0, .int .i64 (-1), .int .i64 9, .int .i64 0, .int .i64 2, .int .i64 1, .int .i64 0, .int .i64 2, .int .i64 1, .int .i64 0, .int .i64 2, .int .i64 1, .int .i64 0, .int .i64 (-1), .int .i64 1, .int .i64 0, .int .i64 (-1), .int .i64 1, .int .i64 0, .int .i64 8, .int .i64 1, .int .i64 0, .int .i64 9, .int .i64 1, .int .i64 0, .int .i64 11, .int .i64 1, .int .i64 0, .int .i64 12, .int .i64 1, .int .i64 0, .int .i64 (-1), .int .i64 1, .int .i64 0, .int .i64 (-1), .int .i64 3, .int .i64 0, .int .i64 (-1), .int .i64 1, .int .i64 0, .int .i64 (-1), .int .i64 10, .int .i64 0, .int .i64 (-1), .int .i64 6, .int .i64 0, .int .i64 (-1), .int .i64 10, .int .i64 0, .int .i64 (-1), .int .i64 3, .int .i64 0, .int .i64 (-1), .int .i64 6, .int .i64 0, .int .i64 (-1), .int .i64 6, .int .i64 0, .int .i64 (-1), .int .i64 1, .int .i64 0, .int .i64 (-1), .int .i64 1, .int .i64 0, .int .i64 (-1), .int .i64 7, .int .i64 0, .int .i64 (-1), .int .i64 7, .int .i64 0, .int .i64 (-1), .int .i64 4, .int .i64 0, .int .i64 (-1), .int .i64 4, .int .i64 0, .int .i64 (-1), .int .i64 2, .int .i64 0, .int .i64 (-1), .int .i64 12, .int .i64 1, .int .i64 (-1), .int .i64 12, .int .i64 1, .int .i64 (-1), .int .i64 10, .int .i64 1, .int .i64 (-1), .int .i64 10, .int .i64 1, .int .i64 (-1), .int .i64 8, .int .i64 1, .int .i64 (-1), .int .i64 14, .int .i64 0]
/-- A WORLD FOR THE WITNESS: the settled one, the two tables holding what their initialisers lay. -/
noncomputable def laidWorld (os : Os) : World :=
  { World.holding Tryd.prog os ⟨#[], #[], []⟩ with heap := ((((World.holding Tryd.prog os ⟨#[], #[], []⟩).heap.modify 0 (lay kindCells)).modify 2 (lay (Go.Pinned.utf8FirstZ.map fun (z : Nat) => Value.int .u8 z).toArray)).modify 3 (lay #[.int .u8 128, .int .u8 191, .int .u8 160, .int .u8 191, .int .u8 128, .int .u8 159, .int .u8 144, .int .u8 191, .int .u8 128, .int .u8 143, .int .u8 0, .int .u8 0, .int .u8 0, .int .u8 0, .int .u8 0, .int .u8 0, .int .u8 0, .int .u8 0, .int .u8 0, .int .u8 0, .int .u8 0, .int .u8 0, .int .u8 0, .int .u8 0, .int .u8 0, .int .u8 0, .int .u8 0, .int .u8 0, .int .u8 0, .int .u8 0, .int .u8 0, .int .u8 0])) }
abbrev wArgs : Array Value := #[.agg #[.int .i64 0, .string ⟨#[]⟩, .slice none 0 0, .slice none 0 0], .slice none 0 0, .bool false]
theorem laid_met (os : Os) : laidMet Tryd.prog Rows.entrySelectUptoRow.laid ((laidWorld os).forCall (fun _ _ => 0) ⟨#[], wArgs, []⟩).memory :=
  laidMet_of_run' 8 (by kernel_rfl) (by kernel_rfl)
theorem reads (os : Os) {H : Type} (enc : TypeId × Value → H) : ∃ places, DataW.whole enc Tryd.prog ((laidWorld os).forCall (fun _ _ => 0) ⟨#[], wArgs, []⟩).memory Tryd.f4.params.toList Rows.entrySelectSpec.vars false wArgs.toList 8 = some ([.agg [.lit (.int .i64 0), .lit (.string []), .nil, .nil], .nil, .lit (.bool false)], [], places) :=
  ⟨[], by kernel_rfl⟩
set_option maxRecDepth 100000 in
theorem liftedUpto (os : Os) (started : os.Started) (H : Type) (enc : TypeId × Value → H) (F : Stop.Interp) :
    ReturnsInHanded {} Tryd.checked os 4 .any ((Rows.OpenSpec.upto Rows.entrySelectSpec).preRow enc Tryd.prog Tryd.f4 Rows.entrySelectUptoRow.domain false Rows.entrySelectUptoRow.laid) (((Rows.OpenSpec.upto Rows.entrySelectSpec).at F).post enc Tryd.prog Tryd.f4 false true false false) := by
  obtain ⟨places, hx⟩ := reads os enc
  refine returnsInHanded_of_row (C := Tryd.checked) (s := Rows.OpenSpec.upto Rows.entrySelectSpec) own started (by kernel_rfl) Tryd.func4
    (witness_row_at (enc := enc) (C := Tryd.checked) false (laidWorld os) wArgs rfl (by kernel_rfl) (by kernel_rfl) (by kernel_rfl)
      (OpenSpec.preRow_of_cond 8 hx (by kernel_rfl) (fun k hk => by cases hk; kernel_rfl) (by kernel_rfl) (laid_met os))) ?_
  intro W base args ds gs before hval hW _ hcond _ hL hsh _
  exact contract H enc W base args ds gs before hval hW (hcond _ rfl) hL hsh
theorem saidUpto : Rows.EntrySelectUptoSaid :=
  OpenClaim.holds_of_cond 4 Tryd.f4 rfl rfl rfl rfl rfl rfl rfl ⟨rfl, rfl, rfl, rfl, rfl⟩ rfl rfl rfl rfl rfl (by kernel_rfl) Tryd.func4 (by kernel_rfl)
    (of_decide_eq_true (by kernel_rfl)) (by unfold Func.isWrapper; first | (rw [if_pos (by decide +kernel)]; kernel_rfl) | (rw [if_neg (by decide +kernel)]; exact ⟨rfl, rfl⟩))
    (fun os started H enc _ F => by rw [OpenClaim.pre_eq_preRow]; exact liftedUpto os started H enc F)
theorem plain (f : FuncId) (fn : Func) (hf : Tryd.pinned.checked.prog.funcNamed "roster/rosterlaw08.EntrySelect" = some f) (hfn : Tryd.pinned.checked.prog.funcs[f]? = some fn) :
    false = Tryd.pinned.checked.prog.looks [] ∧ ∀ (j : Nat) t, fn.params[j]? = some t → Tryd.pinned.checked.prog.wantsStandIn t = false := by
  obtain rfl : f = 4 := Option.some.inj ((show Tryd.prog.funcNamed "roster/rosterlaw08.EntrySelect" = some 4 by kernel_rfl).symm.trans hf) |>.symm
  obtain rfl : fn = Tryd.f4 := (Option.some.inj (Tryd.func4.symm.trans hfn)).symm
  refine ⟨by kernel_rfl, fun j t ht => ?_⟩
  rw [Tryd.params4] at ht
  have : t = 25 ∨ t = 22 ∨ t = 4 := by
    have := Array.mem_of_getElem? ht
    simp at this
    omega
  rcases this with rfl | rfl | rfl
  · exact (show Tryd.prog.wantsStandIn 25 = false by kernel_rfl)
  · exact (show Tryd.prog.wantsStandIn 22 = false by kernel_rfl)
  · exact (show Tryd.prog.wantsStandIn 4 = false by kernel_rfl)
/-- THE SECOND FORM's CARD. -/
theorem cardUpto : Rows.EntrySelectUptoCardSaid :=
  Claim7.holds_tied_plain_at .later [] _ _ _ _ saidUpto (fun _ h => by cases h) (by kernel_rfl) (fun _ h => by cases h) entrySelectUpto_row_tie rfl ⟨rfl, rfl⟩ (by kernel_rfl) rfl plain (by kernel_rfl)
#print axioms cardUpto
end Go.Proofs.YtghjinhgloegaaaDoor.entrySelect
