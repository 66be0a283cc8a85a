/- entry.asked: the question that it makes of a text, as a function value; what the question answers. -/
import Derived.Test.YtghjinhgloegaaaDoorOwn
import Derived.Laws.EntriesVeiled
namespace Go.Proofs.YtghjinhgloegaaaDoor
open Go.RowKit Go.Proofs.YtghjinhgloegaaaDoorW.PrintWords
set_option linter.unusedVariables false
set_option linter.unusedSimpArgs false

def askedF (want canon : ByteArray) : Bool :=
  if (want.toList == [49, 46, 49]) = true then false else if (want.toList == [42]) = true then !ownF canon else if (want.toList == [43]) = true then ownF canon else coversF want canon
/-- v is a function value that answers what the text 'want' asks, in every world where what it holds is as in w. -/
def FnOf (w : World) (want : ByteArray) (v : Value) : Prop := ∃ (g : FuncId) (lb : Array Value), v = .func (.func g) #[] lb ∧ Enters Tryd.prog g ∧ ∃ ob : Option Nat, (∀ b : Nat, ob = some b → w.heap[b]? = some (.cells #[.string want] 9 (0, 0))) ∧
  ∀ (desc canon : ByteArray) (A : Option Addr) (n c : Nat) (W : World), (∀ b : Nat, ob = some b → W.heap[b]? = some (.cells #[.string want] 9 (0, 0))) → canon.size ≤ 1000000000 → MaxAt W → Calls Tryd.prog g (#[.agg #[.string desc, .string canon, .slice A n c]] ++ lb) W (CovPost W (askedF want canon))
theorem FnOf.keep {w w1 : World} {want : ByteArray} {v : Value} (h : FnOf w want v) (hk : ∀ b : Nat, w.heap[b]? = some (Obj.cells #[.string want] 9 (0, 0)) → w1.heap[b]? = some (Obj.cells #[.string want] 9 (0, 0))) : FnOf w1 want v := by
  obtain ⟨g, lb, rfl, he, ob, h1, h2⟩ := h
  exact ⟨g, lb, rfl, he, ob, fun b hb => hk b (h1 b hb), h2⟩
theorem FnOf.below {w w1 : World} {want : ByteArray} {v : Value} (h : FnOf w want v) (hb : Below w.heap.size w w1) : FnOf w1 want v := h.keep fun b h => blk_below h hb
theorem FnOf.one {w : World} {want : ByteArray} {v : Value} (h : FnOf w want v) : v.oneCell' = true := by
  obtain ⟨g, lb, rfl, _⟩ := h
  rfl

theorem asked_1 (desc canon : ByteArray) (A : Option Addr) (n c : Nat) (w : World) : Calls Tryd.prog 43 #[.agg #[.string desc, .string canon, .slice A n c]] w (CovPost w false) := by
  go_enter Tryd.func43, Tryd.ntmps43
  go_wp2
  go_ret
  exact ⟨rfl, (Below.refl _ _).alloc (Nat.le_refl _) _⟩
theorem asked_2 (desc canon : ByteArray) (A : Option Addr) (n c : Nat) (w : World) (hs : canon.size ≤ 1000000000) (hm : MaxAt w) : Calls Tryd.prog 44 #[.agg #[.string desc, .string canon, .slice A n c]] w (CovPost w (!ownF canon)) := by
  have HM := Aside0.mk hm
  have hu := Tryd.underlying39
  clear hm
  go_enter Tryd.func44, Tryd.ntmps44
  go_wp2_with fail
  refine (entry_own desc canon A n c _ hs (HM.out.alloc _)).mono ?_; rintro ee w2 ⟨rfl, hb2⟩; have HB2 := Aside0.mk hb2; clear hb2
  go_wp2_with fail
  go_ret
  exact ⟨rfl, ((Below.refl w.heap.size w).alloc (Nat.le_refl _) _).trans (HB2.out.mono (by simp))⟩
theorem asked_3 (want desc canon : ByteArray) (A : Option Addr) (n c b : Nat) (w : World) (hw : want.size ≤ 1000000000) (hs : canon.size ≤ 1000000000) (hm : MaxAt w) (hb : w.heap[b]? = some (.cells #[.string want] 9 (0, 0))) :
    Calls Tryd.prog 46 #[.agg #[.string desc, .string canon, .slice A n c], .pointer (some ⟨b, 0, none⟩)] w (CovPost w (coversF want canon)) := by
  have HM := Aside0.mk hm
  have hu := Tryd.underlying39
  have q0 : w.cell? ⟨b, 0, none⟩ = some (.string want) := blk_cell hb 0
  have hl := blk_lt hb
  clear hm hb
  go_enter Tryd.func46, Tryd.ntmps46
  go_wp2_with fail
  refine (attr_Covers want canon _ hw hs (HM.out.alloc _)).mono ?_; rintro ee w2 ⟨rfl, hb2⟩; have HB2 := Aside0.mk hb2; clear hb2
  go_wp2_with fail
  go_ret
  exact ⟨rfl, ((Below.refl w.heap.size w).alloc (Nat.le_refl _) _).trans (HB2.out.mono (by simp))⟩
def AskPost (w : World) (want : ByteArray) (e : Ending) (w' : World) : Prop := ∃ v, e = .returned v ∧ FnOf w' want v ∧ Below w.heap.size w w'
theorem entry_asked (want : ByteArray) (w : World) (hw : want.size ≤ 1000000000) : Calls Tryd.prog 29 #[.string want] w (AskPost w want) := by
  have e43 : Enters Tryd.prog 43 := enters_of Tryd.func43 (by kernel_rfl) rfl
  have e44 : Enters Tryd.prog 44 := enters_of Tryd.func44 (by kernel_rfl) rfl
  have e45 : Enters Tryd.prog 45 := enters_of Tryd.func45 (by kernel_rfl) rfl
  have e46 : Enters Tryd.prog 46 := enters_of Tryd.func46 (by kernel_rfl) rfl
  cases h1 : (want.toList == [49, 46, 49]) with
  | true =>
    have HF := Aside0.mk (fun canon => show askedF want canon = false by simp [askedF, h1])
    clear e44 e45 e46
    have E := Aside0.mk e43
    clear e43
    go_enter Tryd.func29, Tryd.ntmps29
    go_wp2
    go_ret
    exact ⟨_, rfl, ⟨43, #[], rfl, E.out, none, ⟨fun _ h => (by cases h), fun desc canon A n c W hW hs hm => by rw [HF.out]; exact asked_1 desc canon A n c W⟩⟩, (Below.refl _ _).alloc (Nat.le_refl _) _⟩
  | false =>
    cases h2 : (want.toList == [42]) with
    | true =>
      have HF := Aside0.mk (fun canon => show askedF want canon = !ownF canon by simp [askedF, h1, h2])
      clear e43 e45 e46
      have E := Aside0.mk e44
      clear e44
      go_enter Tryd.func29, Tryd.ntmps29
      go_wp2
      go_ret
      exact ⟨_, rfl, ⟨44, #[], rfl, E.out, none, ⟨fun _ h => (by cases h), fun desc canon A n c W hW hs hm => by rw [HF.out]; exact asked_2 desc canon A n c W hs hm⟩⟩, (Below.refl _ _).alloc (Nat.le_refl _) _⟩
    | false =>
      cases h3 : (want.toList == [43]) with
      | true =>
        have HF := Aside0.mk (fun canon => show askedF want canon = ownF canon by simp [askedF, h1, h2, h3])
        clear e43 e44 e46
        have E := Aside0.mk e45
        clear e45
        go_enter Tryd.func29, Tryd.ntmps29
        go_wp2
        go_ret
        exact ⟨_, rfl, ⟨45, #[], rfl, E.out, none, ⟨fun _ h => (by cases h), fun desc canon A n c W hW hs hm => by rw [HF.out]; exact entry_own desc canon A n c W hs hm⟩⟩, (Below.refl _ _).alloc (Nat.le_refl _) _⟩
      | false =>
        have HF := Aside0.mk (fun canon => show askedF want canon = coversF want canon by simp [askedF, h1, h2, h3])
        clear e43 e44 e45
        have E := Aside0.mk e46
        clear e46
        go_enter Tryd.func29, Tryd.ntmps29
        go_wp2
        go_ret
        exact ⟨_, rfl, ⟨46, #[.pointer (some ⟨w.heap.size, 0, none⟩)], rfl, E.out, some w.heap.size, ⟨fun b h => by cases h; exact blk_new _ _, fun desc canon A n c W hW hs hm => by rw [HF.out]; exact asked_3 want desc canon A n c w.heap.size W hw hs hm (hW _ rfl)⟩⟩, (Below.refl _ _).alloc (Nat.le_refl _) _⟩
end Go.Proofs.YtghjinhgloegaaaDoor
