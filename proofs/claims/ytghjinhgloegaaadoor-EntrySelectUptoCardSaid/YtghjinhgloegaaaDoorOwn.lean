/- entry.own and the questions that entry.asked makes: what they answer. -/
import Derived.Test.YtghjinhgloegaaaDoorFind
namespace Go.Proofs.YtghjinhgloegaaaDoor
open Go.RowKit Go.Proofs.YtghjinhgloegaaaDoorW.PrintWords
set_option linter.unusedVariables false
set_option linter.unusedSimpArgs false

def ownF (canon : ByteArray) : Bool := isDesc canon && match findF (parseF canon).1 with
  | some r => r.use == 1
  | none => false
theorem cell_seen {w w1 : World} {B : Nat} (hb : Below B w w1) {a : Addr} {v : Value} (h : w.cell? a = some v) (ha : a.block < B) : w1.cell? a = some v := (hb.cell ha).trans h

set_option maxHeartbeats 1000000 in
set_option maxRecDepth 100000 in
theorem entry_own (desc canon : ByteArray) (A : Option Addr) (n c : Nat) (w : World) (hs : canon.size ≤ 1000000000) (hm : MaxAt w) :
    Calls Tryd.prog 45 #[.agg #[.string desc, .string canon, .slice A n c]] w (CovPost w (ownF canon)) := by
  have hu := Tryd.underlying54
  have hu84 := Tryd.underlying84
  have HM := Aside0.mk hm
  clear hm
  cases hd : isDesc canon with
  | false =>
    have HC := Aside0.mk (show ownF canon = false by simp [ownF, hd])
    have HD := Aside0.mk hd
    clear hd
    go_enter Tryd.func45, Tryd.ntmps45
    go_wp2_with fail
    refine (attr_Parse canon _ hs (HM.out.alloc _)).mono ?_; intro ee w1 hp; obtain ⟨v1, p1, rfl, hr1, hb1⟩ := hp.no HD.out; obtain ⟨A1, c1, rfl⟩ := Kd.R_slice hr1; have HB1 := Aside0.mk hb1; clear hp hr1 hb1
    go_wp2_with fail
    go_ret
    rw [HC.out]
    have hb := ((Below.refl w.heap.size w).alloc (Nat.le_refl _) _).trans (HB1.out.mono (by simp))
    exact ⟨rfl, hb.alloc hb.size _⟩
  | true =>
    cases hf : findF (parseF canon).1 with
    | none =>
      have HC := Aside0.mk (show ownF canon = false by simp [ownF, hd, hf])
      have HD := Aside0.mk hd
      have HF := Aside0.mk hf
      have hsz := Aside0.mk (parse_type_size canon)
      clear hd hf
      go_enter Tryd.func45, Tryd.ntmps45
      go_wp2_with fail
      refine (attr_Parse canon _ hs (HM.out.alloc _)).mono ?_; intro ee w1 hp; obtain ⟨v1, p1, rfl, hr1, hb1⟩ := hp.yes HD.out; obtain ⟨A1, c1, rfl⟩ := Kd.R_slice hr1; have HB1 := Aside0.mk hb1; clear hp hr1 hb1
      go_wp2_with fail
      refine (attr_Find (parseF canon).1 _ (by have := hsz.out; omega)).mono ?_; rintro ee w2 ⟨v2, rfl, hr2, hb2⟩; rw [HF.out] at hr2 ⊢; obtain ⟨A2, c2, rfl⟩ := Kd.R_slice hr2; have HB2 := Aside0.mk hb2; clear hr2 hb2
      simp only [Option.getD_none, Option.isSome_none, zeroRow]
      go_wp2_with fail
      go_ret
      rw [HC.out]
      have hb := ((Below.refl w.heap.size w).alloc (Nat.le_refl _) _).trans (HB1.out.mono (by simp))
      have hb1 := hb.alloc hb.size (.cells #[.string (parseF canon).1, .slice A1 (parseF canon).2.1.length c1] 54)
      have hb2 := hb1.trans (HB2.out.mono hb1.size)
      exact ⟨rfl, hb2.alloc hb2.size _⟩
    | some r =>
      have HC := Aside0.mk (show ownF canon = (r.use == 1) by simp [ownF, hd, hf])
      have HD := Aside0.mk hd
      have HF := Aside0.mk hf
      have hsz := Aside0.mk (parse_type_size canon)
      clear hd hf
      go_enter Tryd.func45, Tryd.ntmps45
      go_wp2_with fail
      refine (attr_Parse canon _ hs (HM.out.alloc _)).mono ?_; intro ee w1 hp; obtain ⟨v1, p1, rfl, hr1, hb1⟩ := hp.yes HD.out; obtain ⟨A1, c1, rfl⟩ := Kd.R_slice hr1; have HB1 := Aside0.mk hb1; clear hp hr1 hb1
      go_wp2_with fail
      refine (attr_Find (parseF canon).1 _ (by have := hsz.out; omega)).mono ?_; rintro ee w2 ⟨v2, rfl, hr2, hb2⟩; rw [HF.out] at hr2 ⊢; obtain ⟨A2, c2, rfl⟩ := Kd.R_slice hr2; have HB2 := Aside0.mk hb2; clear hr2 hb2
      simp only [Option.getD_some, Option.isSome_some]
      go_wp2_with fail
      go_outline
      go_ret
      rw [HC.out]
      have hb := ((Below.refl w.heap.size w).alloc (Nat.le_refl _) _).trans (HB1.out.mono (by simp))
      have hb1 := hb.alloc hb.size (.cells #[.string (parseF canon).1, .slice A1 (parseF canon).2.1.length c1] 54)
      have hb2 := hb1.trans (HB2.out.mono hb1.size)
      exact ⟨rfl, hb2.alloc hb2.size _⟩
end Go.Proofs.YtghjinhgloegaaaDoor
