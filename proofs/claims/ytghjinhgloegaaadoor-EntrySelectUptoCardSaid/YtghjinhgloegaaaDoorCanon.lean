/- attr.canonical: what it answers. -/
import Derived.Test.YtghjinhgloegaaaDoorFold
import Derived.Test.YtghjinhgloegaaaDoorNames
import Derived.Test.YtghjinhgloegaaaDoorAttrRows
namespace Go.Proofs.YtghjinhgloegaaaDoor
open Go.RowKit Go.Proofs.YtghjinhgloegaaaDoorW.PrintWords
set_option linter.unusedVariables false
set_option linter.unusedSimpArgs false

theorem nameFind_mem {l : List (List UInt8 × Nat)} {s : ByteArray} {i : Nat} (h : nameFind l s = some i) (p : Nat → Bool) (hp : l.all (fun e => p e.2) = true) : p i = true := by
  unfold nameFind at h
  obtain ⟨e, he, rfl⟩ := Option.map_eq_some_iff.1 h
  exact List.all_eq_true.1 hp e (List.mem_of_find?_eq_some he)
theorem nameIdx_lt {s : ByteArray} {i : Nat} (h : nameIdx s = some i) : i < 62 := by
  have := nameFind_mem h (fun i => decide (i < 62)) (by decide +kernel)
  simpa using this
theorem field84_0 (a0 a1 a2 a3 a4 a5 : Value) (W : World) : (Instr.field 84 (.agg #[a0, a1, a2, a3, a4, a5]) 0).run Tryd.prog W = .ok a0 W := by
  have hu := Tryd.underlying84
  simp [Instr.field, run_underlying hu, part, asAgg]
theorem field84_3 (a0 a1 a2 a3 a4 a5 : Value) (W : World) : (Instr.field 84 (.agg #[a0, a1, a2, a3, a4, a5]) 3).run Tryd.prog W = .ok a3 W := by
  have hu := Tryd.underlying84
  simp [Instr.field, run_underlying hu, part, asAgg]
theorem field84_4 (a0 a1 a2 a3 a4 a5 : Value) (W : World) : (Instr.field 84 (.agg #[a0, a1, a2, a3, a4, a5]) 4).run Tryd.prog W = .ok a4 W := by
  have hu := Tryd.underlying84
  simp [Instr.field, run_underlying hu, part, asAgg]
theorem field84_5 (a0 a1 a2 a3 a4 a5 : Value) (W : World) : (Instr.field 84 (.agg #[a0, a1, a2, a3, a4, a5]) 5).run Tryd.prog W = .ok a5 W := by
  have hu := Tryd.underlying84
  simp [Instr.field, run_underlying hu, part, asAgg]
/-- The canonical form of a type's text. -/
def canonT (s : ByteArray) : ByteArray := match nameIdx (foldB s) with
  | some i => (rowAt i).nm
  | none => foldB s

set_option maxRecDepth 100000 in
theorem attr_canonical (s : ByteArray) (w : World) (hs : s.size ≤ 140737488355328) : Calls Tryd.prog 52 #[.string s] w fun e w' => e = .returned (.string (canonT s)) ∧ Below w.heap.size w w' := by
  cases hi : nameIdx (foldB s) with
  | none =>
    have HC := Aside0.mk (show canonT s = foldB s by simp [canonT, hi])
    have HI := Aside0.mk (show nameVal (nameIdx (foldB s)) = .tuple #[.int .i64 0, .bool false] by rw [hi]; rfl)
    clear hi
    go_enter Tryd.func52, Tryd.ntmps52
    go_wp2_with (first | (go_at_call 51; refine (text_Fold _ _ hs).mono ?_; rintro e w1 ⟨rfl, hb⟩; have HB := Aside0.mk hb; clear hb) | (go_at_call 56; refine (attr_byName _ _).mono ?_; rintro e w2 ⟨rfl, rfl⟩; rw [HI.out]))
    go_ret
    exact ⟨by rw [HC.out]; rfl, HB.out⟩
  | some i =>
    have hlt := nameIdx_lt hi
    obtain ⟨r, hr⟩ : ∃ r, r = rowAt i := ⟨_, rfl⟩
    have HC := Aside0.mk (show canonT s = r.nm by rw [hr]; simp [canonT, hi])
    have HR := Aside0.mk (show ∀ w, Calls Tryd.prog 57 #[.int .i64 i] w (RowPost w r) by rw [hr]; exact attr_rows i hlt)
    clear hr
    have HI := Aside0.mk (show nameVal (nameIdx (foldB s)) = .tuple #[.int .i64 i, .bool true] by rw [hi]; rfl)
    clear hi
    have hfd := field84_0
    go_enter Tryd.func52, Tryd.ntmps52
    go_wp2_with (first | (go_at_call 51; refine (text_Fold _ _ hs).mono ?_; rintro e w1 ⟨rfl, hb⟩; have HB := Aside0.mk hb; clear hb) | (go_at_call 56; refine (attr_byName _ _).mono ?_; rintro e w2 ⟨rfl, rfl⟩; rw [HI.out]) | (go_at_call 57; refine (HR.out _).mono ?_; rintro e w3 ⟨v, rfl, hv, hb3⟩; obtain ⟨A0, c0, rfl⟩ := Kd.R_slice hv; have HB3 := Aside0.mk hb3; have HV := Aside0.mk hv; clear hb3 hv))
    go_ret
    exact ⟨by rw [HC.out]; rfl, HB.out.trans (HB3.out.mono HB.out.size)⟩
end Go.Proofs.YtghjinhgloegaaaDoor
