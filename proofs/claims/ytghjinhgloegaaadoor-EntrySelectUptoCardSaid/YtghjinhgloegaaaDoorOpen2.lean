/- The attributes opened with the sum of their values; the reference's table of kinds, from the row's own condition. -/
import Derived.Test.YtghjinhgloegaaaDoorOpen
import Derived.Test.YtghjinhgloegaaaDoorRefThree
import Derived.Lib.LaidTab
namespace Go.Proofs.YtghjinhgloegaaaDoor
open Go.RowKit Go.ChangeShapes Go.WideShapes Go.Joins Go.Proofs.YtghjinhgloegaaaDoorW.PrintWords
set_option linter.unusedVariables false
set_option linter.unusedSimpArgs false

section
variable {H : Type} {enc : TypeId × Value → H} {w : World} {base : Nat} {spare : Nat → Bool} {held : Bool}
theorem tot_map {H : Type} (X : Nat → S39) (D : Nat → DataW H) : ∀ L : List Nat, (∀ i ∈ L, (X i).f2.length ≤ Rows.uptoBulk (D i)) → tot (L.map X) ≤ Rows.uptoBulkAll (L.map D)
  | [], _ => Nat.zero_le _
  | i :: L, h => by
    have ih := tot_map X D L (fun j hj => h j (List.mem_cons_of_mem _ hj))
    have h1 := h i (by simp)
    unfold tot at *
    simp only [List.map_cons, List.sum_cons, Rows.uptoBulkAll]
    omega
theorem open_attrs2 {fuel : Nat} {v : Value} {d : DataW H} {p : List MemPlace} (h : DataW.trod enc Tryd.prog w base spare held fuel 23 [v] = some (d, p)) :
    ∃ A c l, v = .slice A l.length c ∧ l.length ≤ c ∧ Kd.C k39 w A l.length l ∧ l.length ≤ Rows.uptoBulk d ∧ (∀ x ∈ l, x.f1.size ≤ Rows.uptoBulk d ∧ x.f2.length ≤ Rows.uptoBulk d) ∧ tot l ≤ Rows.uptoBulk d := by
  rcases Go.Deep.open_slice Tryd.underlying23 h with ⟨hv, hx⟩ | ⟨a, len, cap, m, n, D, Pl, hv, _, hl, hm, hmm, hx, hi⟩
  · obtain rfl : v = .slice none 0 0 := by simpa using hv
    exact ⟨none, 0, [], rfl, Nat.le_refl _, Kd.C_nil _ _, Nat.zero_le _, (fun s hs => by cases hs), Nat.zero_le _⟩
  · obtain rfl : v = .slice (some a) len cap := by simpa using hv
    have hlm : len ≤ m := by rw [hmm]; split <;> omega
    simp only [cells39] at hi
    obtain ⟨X, hX⟩ := Go.Deep.choose_lt (n := m) (p := fun i (x : S39) => (∃ cs : List Value, cs.length = 3 ∧ k39.K w x cs ∧ ∀ j, j < 3 → w.cell? ((a.add (i * 3)).add j) = cs[j]?) ∧ x.f1.size ≤ Rows.uptoBulk (D i) ∧ x.f2.length ≤ Rows.uptoBulk (D i)) (fun i him => by
      obtain ⟨cs, h1, h2⟩ := hi i him
      obtain ⟨x, h3, h4⟩ := open_attr h1 h2
      exact ⟨x, ⟨cs, h3⟩, h4⟩)
    have hlen : ((List.range len).map X).length = len := by simp
    simp only [Prod.mk.injEq] at hx
    refine ⟨some a, cap, (List.range len).map X, by rw [hlen], by rw [hlen]; exact hl, ?_, ?_, ?_, ?_⟩
    · rw [hlen]
      refine ⟨hlen, by unfold maxLen at hm; omega, fun _ => ⟨a, rfl, fun j q hq => ?_⟩⟩
      have hj : j < len := by have := (List.getElem?_eq_some_iff.1 hq).1; simpa using this
      obtain rfl : X j = q := by simpa [hj] using hq
      obtain ⟨⟨cs, h1, h2, h3⟩, _⟩ := hX j (by omega)
      refine ⟨cs, h1, h2, fun i u hu => ?_⟩
      have hi3 : i < 3 := by have := (List.getElem?_eq_some_iff.1 hu).1; omega
      have := h3 i hi3
      rw [Go.Deep.add_add, hu] at this
      exact this
    · rw [hlen, hx.1]
      have := bulks.slice_le (H := H) ((List.range len).map D) ((List.range (m - len)).map fun j => D (len + j))
      simp at this
      omega
    · intro s hs
      obtain ⟨i, hi', rfl⟩ := List.mem_map.1 hs
      have h1 := bulks.slice_elems (H := H) ((List.range len).map D) ((List.range (m - len)).map fun j => D (len + j))
      have h2 := bulks.part_le (H := H) (d := D i) (l := (List.range len).map D) (List.mem_map.2 ⟨i, hi', rfl⟩)
      have h3 := hX i (by have := List.mem_range.1 hi'; omega)
      rw [hx.1]
      omega
    · have h1 := bulks.slice_elems (H := H) ((List.range len).map D) ((List.range (m - len)).map fun j => D (len + j))
      have h2 := tot_map X D (List.range len) (fun i hi' => (hX i (by have := List.mem_range.1 hi'; omega)).2.2)
      rw [hx.1]
      omega
end

/-! An array of arrays of integers that reads as a table. -/
theorem cells_of_tab2 {H : Type} {enc : TypeId × Value → H} {P : Program} {w : World} {base : Nat} {sp : Nat → Bool} {held : Bool} {fuel : Nat} {t e f : TypeId} {n m : Nat} {k : IntKind} {cs : List Value} {rows : List (List Int)} {p : List MemPlace}
    (ht : P.underlying t = some (.array n e)) (he : P.underlying e = some (.array m f)) (hf : P.underlying f = some (.int k)) (hcf : P.cellsOf f = 1) (hce : P.cellsOf e = m)
    (h : DataW.trod enc P w base sp held fuel t cs = some (.agg (rows.map (Lib.tabData k)), p)) : ∀ (i : Nat) (row : List Int), rows[i]? = some row → ∀ (j : Nat) (z : Int), row[j]? = some z → cs[i * m + j]? = some (.int k z) := by
  cases fuel with
  | zero => simp [DataW.trod] at h
  | succ fuel =>
    simp only [DataW.trod, ht, hce] at h
    split at h
    · rename_i hl
      obtain ⟨xs, hm, hx⟩ := Option.map_eq_some_iff.1 h
      have hxs : xs.map (·.1) = rows.map (Lib.tabData k) := by
        have := congrArg Prod.fst hx
        simpa using this
      intro i row hrow j z hz
      have hxl : xs.length = n := by simpa using Lib.mapM_length hm
      have hi : i < n := by
        have h1 := (List.getElem?_eq_some_iff.1 hrow).1
        have h2 := congrArg List.length hxs
        simp at h2
        omega
      obtain ⟨b, hb, hfb⟩ := Lib.mapM_at hm i i (by simp [hi])
      have hb1 : b.1 = Lib.tabData k row := by
        have h2 : (xs.map (·.1))[i]? = some b.1 := by simp [hb]
        rw [hxs] at h2
        simp [hrow] at h2
        exact h2.symm
      have hfb' : DataW.trod enc P w base sp held fuel e ((cs.drop (i * m)).take m) = some (Lib.tabData k row, b.2) := by rw [← hb1]; exact hfb
      have hc := Lib.cells_of_tab he hf hcf hce hfb'
      have h3 : ((cs.drop (i * m)).take m)[j]? = some (.int k z) := by rw [hc, List.getElem?_map, hz]; rfl
      rw [List.getElem?_take] at h3
      split at h3
      · rw [List.getElem?_drop] at h3; exact h3
      · cases h3
    · cases h
def kindRow (i : Nat) : List Int := [idxInt (upOf i), (rowAt i).syn, (rowAt i).use]
def kindRows : List (List Int) := (List.range 62).map kindRow
theorem kinds_data : (Rows.laid_roster_rosterref04_kinds : DataW Unit) = .agg (kindRows.map (Lib.tabData .i64)) := by kernel_rfl
theorem kindsAt_of {W : World} {rest : List (String × DataW Unit)} (h : laidMet Tryd.prog (("roster/rosterref04.kinds", Rows.laid_roster_rosterref04_kinds) :: rest) W) : KindsAt W := by
  obtain ⟨ps, ⟨g', t', cs, fuel, p, q, hg', ht', hvar, hd, _, _⟩, _⟩ := h
  obtain rfl := Option.some.inj ((show Tryd.prog.globalNamed "roster/rosterref04.kinds" = some 0 by kernel_rfl).symm.trans hg')
  obtain rfl := Option.some.inj ((show (Tryd.prog.globals[0]?).map (·.type) = some 93 by kernel_rfl).symm.trans ht')
  rw [kinds_data] at hd
  have hc := cells_of_tab2 Tryd.underlying93 Tryd.underlying92 Tryd.underlying3 (show Tryd.prog.cellsOf 3 = 1 by kernel_rfl) (show Tryd.prog.cellsOf 92 = 3 by kernel_rfl) hd
  intro i hi
  have hr : kindRows[i]? = some (kindRow i) := by unfold kindRows; rw [List.getElem?_map, List.getElem?_range hi]; rfl
  have hq : ∀ j z, (kindRow i)[j]? = some z → W.cell? ⟨0, i * 3 + j, none⟩ = some (.int .i64 z) := fun j z hz => by
    have h1 := hc i _ hr j z hz
    have := World.var?_cell (show Tryd.prog.globalNamed "roster/rosterref04.kinds" = some 0 by kernel_rfl) hvar (i * 3 + j)
    rw [this, ← Array.getElem?_toList]; exact h1
  exact ⟨hq 0 _ rfl, hq 1 _ rfl, hq 2 _ rfl⟩
end Go.Proofs.YtghjinhgloegaaaDoor
