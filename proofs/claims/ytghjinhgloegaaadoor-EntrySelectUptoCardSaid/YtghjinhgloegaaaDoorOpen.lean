/- The arguments of the laws over an entry, opened; what the bound gives; the world's shape. -/
import Derived.Test.YtghjinhgloegaaaDoorHelp
import Derived.Test.YtghjinhgloegaaaDoorBulk
import Derived.Deep.Strs
import Derived.Deep.Slices
import Derived.Lib.SmallJoins
import Derived.ChangeArms
import Derived.Shelf.Vars
namespace Go.Proofs.YtghjinhgloegaaaDoor
open Go.RowKit Go.ChangeShapes Go.WideShapes Go.Joins Go.Proofs.YtghjinhgloegaaaDoorW.PrintWords
set_option linter.unusedVariables false
set_option linter.unusedSimpArgs false

theorem cells9 : Tryd.prog.cellsOf 9 = 1 := by kernel_rfl
theorem cells22 : Tryd.prog.cellsOf 22 = 1 := by kernel_rfl
theorem cells39 : Tryd.prog.cellsOf 39 = 3 := by kernel_rfl
theorem maxAt_of {w : World} (h : w.ShapedOpen Tryd.prog) : MaxAt w := cell_of_shapedOpen_int (zero := #[.int .i64 0]) (t := 3) h (of_decide_eq_true (by kernel_rfl)) (by kernel_rfl) rfl (by kernel_rfl) (by kernel_rfl) Tryd.underlying3

instance : Inhabited S39 := ⟨z39⟩
section
variable {H : Type} {enc : TypeId × Value → H} {w : World} {base : Nat} {spare : Nat → Bool} {held : Bool}

theorem open_texts {fuel : Nat} {v : Value} {d : DataW H} {p : List MemPlace} (h : DataW.trod enc Tryd.prog w base spare held fuel 22 [v] = some (d, p)) :
    ∃ A c l, v = .slice A l.length c ∧ l.length ≤ c ∧ Kd.C Kd.string w A l.length l ∧ l.length ≤ Rows.uptoBulk d ∧ ∀ s ∈ l, s.size ≤ Rows.uptoBulk d := by
  rcases Go.Deep.open_strs Tryd.underlying22 Tryd.underlying9 cells9 h with ⟨hv, hx⟩ | ⟨a, len, cap, m, Sx, hv, _, hl, hm, hmm, hx, hcell⟩
  · obtain rfl : v = .slice none 0 0 := by simpa using hv
    exact ⟨none, 0, [], rfl, Nat.le_refl _, Kd.C_nil _ _, Nat.zero_le _, fun s hs => by cases hs⟩
  · obtain rfl : v = .slice (some a) len cap := by simpa using hv
    have hlm : len ≤ m := by rw [hmm]; split <;> omega
    have hlen : ((List.range len).map Sx).length = len := by simp
    simp only [Prod.mk.injEq] at hx
    refine ⟨some a, cap, (List.range len).map Sx, by rw [hlen], by rw [hlen]; exact hl, ?_, ?_, ?_⟩
    · rw [hlen]
      refine Kd.C_of_reads (d := ByteArray.empty) ⟨hlen, by unfold maxLen at hm; omega, fun _ => ⟨a, rfl, fun j hj => ?_⟩⟩
      rw [(hcell j (by omega)).1]
      simp [List.getD_eq_getElem?_getD, hj]
    · rw [hlen, hx.1]
      have := bulks.slice_le (H := H) ((List.range len).map fun i => DataW.lit (.string (Sx i).data.toList)) ((List.range (m - len)).map fun j => DataW.lit (.string (Sx (len + j)).data.toList))
      simp at this
      omega
    · intro s hs
      obtain ⟨i, hi, rfl⟩ := List.mem_map.1 hs
      have h1 := bulks.slice_elems (H := H) ((List.range len).map fun i => DataW.lit (.string (Sx i).data.toList)) ((List.range (m - len)).map fun j => DataW.lit (.string (Sx (len + j)).data.toList))
      have h2 := bulks.part_le (H := H) (d := DataW.lit (.string (Sx i).data.toList)) (l := (List.range len).map fun i => DataW.lit (.string (Sx i).data.toList)) (List.mem_map.2 ⟨i, hi, rfl⟩)
      rw [bulks.string_eq] at h2
      have h3 : (Sx i).data.toList.length = (Sx i).size := by rw [Array.length_toList]; rfl
      rw [hx.1]
      omega

set_option maxRecDepth 100000 in
theorem open_attr {n : Nat} {a : Addr} {cs : List Value} {y : DataW H × List MemPlace} (h1 : w.cells? base a 3 = some cs) (h2 : DataW.trod enc Tryd.prog w base spare held n 39 cs = some y) :
    ∃ x : S39, (cs.length = 3 ∧ k39.K w x cs ∧ ∀ i, i < 3 → w.cell? (a.add i) = cs[i]?) ∧ x.f1.size ≤ Rows.uptoBulk y.1 ∧ x.f2.length ≤ Rows.uptoBulk y.1 := by
  obtain ⟨_, hcl, hat⟩ := World.cells?_some h1
  obtain ⟨y0, y1, y2, n', rfl, _, t0, t1, t2⟩ := Go.Deep.trod_struct3 Tryd.underlying39 h2
  match cs, hcl with
  | [c0, c1, c2], _ =>
    rw [cells9] at t0 t1
    rw [cells22] at t2
    obtain ⟨s0, e0, r0, _⟩ := DataW.trod_string Tryd.underlying9 t0
    obtain ⟨s1, e1, r1, _⟩ := DataW.trod_string Tryd.underlying9 t1
    have t2' : DataW.trod enc Tryd.prog w base spare held n' 22 [c2] = some (y2.1, y2.2) := t2
    obtain ⟨A, c, l, rfl, hlc, hC, hl, _⟩ := open_texts t2'
    obtain rfl : c0 = .string s0 := by simpa using e0
    obtain rfl : c1 = .string s1 := by simpa using e1
    refine ⟨⟨s0, s1, l⟩, ⟨rfl, k39_mk w ⟨s0, s1, l⟩ hlc hC, hat⟩, ?_, ?_⟩
    · have h1 := bulks.part_le (H := H) (d := y1.1) (l := [y0.1, y1.1, y2.1]) (by simp)
      rw [r1] at h1
      simp only [bulks.string_eq] at h1
      have h3 : s1.data.toList.length = s1.size := by rw [Array.length_toList]; rfl
      show s1.size ≤ Rows.uptoBulk (DataW.agg [y0.1, y1.1, y2.1])
      rw [r1]
      simp only [Rows.uptoBulk] at h1 ⊢
      omega
    · have h1 := bulks.part_le (H := H) (d := y2.1) (l := [y0.1, y1.1, y2.1]) (by simp)
      show l.length ≤ Rows.uptoBulk (DataW.agg [y0.1, y1.1, y2.1])
      simp only [Rows.uptoBulk] at h1 ⊢
      omega
theorem open_attrs {fuel : Nat} {v : Value} {d : DataW H} {p : List MemPlace} (h : DataW.trod enc Tryd.prog w base spare held fuel 23 [v] = some (d, p)) :
    ∃ A c l, v = .slice A l.length c ∧ l.length ≤ c ∧ Kd.C k39 w A l.length l ∧ l.length ≤ Rows.uptoBulk d ∧ ∀ x ∈ l, x.f1.size ≤ Rows.uptoBulk d ∧ x.f2.length ≤ Rows.uptoBulk d := by
  rcases Go.Deep.open_slice Tryd.underlying23 h with ⟨hv, hx⟩ | ⟨a, len, cap, m, n, D, Pl, hv, _, hl, hm, hmm, hx, hi⟩
  · obtain rfl : v = .slice none 0 0 := by simpa using hv
    exact ⟨none, 0, [], rfl, Nat.le_refl _, Kd.C_nil _ _, Nat.zero_le _, fun s hs => by cases hs⟩
  · obtain rfl : v = .slice (some a) len cap := by simpa using hv
    have hlm : len ≤ m := by rw [hmm]; split <;> omega
    simp only [cells39] at hi
    obtain ⟨X, hX⟩ := Go.Deep.choose_lt (n := m) (p := fun i (x : S39) => (∃ cs : List Value, cs.length = 3 ∧ k39.K w x cs ∧ ∀ j, j < 3 → w.cell? ((a.add (i * 3)).add j) = cs[j]?) ∧ x.f1.size ≤ Rows.uptoBulk (D i) ∧ x.f2.length ≤ Rows.uptoBulk (D i)) (fun i him => by
      obtain ⟨cs, h1, h2⟩ := hi i him
      obtain ⟨x, h3, h4⟩ := open_attr h1 h2
      exact ⟨x, ⟨cs, h3⟩, h4⟩)
    have hlen : ((List.range len).map X).length = len := by simp
    simp only [Prod.mk.injEq] at hx
    refine ⟨some a, cap, (List.range len).map X, by rw [hlen], by rw [hlen]; exact hl, ?_, ?_, ?_⟩
    · rw [hlen]
      refine ⟨hlen, by unfold maxLen at hm; omega, fun _ => ⟨a, rfl, fun j q hq => ?_⟩⟩
      have hj : j < len := by have := (List.getElem?_eq_some_iff.1 hq).1; simpa using this
      obtain rfl : X j = q := by simpa [hj] using hq
      obtain ⟨⟨cs, h1, h2, h3⟩, _⟩ := hX j (by omega)
      refine ⟨cs, h1, h2, fun i u hu => ?_⟩
      have hi3 : i < 3 := by have := (List.getElem?_eq_some_iff.1 hu).1; omega
      have := h3 i hi3
      rw [Go.Deep.add_add, hu] at this
      exact this
    · rw [hlen, hx.1]
      have := bulks.slice_le (H := H) ((List.range len).map D) ((List.range (m - len)).map fun j => D (len + j))
      simp at this
      omega
    · intro s hs
      obtain ⟨i, hi', rfl⟩ := List.mem_map.1 hs
      have h1 := bulks.slice_elems (H := H) ((List.range len).map D) ((List.range (m - len)).map fun j => D (len + j))
      have h2 := bulks.part_le (H := H) (d := D i) (l := (List.range len).map D) (List.mem_map.2 ⟨i, hi', rfl⟩)
      have h3 := hX i (by have := List.mem_range.1 hi'; omega)
      rw [hx.1]
      omega
end
end Go.Proofs.YtghjinhgloegaaaDoor
