/- attr.Print, attr.Canonical: that they return, and Canonical's error. -/
import Derived.Test.YtghjinhgloegaaaDoorBuild
import Derived.Test.YtghjinhgloegaaaDoorCover
namespace Go.Proofs.YtghjinhgloegaaaDoor
open Go.RowKit Go.Proofs.YtghjinhgloegaaaDoorW.PrintWords
set_option linter.unusedVariables false
set_option linter.unusedSimpArgs false

theorem write_bytes (B b : Nat) (l : List UInt8) (s : ByteArray) (w : World) (h : Lib.IsBuilder 73 5 B b (Lib.byteCells l) w) (hlen : l.length + s.size ≤ 140737488355328) (hBw : B ≤ w.heap.size) :
    Calls Tryd.prog 54 #[.pointer (some ⟨b, 0, none⟩), .string s] w fun e w' => e = .returned (.tuple #[.int .i64 s.size, .nilIface]) ∧ Lib.IsBuilder 73 5 B b (Lib.byteCells (l ++ s.data.toList)) w' ∧ Below B w w' := by
  refine (write_String B b _ s w h (by rw [Lib.byteCells_length]; exact hlen) hBw).mono ?_
  rintro e w' ⟨rfl, h1, h2⟩
  rw [Lib.strCells_eq, ← Lib.byteCells_append] at h1
  exact ⟨rfl, .inr h1, h2⟩
theorem builder_new (w : World) : Lib.IsBuilder 73 5 w.heap.size w.heap.size (Lib.byteCells []) (w.alloc (.cells #[.pointer none, .slice none 0 0] 73)) :=
  .inl ⟨Nat.le_refl _, .slice none 0 0, blk_new _ _, own_nil _ _ _ _, by simp [Value.ownBlock]⟩
def TextPost (w : World) (e : Ending) (w' : World) : Prop := ∃ s : ByteArray, e = .returned (.string s) ∧ Below w.heap.size w w'

set_option maxHeartbeats 2000000 in
set_option maxRecDepth 100000 in
theorem attr_Print (t : ByteArray) (A : Option Addr) (n c : Nat) (opts : List ByteArray) (w : World) (hC : Kd.C Kd.string w A n opts) (ht : t.size ≤ 1100000000) (hn : n ≤ 3000000) (ho : ∀ o ∈ opts, o.size ≤ 3000000) :
    Calls Tryd.prog 35 #[.agg #[.string t, .slice A n c]] w (TextPost w) := by
  have HC := Aside0.mk hC
  have HO := Aside0.mk ho
  have hu := Tryd.underlying54
  clear hC ho
  go_enter Tryd.func35, Tryd.ntmps35
  go_wp2_with fail
  have hB0 : Lib.IsBuilder 73 5 (w.heap.size + 1) (w.heap.size + 1) (Lib.byteCells []) ((w.alloc (.cells #[.string t, .slice A n c] 54)).alloc (.cells #[.pointer none, .slice none 0 0] 73)) := by
    have := builder_new (w.alloc (.cells #[.string t, .slice A n c] 54))
    simpa using this
  refine (write_bytes (w.heap.size + 1) (w.heap.size + 1) [] t _ hB0 (by simp; omega) (by simp)).mono ?_
  rintro ee w1 ⟨rfl, hB1, hb1⟩
  have HB1 := Aside0.mk hB1
  have hlt1 : w.heap.size + 1 ≤ w1.heap.size := by have := hb1.size; simp at this; omega
  have hbx : w1.heap[w.heap.size]? = some (.cells #[.string t, .slice A n c] 54 (0, 0)) := by
    rw [hb1.block _ (by omega)]
    exact blk_alloc (blk_new _ _) _
  have HBX := Aside0.mk hbx
  have q1 : w1.cell? ⟨w.heap.size, 1, none⟩ = some (.slice A n c) := blk_cell hbx 1
  have HW1 := Aside0.mk (show Below w.heap.size w w1 from (((Below.refl _ _).alloc (Nat.le_refl _) _).alloc (by simp) _).trans (hb1.mono (by omega)))
  clear hB0 hB1 hb1 hbx
  go_wp2_with fail
  go_loopg [5, 12] n (fun kq v5 v12 wr => ∃ (k : Nat) (l : List UInt8), k ≤ n ∧ v12 = .int .i64 k ∧ l.length ≤ t.size + k * 3000001 ∧ Aside0 (kq + k = n) ∧ Aside0 (Lib.IsBuilder 73 5 (w.heap.size + 1) (w.heap.size + 1) (Lib.byteCells l) wr) ∧ Aside0 (Below (w.heap.size + 1) w1 wr))
  case atStart => exact ⟨0, t.data.toList, Nat.zero_le _, rfl, by rw [Array.length_toList]; exact Nat.le_add_right _ _, ⟨rfl⟩, HB1, ⟨Below.refl _ _⟩⟩
  case round =>
    obtain ⟨k, l, hk, rfl, hl, hq, hB, hw⟩ := hrel
    have hsz := hw.out.size
    by_cases hlt : k < n
    · obtain ⟨ad, rfl, hcell⟩ := Kd.at_string (Kd.C_below HC.out (HW1.out.trans (hw.out.mono (by omega)))) k (by omega) (by omega)
      have hko : k < opts.length := by have := HC.out.1; omega
      obtain ⟨o, ho⟩ : ∃ o, o = opts.getD k ByteArray.empty := ⟨_, rfl⟩
      have hcell2 : wr.cell? (ad.add k) = some (.string o) := by rw [ho]; simpa [rdOf] using hcell
      have hos : o.size ≤ 3000000 := HO.out o (by rw [ho, List.getD_eq_getElem?_getD, List.getElem?_eq_getElem hko]; exact List.getElem_mem _)
      clear hcell ho hko
      go_wp2_with fail
      refine (write_bytes (w.heap.size + 1) (w.heap.size + 1) l ⟨#[59]⟩ wr hB.out (by simp [ByteArray.size]; omega) (by omega)).mono ?_
      rintro ee w3 ⟨rfl, hB3, hb3⟩
      have HB3 := Aside0.mk hB3
      have HW3 := Aside0.mk (hw.out.trans hb3)
      have hs3 := hb3.size
      clear hB3 hb3 hcell2 hB hw
      go_wp2_with fail
      refine (write_bytes (w.heap.size + 1) (w.heap.size + 1) (l ++ [59]) o w3 HB3.out (by simp; omega) (by omega)).mono ?_
      rintro ee w4 ⟨rfl, hB4, hb4⟩
      have HB4 := Aside0.mk hB4
      have HW4 := Aside0.mk (HW3.out.trans hb4)
      clear hB4 hb4
      go_wp2_with fail
      go_roundg (gk - 1)
      case measure => have := hq.out; omega
      case rel => exact ⟨k + 1, _, by omega, by go_num, by have e1 : o.data.toList.length = o.size := by rw [Array.length_toList]; rfl
                                                           rw [List.length_append, List.length_append, e1]; simp; omega, ⟨by have := hq.out; omega⟩, HB4, HW4⟩
    · obtain rfl : k = n := by omega
      go_wp2_with fail
      refine (YtghjinhgloegaaaDoor.Builder_String_any (w.heap.size + 1) (w.heap.size + 1) l wr hB.out (by omega)).mono ?_
      rintro ee w3 ⟨rfl, hb3⟩
      have HB3 := Aside0.mk hb3
      clear hb3
      go_wp2
      go_ret
      exact ⟨_, rfl, HW1.out.trans ((hw.out.trans HB3.out).mono (by omega))⟩
end Go.Proofs.YtghjinhgloegaaaDoor
