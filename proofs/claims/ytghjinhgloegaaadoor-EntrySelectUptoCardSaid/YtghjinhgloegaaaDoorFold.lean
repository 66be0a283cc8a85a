/- text.Fold: what the call computes. -/
import Derived.Test.YtghjinhgloegaaaDoorProg
import Derived.Test.YtghjinhgloegaaaDoorWWords
namespace Go.Proofs.YtghjinhgloegaaaDoor
open Go.RowKit Go.Proofs.YtghjinhgloegaaaDoorW.PrintWords
set_option linter.unusedVariables false
set_option linter.unusedSimpArgs false

def lowN (c : Int) : Int := if 65 ≤ c ∧ c ≤ 90 then c + 32 else c
def foldB (s : ByteArray) : ByteArray := strOfNums ((bytesOf s).map lowN)

structure FoldAt (s : ByteArray) (w : World) (k : Nat) (wr : World) : Prop where
  below : Below w.heap.size w wr
  cell : ∀ j, j < s.size → wr.cell? ⟨w.heap.size, j, none⟩ = some (.int .u8 (if j < k then lowN (bt s j) else bt s j))
  free : ∀ j, j < s.size → wr.frozen? ⟨w.heap.size, j, none⟩ = false

theorem FoldAt.start (s : ByteArray) (w : World) : FoldAt s w 0 (Lib.bytesWorld w 5 s) := by
  refine ⟨bytes_below (Below.refl _ _) (Nat.le_refl _) 5 s, fun j hj => ?_, fun j hj => ?_⟩
  · rw [Lib.bytesWorld_cell w 5 s j hj, if_neg (by omega)]
    have hj' : j < s.data.size := hj
    simp [bt, hj, List.getD_eq_getElem?_getD, hj']
    rfl
  · have hlen : s.size ≤ (Lib.bytesCells w 5 s).size := by simp [Lib.bytesCells]
    simp [World.frozen?, Lib.bytesWorld_at_new]
    omega

theorem FoldAt.keep {s : ByteArray} {w wr : World} {k : Nat} (h : FoldAt s w k wr) (hlow : lowN (bt s k) = bt s k) : FoldAt s w (k + 1) wr :=
  ⟨h.below, fun j hj => by
    rw [h.cell j hj]
    by_cases e : j = k
    · subst e; simp [hlow]
    · by_cases e2 : j < k
      · rw [if_pos e2, if_pos (by omega)]
      · rw [if_neg e2, if_neg (by omega)], h.free⟩

theorem FoldAt.put {s : ByteArray} {w wr : World} {k : Nat} (h : FoldAt s w k wr) (hk : k < s.size) (u : Int) (hlow : lowN (bt s k) = u) : FoldAt s w (k + 1) (wr.setCell ⟨w.heap.size, k, none⟩ (.int .u8 u)) :=
  ⟨h.below.setCell (Nat.le_refl _) _, fun j hj => by
    by_cases e : j = k
    · subst e
      rw [World.cell?_setCell_same wr _ _ (h.cell j hj), if_pos (by omega), hlow]
    · rw [World.cell?_setCell_other wr _ _ _ (by intro he; injection he with h1 h2; omega), h.cell j hj]
      by_cases e2 : j < k
      · rw [if_pos e2, if_pos (by omega)]
      · rw [if_neg e2, if_neg (by omega)], fun j hj => by rw [World.frozen?_setCell]; exact h.free j hj⟩

theorem text_Fold (s : ByteArray) (w : World) (hs : s.size ≤ 140737488355328) :
    Calls Tryd.prog 51 #[.string s] w fun e w' => e = .returned (.string (foldB s)) ∧ Below w.heap.size w w' := by
  have kb := fun W => print_bytes (P := Tryd.prog) 9 71 5 Tryd.underlying9 Tryd.underlying71 Tryd.underlying5 s W
  go_enter Tryd.func51, Tryd.ntmps51
  go_wp2
  go_loopw [10] (fun v wr => ∃ k : Nat, k ≤ s.size ∧ v = .int .i64 k ∧ FoldAt s w k wr) (fun v _ => s.size - (intOf v).toNat)
  case atStart => exact ⟨0, Nat.zero_le _, rfl, FoldAt.start s w⟩
  case round =>
    obtain ⟨k, hk, rfl, hf⟩ := hrel
    by_cases hlt : k < s.size
    · have hc : wr.cell? ⟨w.heap.size, k, none⟩ = some (.int .u8 (bt s k)) := by rw [hf.cell k hlt, if_neg (by omega)]
      have hz := hf.free k hlt
      have hb := bt_range s k
      by_cases h1 : 65 ≤ bt s k
      · by_cases h2 : bt s k ≤ 90
        · have hp := Aside0.mk (hf.put hlt (bt s k + 97 - 65) (by simp [lowN, h1, h2]; omega))
          clear hf
          go_wp2
          go_roundw
          case rel => exact ⟨k + 1, by omega, by go_num, hp.out⟩
          case measure => simp [intOf]; omega
        · have hp := Aside0.mk (hf.keep (k := k) (by simp [lowN, h1, h2]))
          clear hf
          go_wp2
          go_roundw
          case rel => exact ⟨k + 1, by omega, by go_num, hp.out⟩
          case measure => simp [intOf]; omega
      · have hp := Aside0.mk (hf.keep (k := k) (by simp [lowN, h1]))
        clear hf
        go_wp2
        go_roundw
        case rel => exact ⟨k + 1, by omega, by go_num, hp.out⟩
        case measure => simp [intOf]; omega
    · obtain rfl : k = s.size := by omega
      have hcv : ∀ dst, Tryd.prog.underlying dst = some .string → (convert 71 dst (.slice (some ⟨w.heap.size, 0, none⟩) s.size (grownCap w s.size 0 5))).run Tryd.prog wr = .ok (.string (foldB s)) wr :=
        run_convert_bytes_arg wr 71 5 Tryd.underlying71 Tryd.underlying5 w.heap.size 0 s.size _ ((bytesOf s).map lowN) (by simp [bytesOf_length]) (fun i hi => by
          rw [Nat.zero_add, hf.cell i hi, if_pos hi]
          have := bytesOf_length s
          rw [← rd_bytesOf]
          simp [rd, List.getD_eq_getElem?_getD, List.getElem?_eq_getElem (show i < (bytesOf s).length by omega)])
      have hcv9 := hcv 9 Tryd.underlying9
      clear hcv
      have hb := Aside0.mk hf.below
      clear hf
      go_wp2
      go_ret
      exact ⟨rfl, hb.out⟩
end Go.Proofs.YtghjinhgloegaaaDoor
