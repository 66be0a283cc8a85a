/- attr.scan: is it a description's text, or the place where none goes on. -/
import Derived.Test.YtghjinhgloegaaaDoorRead
namespace Go.Proofs.YtghjinhgloegaaaDoor
open Go.RowKit Go.Proofs.YtghjinhgloegaaaDoorW.PrintWords
set_option linter.unusedVariables false
set_option linter.unusedSimpArgs false

/-- From byte k on, n bytes to go, the reader at a with p points. -/
def scanGo (s : ByteArray) (bare : Bool) : Nat → Nat → Int → Int → Bool × Nat
  | 0, _, a, p => (wholeB a p, s.size)
  | n + 1, k, a, p => if (bare = true ∧ bt s k = 59) ∨ (nx a p (bt s k)).1 = false then (false, k) else scanGo s bare n (k + 1) (nx a p (bt s k)).2.1 (nx a p (bt s k)).2.2
def scanF (s : ByteArray) (bare : Bool) : Bool × Nat := scanGo s bare s.size 0 0 0
def InSt (a : Int) : Prop := a = 0 ∨ a = 1 ∨ a = 2 ∨ a = 3 ∨ a = 4 ∨ a = 5 ∨ a = 6
theorem nx_st {a p c : Int} (h : InSt a) : InSt (nx a p c).2.1 := by
  unfold nx
  repeat' split
  all_goals first | exact h | (unfold InSt; simp)
theorem nx_pts {a p c : Int} (h : 0 ≤ p) : 0 ≤ (nx a p c).2.2 ∧ (nx a p c).2.2 ≤ p + 1 := by
  unfold nx
  repeat' split
  all_goals (simp; omega)
structure ScanAt (s : ByteArray) (bare : Bool) (w : World) (k : Nat) (a p : Int) (wr : World) : Prop where
  rd : RdAt w.heap.size wr a p
  below : Below w.heap.size w wr
  st : InSt a
  p0 : 0 ≤ p
  pk : p ≤ k
  go : scanGo s bare (s.size - k) k a p = scanF s bare
def ScanPost (w : World) (r : Bool × Nat) (e : Ending) (w' : World) : Prop := e = .returned (.tuple #[.bool r.1, .int .i64 r.2]) ∧ Below w.heap.size w w'
theorem ScanAt.last {s : ByteArray} {bare : Bool} {w wr : World} {a p : Int} (h : ScanAt s bare w s.size a p wr) : scanF s bare = (wholeB a p, s.size) := by
  rw [← h.go, Nat.sub_self]; rfl
theorem ScanAt.stop {s : ByteArray} {bare : Bool} {w wr : World} {k : Nat} {a p : Int} (h : ScanAt s bare w k a p wr) (hk : k < s.size) (hc : (bare = true ∧ bt s k = 59) ∨ (nx a p (bt s k)).1 = false) : scanF s bare = (false, k) := by
  rw [← h.go]
  obtain ⟨n, hn⟩ : ∃ n, s.size - k = n + 1 := ⟨s.size - k - 1, by omega⟩
  rw [hn, scanGo, if_pos hc]
theorem ScanAt.next {s : ByteArray} {bare : Bool} {w wr w1 : World} {k : Nat} {a p : Int} (h : ScanAt s bare w k a p wr) (hk : k < s.size) (hc : ¬ ((bare = true ∧ bt s k = 59) ∨ (nx a p (bt s k)).1 = false))
    (hb : Below w.heap.size wr w1) (hr : RdAt w.heap.size w1 (nx a p (bt s k)).2.1 (nx a p (bt s k)).2.2) : ScanAt s bare w (k + 1) (nx a p (bt s k)).2.1 (nx a p (bt s k)).2.2 w1 := by
  have hp := nx_pts (a := a) (c := bt s k) h.p0
  refine ⟨hr, h.below.trans hb, nx_st h.st, hp.1, by have := h.pk; omega, ?_⟩
  rw [← h.go]
  obtain ⟨n, hn⟩ : ∃ n, s.size - k = n + 1 := ⟨s.size - k - 1, by omega⟩
  rw [hn, show s.size - (k + 1) = n by omega, scanGo, if_neg hc]

set_option maxHeartbeats 1000000 in
set_option maxRecDepth 100000 in
theorem attr_scan (s : ByteArray) (bare : Bool) (w : World) (hs : s.size ≤ 1000000000) : Calls Tryd.prog 49 #[.string s, .bool bare] w (ScanPost w (scanF s bare)) := by
  have hu := Tryd.underlying98
  go_enter Tryd.func49, Tryd.ntmps49
  go_wp2
  go_loopw [11] (fun v wr => ∃ (k : Nat) (a p : Int), k ≤ s.size ∧ v = .int .i64 k ∧ ScanAt s bare w k a p wr) (fun v _ => s.size - (intOf v).toNat)
  case atStart => exact ⟨0, 0, 0, Nat.zero_le _, rfl, blk_new _ _, (Below.refl _ _).alloc (Nat.le_refl _) _, .inl rfl, by omega, by omega, rfl⟩
  case round =>
    obtain ⟨k, a, p, hk, rfl, hf⟩ := hrel
    by_cases hlt : k < s.size
    · have hb255 := bt_range s k
      have hidx := bt_at s k
      have HF := Aside0.mk hf
      have hrd := hf.rd
      have hst := hf.st
      have hp0 := hf.p0
      have hpk := hf.pk
      clear hf
      have hx : ((s[k]'hlt).toNat : Int) = bt s k := bt_at s k (by simpa using hlt)
      cases bare with
      | true =>
        by_cases h59 : bt s k = 59
        · have HS := Aside0.mk (HF.out.stop hlt (.inl ⟨rfl, h59⟩))
          have h59b : (bt s k == 59) = true := by simp [h59]
          clear h59
          go_wp2
          go_ret2
          rw [HS.out]
          exact ⟨rfl, HF.out.below⟩
        · have h59b : (bt s k == 59) = false := by simp [h59]
          cases hn : (nx a p (bt s k)).1 with
          | false =>
            have HS := Aside0.mk (HF.out.stop hlt (.inr hn))
            have HN := Aside0.mk hn
            clear hn h59
            go_wp2_with (go_at_call 68; refine (attr_next w.heap.size a p (bt s k) _ hrd hst hp0 (by omega) (by omega) (by omega)).mono ?_; rintro e w1 ⟨rfl, hb, hr⟩; rw [HN.out]; have HB := Aside0.mk hb; clear hb hr)
            go_ret2
            rw [HS.out]
            exact ⟨rfl, HF.out.below.trans HB.out⟩
          | true =>
            have HS := Aside0.mk (fun w1 => HF.out.next (w1 := w1) hlt (by rw [hn]; simp [h59]))
            have HN := Aside0.mk hn
            clear hn h59
            go_wp2_with (go_at_call 68; refine (attr_next w.heap.size a p (bt s k) _ hrd hst hp0 (by omega) (by omega) (by omega)).mono ?_; rintro e w1 ⟨rfl, hb, hr⟩; rw [HN.out]; have HB := Aside0.mk hb; have HR := Aside0.mk hr; clear hb hr)
            go_roundw
            case rel => exact ⟨k + 1, _, _, by omega, by go_num, HS.out _ HB.out HR.out⟩
            case measure => simp [intOf]; omega
      | false =>
          cases hn : (nx a p (bt s k)).1 with
          | false =>
            have HS := Aside0.mk (HF.out.stop hlt (.inr hn))
            have HN := Aside0.mk hn
            clear hn
            go_wp2_with (go_at_call 68; refine (attr_next w.heap.size a p (bt s k) _ hrd hst hp0 (by omega) (by omega) (by omega)).mono ?_; rintro e w1 ⟨rfl, hb, hr⟩; rw [HN.out]; have HB := Aside0.mk hb; clear hb hr)
            go_ret2
            rw [HS.out]
            exact ⟨rfl, HF.out.below.trans HB.out⟩
          | true =>
            have HS := Aside0.mk (fun w1 => HF.out.next (w1 := w1) hlt (by rw [hn]; simp))
            have HN := Aside0.mk hn
            clear hn
            go_wp2_with (go_at_call 68; refine (attr_next w.heap.size a p (bt s k) _ hrd hst hp0 (by omega) (by omega) (by omega)).mono ?_; rintro e w1 ⟨rfl, hb, hr⟩; rw [HN.out]; have HB := Aside0.mk hb; have HR := Aside0.mk hr; clear hb hr)
            go_roundw
            case rel => exact ⟨k + 1, _, _, by omega, by go_num, HS.out _ HB.out HR.out⟩
            case measure => simp [intOf]; omega
    · obtain rfl : k = s.size := by omega
      have HL := Aside0.mk hf.last
      have q0 : wr.cell? ⟨w.heap.size, 0, none⟩ = some (.int .i64 a) := blk_cell hf.rd 0
      have q1 : wr.cell? ⟨w.heap.size, 1, none⟩ = some (.int .i64 p) := blk_cell hf.rd 1
      have HF := Aside0.mk hf
      clear hf
      go_wp2_with (go_at_call 69; refine (attr_whole _ _ _ HF.out.st).mono ?_; rintro e w1 ⟨rfl, hb⟩; have HB := Aside0.mk hb; clear hb)
      go_ret2
      rw [HL.out]
      exact ⟨rfl, HF.out.below.trans (HB.out.mono HF.out.below.size)⟩
end Go.Proofs.YtghjinhgloegaaaDoor
