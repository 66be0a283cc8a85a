/- attr.Canonical: its error; what a description asks for of itself. -/
import Derived.Test.YtghjinhgloegaaaDoorPrint
import Derived.Lib.SplitLaws
namespace Go.Proofs.YtghjinhgloegaaaDoor
open Go.RowKit Go.Sort Go.Proofs.YtghjinhgloegaaaDoorW.PrintWords
set_option linter.unusedVariables false
set_option linter.unusedSimpArgs false

theorem dedup_length (l : List (List UInt8)) : (dedup l).length ≤ l.length := by
  induction l with
  | nil => exact Nat.le_refl _
  | cons y l ih =>
    unfold dedup
    split
    · simp; omega
    · simp; omega
theorem optB_length (s : ByteArray) : (optB s).length ≤ s.size := by
  have h1 := pieces_length s
  have h2 := Lib.countB_le semi (by decide) _ s (Nat.le_refl _)
  have h3 := dedup_length ((pieces s).tail.map foldL)
  unfold optB optL
  rw [List.length_map, List.length_mergeSort]
  rw [List.length_map, List.length_tail] at h3
  omega
theorem optB_size {s o : ByteArray} (h : o ∈ optB s) : o.size ≤ s.size := by
  unfold optB optL at h
  obtain ⟨l, hl, rfl⟩ := List.mem_map.1 h
  have h1 := mem_dedup.1 (List.mem_mergeSort.1 hl)
  obtain ⟨q, hq, rfl⟩ := List.mem_map.1 h1
  have h2 := pieces_size (List.mem_of_mem_tail hq)
  have h3 := foldB_size q
  have h4 : (mkB (foldL q)).size = (foldB q).size := by
    show ((foldB q).data.toList.toArray).size = (foldB q).data.size
    simp
  omega
def CanPost (w : World) (s : ByteArray) (e : Ending) (w' : World) : Prop := ∃ (t : ByteArray) (k p : Int), e = .returned (.tuple #[.string t, .int .i64 k, .int .i64 p]) ∧ (k = 0 → isDesc s = true) ∧ Below w.heap.size w w'

set_option maxHeartbeats 1000000 in
set_option maxRecDepth 100000 in
theorem attr_Canonical (s : ByteArray) (w : World) (hs : s.size ≤ 2000000) (hm : MaxAt w) : Calls Tryd.prog 22 #[.string s] w (CanPost w s) := by
  have HM := Aside0.mk hm
  have hu := Tryd.underlying54
  clear hm
  cases hd : isDesc s with
  | false =>
    have HD := Aside0.mk hd
    clear hd
    go_enter Tryd.func22, Tryd.ntmps22
    go_wp2_with fail
    refine (attr_Parse s w (by omega) HM.out).mono ?_
    intro ee w1 hp
    obtain ⟨v, pl, rfl, hr, hb⟩ := hp.no HD.out
    obtain ⟨A, c, rfl⟩ := Kd.R_slice hr
    have HB := Aside0.mk hb
    clear hr hb hp
    go_wp2
    go_ret3
    exact ⟨_, _, _, rfl, fun h => by simp at h, HB.out.alloc HB.out.size _⟩
  | true =>
    have HD := Aside0.mk hd
    clear hd
    go_enter Tryd.func22, Tryd.ntmps22
    go_wp2_with fail
    refine (attr_Parse s w (by omega) HM.out).mono ?_
    rintro ee w1 ⟨v, rfl, hr, hb⟩
    rw [parse_err_yes HD.out] at hr ⊢
    obtain ⟨A, c, rfl, hc, hC⟩ := Kd.R_reads hr
    have HB := Aside0.mk hb
    have hlen := optB_length s
    have hsz := canonT_size (headB s)
    have hsz2 := headB_size s
    have HC := Aside0.mk hC
    have HO := Aside0.mk (fun (o : ByteArray) (ho : o ∈ optB s) => Nat.le_trans (optB_size ho) (Nat.le_trans hs (show 2000000 ≤ 3000000 by decide)))
    clear hr hb hC
    simp only [yesDesc] at HC hlen ⊢
    obtain ⟨n, hn⟩ : ∃ n, n = (optB s).length := ⟨_, rfl⟩
    rw [← hn] at HC hlen ⊢
    clear hn hc
    obtain ⟨t, ht⟩ : ∃ t, t = canonT (headB s) := ⟨_, rfl⟩
    rw [← ht] at hsz ⊢
    clear ht
    go_wp2_with fail
    refine (attr_Print t A n c (optB s) _ (Kd.C_alloc HC.out _) (by omega) (by omega) HO.out).mono ?_
    rintro ee w2 ⟨r, rfl, hb2⟩
    have HB2 := Aside0.mk ((HB.out.alloc HB.out.size _).trans (hb2.mono (by have := HB.out.size; simp; omega)))
    clear hb2
    go_wp2
    go_ret3
    exact ⟨_, _, _, rfl, fun _ => HD.out, HB2.out⟩
end Go.Proofs.YtghjinhgloegaaaDoor
