/- The reference's Find, own, asked: what each answers. -/
import Derived.Test.YtghjinhgloegaaaDoorRefN
import Derived.Test.YtghjinhgloegaaaDoorAsked
namespace Go.Proofs.YtghjinhgloegaaaDoor
open Go.RowKit Go.Proofs.YtghjinhgloegaaaDoorW.PrintWords
set_option linter.unusedVariables false
set_option linter.unusedSimpArgs false

def UsedPost (w : World) (o : Option Nat) (e : Ending) (w' : World) : Prop := ∃ (a d s : ByteArray) (A : Option Addr) (m c : Nat) (y u : Int), e = .returned (.tuple #[.agg #[.string a, .slice A m c, .string d, .string s, .int .i64 y, .int .i64 u], .bool o.isSome]) ∧ (∀ i, o = some i → u = (rowAt i).use) ∧ Below w.heap.size w w'
set_option maxHeartbeats 8000000 in
set_option maxRecDepth 100000 in
theorem refFind_calls (s : ByteArray) (hs : s.size ≤ 1000000000) (w : World) (hk : KindsAt w) : Calls Tryd.prog 67 #[.string s] w (UsedPost w (nameIdx (foldB s))) := by
  have HKN := Aside0.mk hk
  have hu84 := Tryd.underlying84
  clear hk
  go_enter Tryd.func67, Tryd.ntmps67
  go_wp2_with fail
  refine (row_calls s hs _).mono ?_
  rintro ee w2 ⟨rfl, hb2⟩
  have hlt : ∀ i, nameIdx (foldB s) = some i → i < 62 := fun i h => nameIdx_lt h
  obtain ⟨o, ho⟩ : ∃ o, o = nameIdx (foldB s) := ⟨_, rfl⟩
  rw [← ho] at hlt ⊢
  have HO := Aside0.mk ho
  clear ho
  have HB2 := Aside0.mk hb2
  clear hb2
  have hl0 : w.heap.size ≤ w.heap.size := Nat.le_refl _
  cases o with
  | none =>
    simp only [idxInt]
    have hblk := block_kept HB2.out
    have q0 := blk_cell hblk 0; have q1 := blk_cell hblk 1; have q2 := blk_cell hblk 2; have q3 := blk_cell hblk 3; have q4 := blk_cell hblk 4; have q5 := blk_cell hblk 5; have qf := blk_frozen hblk
    have HK := Aside0.mk hblk
    clear hblk
    go_wp2_with fail
    refine bodyPost_ret (results_ct rfl _ _ w.heap.size 84 _ (0, 0) _ rfl (blk_set (blk_set (blk_set (blk_set (blk_set (blk_set HK.out _ _) _ _) _ _) _ _) _ _) _ _) hu84 rfl (by kernel_rfl)) rfl ?_
    have hb := ((Below.refl w.heap.size w).alloc (Nat.le_refl _) _).trans (HB2.out.mono (by simp))
    show UsedPost w (nameIdx (foldB s)) _ _
    rw [← HO.out]
    exact ⟨⟨#[]⟩, ⟨#[]⟩, ⟨#[]⟩, none, 0, 0, 0, 0, rfl, fun i h => (by cases h), (((((hb.setCell hl0 _).setCell hl0 _).setCell hl0 _).setCell hl0 _).setCell hl0 _).setCell hl0 _⟩
  | some i =>
    have hi := hlt i rfl
    simp only [idxInt]
    have hi0 : ¬ ((i : Int) < 0) := by omega
    clear hlt
    go_wp2_with fail
    refine (refRow_calls i hi w2 ((HKN.out.alloc _).below HB2.out)).mono ?_
    rintro ee w3 ⟨a, d, sp, A, m, c, y, rfl, hb3⟩
    have HB3 := Aside0.mk (HB2.out.trans (hb3.mono HB2.out.size))
    have hblk := block_kept HB3.out
    have q0 := blk_cell hblk 0; have q1 := blk_cell hblk 1; have q2 := blk_cell hblk 2; have q3 := blk_cell hblk 3; have q4 := blk_cell hblk 4; have q5 := blk_cell hblk 5; have qf := blk_frozen hblk
    have HK := Aside0.mk hblk
    clear hblk hb3
    generalize hus : (rowAt i).use = us
    have HUS := Aside0.mk hus
    clear hus
    go_wp2_with fail
    refine bodyPost_ret (results_ct rfl _ _ w.heap.size 84 _ (0, 0) _ rfl (blk_set (blk_set (blk_set (blk_set (blk_set (blk_set HK.out _ _) _ _) _ _) _ _) _ _) _ _) hu84 rfl (by kernel_rfl)) rfl ?_
    have hb := ((Below.refl w.heap.size w).alloc (Nat.le_refl _) _).trans (HB3.out.mono (by simp))
    show UsedPost w (nameIdx (foldB s)) _ _
    rw [← HO.out]
    exact ⟨a, d, sp, A, m, c, y, us, rfl, fun j h => (by cases h; exact HUS.out.symm), (((((hb.setCell hl0 _).setCell hl0 _).setCell hl0 _).setCell hl0 _).setCell hl0 _).setCell hl0 _⟩
set_option maxHeartbeats 8000000 in
set_option maxRecDepth 100000 in
theorem refOwn_calls (s : ByteArray) (hs : s.size ≤ 900000000) (w : World) (hk : KindsAt w) : Calls Tryd.prog 48 #[.string s] w (CovPost w (ownF s)) := by
  have hu54 := Tryd.underlying54
  have hu84 := Tryd.underlying84
  have HS := Aside0.mk hs
  have HKN := Aside0.mk hk
  clear hs hk
  go_enter Tryd.func48, Tryd.ntmps48
  go_wp2_with fail
  refine (refParse_calls s HS.out _).mono ?_
  rintro ee w1 ⟨A1, n1, c1, p1, rfl, g1, h1, hb1⟩
  have HB1 := Aside0.mk hb1
  have HPE := Aside0.mk (parse_err s)
  have HT := Aside0.mk (show (parseF s).1.size ≤ 1000000000 by have := parse_type_size s; have := HS.out; omega)
  generalize hz1 : (parseF s).2.2.1 = e1 at HPE ⊢
  clear h1 hb1 hz1
  have HBW := Aside0.mk (HB1.out.alloc HB1.out.size (.cells #[.string (parseF s).1, .slice A1 n1 c1] 54))
  cases h0 : isDesc s with
  | false =>
    obtain rfl : e1 = 40 := by have := HPE.out; rw [h0] at this; simpa using this
    have HC := Aside0.mk (show ownF s = false by simp [ownF, h0])
    clear h0
    go_wp2
    go_ret
    rw [HC.out]
    exact ⟨rfl, HBW.out⟩
  | true =>
    obtain rfl : e1 = 0 := by have := HPE.out; rw [h0] at this; simpa using this
    have HC := Aside0.mk (show ownF s = (match (nameIdx (foldB (parseF s).1)).map rowAt with
      | some r => r.use == 1
      | none => false) by simp only [ownF, h0, findF, Bool.true_and]; rfl)
    clear h0
    go_wp2_with fail
    refine (refFind_calls (parseF s).1 HT.out _ (HKN.out.below HBW.out)).mono ?_
    rintro ee w2 ⟨a, d, sp, A, m, c, y, u, rfl, huse, hb2⟩
    have hb3 := HBW.out.trans (hb2.mono HBW.out.size)
    have HB3 := Aside0.mk (hb3.alloc hb3.size (.cells #[.string a, .slice A m c, .string d, .string sp, .int .i64 y, .int .i64 u] 84))
    have HB4 := Aside0.mk hb3
    clear hb2 hb3
    generalize nameIdx (foldB (parseF s).1) = o at huse HC ⊢
    cases o with
    | none =>
      have HC2 := Aside0.mk (show ownF s = false from HC.out)
      simp only [Option.isSome]
      go_wp2
      go_ret
      rw [HC2.out]
      exact ⟨rfl, HB3.out⟩
    | some i =>
      have HC2 := Aside0.mk (show ownF s = (u == 1) by rw [HC.out, huse i rfl]; rfl)
      simp only [Option.isSome]
      clear huse
      go_wp2
      go_ret
      rw [HC2.out]
      exact ⟨rfl, HB3.out⟩
set_option maxHeartbeats 8000000 in
set_option maxRecDepth 100000 in
theorem refAsked_calls (d e : ByteArray) (hd : d.size ≤ 900000000) (he : e.size ≤ 900000000) (w : World) (hk : KindsAt w) : Calls Tryd.prog 33 #[.string d, .string e] w (CovPost w (askedF d e)) := by
  have HS := Aside0.mk hd
  have HE := Aside0.mk he
  have HKN := Aside0.mk hk
  clear hd he hk
  go_enter Tryd.func33, Tryd.ntmps33
  go_wp2_with fail
  refine (refOwn_calls e HE.out _ HKN.out).mono ?_
  rintro ee w1 ⟨rfl, hb1⟩
  have HB1 := Aside0.mk hb1
  clear hb1
  have HF := Aside0.mk (show askedF d e = (if (d.toList == [49, 46, 49]) = true then false else if (d.toList == [42]) = true then !ownF e else if (d.toList == [43]) = true then ownF e else coversF d e) from rfl)
  generalize ownF e = oe at HF ⊢
  cases h1 : (d.toList == [42]) with
  | true =>
    have h2 : (d.toList == [49, 46, 49]) = false := by rw [beq_iff_eq.1 h1]; rfl
    have HC := Aside0.mk (show askedF d e = !oe by rw [HF.out, h2, h1]; rfl)
    go_wp2
    go_ret
    rw [HC.out]
    exact ⟨rfl, HB1.out⟩
  | false =>
    cases h3 : (d.toList == [43]) with
    | true =>
      have h2 : (d.toList == [49, 46, 49]) = false := by rw [beq_iff_eq.1 h3]; rfl
      have HC := Aside0.mk (show askedF d e = oe by rw [HF.out, h2, h1, h3]; rfl)
      go_wp2
      go_ret
      rw [HC.out]
      exact ⟨rfl, HB1.out⟩
    | false =>
      cases h2 : (d.toList == [49, 46, 49]) with
      | true =>
        have HC := Aside0.mk (show askedF d e = false by rw [HF.out, h2]; rfl)
        go_wp2
        go_ret
        rw [HC.out]
        exact ⟨rfl, HB1.out⟩
      | false =>
        have HC := Aside0.mk (show askedF d e = coversF d e by rw [HF.out, h2, h1, h3]; rfl)
        go_wp2_with fail
        refine (refCovers_calls d e HS.out HE.out _ (HKN.out.below HB1.out)).mono ?_
        rintro ee w2 ⟨rfl, hb2⟩
        have HB2 := Aside0.mk (HB1.out.trans (hb2.mono HB1.out.size))
        clear hb2
        go_wp2
        go_ret
        rw [HC.out]
        exact ⟨rfl, HB2.out⟩
end Go.Proofs.YtghjinhgloegaaaDoor
