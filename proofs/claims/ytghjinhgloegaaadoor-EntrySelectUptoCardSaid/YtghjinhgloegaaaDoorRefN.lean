/- The reference's Row, Find, own, asked: what each answers. -/
import Derived.Test.YtghjinhgloegaaaDoorRefThree
namespace Go.Proofs.YtghjinhgloegaaaDoor
open Go.RowKit Go.Proofs.YtghjinhgloegaaaDoorW.PrintWords Go.Proofs.YtghjinhgloegaaaDoorW.PrintLast
set_option linter.unusedVariables false
set_option linter.unusedSimpArgs false

theorem kinds_set {w : World} (h : KindsAt w) (p : Addr) (u : Value) (hp : ¬ (0 : Nat) = p.block) : KindsAt (w.setCell p u) := fun j hj => ⟨by rw [cell_off _ _ _ _ hp]; exact (h j hj).1, by rw [cell_off _ _ _ _ hp]; exact (h j hj).2.1, by rw [cell_off _ _ _ _ hp]; exact (h j hj).2.2⟩
def UsePost (w : World) (i : Nat) (e : Ending) (w' : World) : Prop := ∃ (a o s : ByteArray) (A : Option Addr) (m c : Nat) (y : Int), e = .returned (.agg #[.string a, .slice A m c, .string o, .string s, .int .i64 y, .int .i64 (rowAt i).use]) ∧ Below w.heap.size w w'
set_option maxHeartbeats 8000000 in
set_option maxRecDepth 100000 in
theorem refRow_calls (i : Nat) (hi : i < 62) (w : World) (hk : KindsAt w) : Calls Tryd.prog 79 #[.int .i64 i] w (UsePost w i) := by
  have HKN := Aside0.mk hk
  have hu84 := Tryd.underlying84
  clear hk
  go_enter Tryd.func79, Tryd.ntmps79
  go_wp2_with fail
  obtain ⟨z2, z3⟩ := two_new w (.cells #[.string ⟨#[]⟩, .slice none 0 0, .string ⟨#[]⟩, .string ⟨#[]⟩, .int .i64 0, .int .i64 0] 84) (.cells #[.string ⟨#[]⟩, .slice none 0 0, .string ⟨#[]⟩, .string ⟨#[]⟩, .int .i64 0, .int .i64 0] 84)
  have hb0 := ((Below.refl w.heap.size w).alloc (Nat.le_refl _) (.cells #[.string ⟨#[]⟩, .slice none 0 0, .string ⟨#[]⟩, .string ⟨#[]⟩, .int .i64 0, .int .i64 0] 84)).alloc (by simp) (.cells #[.string ⟨#[]⟩, .slice none 0 0, .string ⟨#[]⟩, .string ⟨#[]⟩, .int .i64 0, .int .i64 0] 84)
  have hs0 : ((w.alloc (.cells #[.string ⟨#[]⟩, .slice none 0 0, .string ⟨#[]⟩, .string ⟨#[]⟩, .int .i64 0, .int .i64 0] 84)).alloc (.cells #[.string ⟨#[]⟩, .slice none 0 0, .string ⟨#[]⟩, .string ⟨#[]⟩, .int .i64 0, .int .i64 0] 84)).heap.size = w.heap.size + 2 := by simp
  refine (names_calls _).mono ?_
  rintro ee w2 ⟨rfl, hb2⟩
  have hsz := hb2.size
  rw [hs0] at hsz
  have hN := setRow_heap (w2.alloc (Obj.cells Tryd.zeroCells90 90)) w2.heap.size _ namesC _ _ (blk_new w2 (Obj.cells Tryd.zeroCells90 90))
  have hz : Below w2.heap.size w2 ((w2.alloc (Obj.cells Tryd.zeroCells90 90)).setRow w2.heap.size namesC) := below_setRow ((Below.refl _ _).alloc (Nat.le_refl _) _) (Nat.le_refl _) _
  have y2 := blk_below (blk_below z2 hb2) hz
  have y3 := blk_below (blk_below z3 hb2) hz
  have hb3 := (hb0.trans (hb2.mono hb0.size)).trans (hz.mono (by omega))
  clear z2 z3 hb0 hs0 hb2 hz
  go_upto_region 3 with ((with_reducible refine gate_store (t := 90) (p := 4) rfl ?_); refine wpList_store_row rfl 90 (.tmp 4) (.tmp 5) rfl w2.heap.size namesC rfl rfl 90 Tryd.zeroCells90 (blk_new _ _) (by kernel_rfl) (by kernel_rfl) (by kernel_rfl) ?_)
  generalize (w2.alloc (Obj.cells Tryd.zeroCells90 90)).setRow w2.heap.size namesC = W at hN y2 y3 hb3 ⊢
  obtain ⟨n0, n1, n2⟩ := names_at hN i hi
  have HK3 := Aside0.mk (HKN.out.below hb3)
  obtain ⟨k0, k1, k2⟩ := HK3.out i hi
  have HUP := Aside0.mk (show ∀ j, upOf i = some j → j < 62 from fun j hj => (up_some hi hj).1)
  have HNN := Aside0.mk hN
  generalize (rowAt i).nm = nm at n0
  generalize (rowAt i).al.headD ⟨#[]⟩ = al at n1
  generalize (rowAt i).oid = oid at n2
  generalize (rowAt i).syn = syn at k1
  generalize hus : (rowAt i).use = us at k2
  generalize upOf i = up at k0 HUP
  have p0 : W.cell? ⟨w.heap.size + 1, 0, none⟩ = some (.string ⟨#[]⟩) := blk_cell y3 0
  have p1 : W.cell? ⟨w.heap.size + 1, 1, none⟩ = some (.slice none 0 0) := blk_cell y3 1
  have p2 : W.cell? ⟨w.heap.size + 1, 2, none⟩ = some (.string ⟨#[]⟩) := blk_cell y3 2
  have p3 : W.cell? ⟨w.heap.size + 1, 3, none⟩ = some (.string ⟨#[]⟩) := blk_cell y3 3
  have p4 : W.cell? ⟨w.heap.size + 1, 4, none⟩ = some (.int .i64 0) := blk_cell y3 4
  have p5 : W.cell? ⟨w.heap.size + 1, 5, none⟩ = some (.int .i64 0) := blk_cell y3 5
  have pf := blk_frozen y3
  have Y2 := Aside0.mk y2
  have Y3 := Aside0.mk y3
  have HB3 := Aside0.mk hb3
  have HUS := Aside0.mk hus
  have HSZ := Aside0.mk hsz
  have e1 : ¬ w2.heap.size = w.heap.size + 1 := by omega
  have e2 : ¬ w.heap.size + 1 = w2.heap.size := by omega
  have e3 : ¬ w2.heap.size = w.heap.size := by omega
  have e4 : ¬ w.heap.size = w2.heap.size := by omega
  generalize hg : w2.heap.size = g at n0 n1 n2 e1 e2 e3 e4 HNN HSZ ⊢
  clear hN y2 y3 hb3 hus hsz hg
  go_upto_if 15 with (fail)
  have hV : Below (w.heap.size + 1) W (W.setCell ⟨w.heap.size + 1, 0, none⟩ (.string nm)) := bset _ _ _ _
  have h3 := blk_set Y3.out 0 (.string nm)
  have h2 := blk_far Y2.out (p := ⟨w.heap.size + 1, 0, none⟩) (by simp) (.string nm)
  have hn := blk_far HNN.out (p := ⟨w.heap.size + 1, 0, none⟩) e1 (.string nm)
  have hkv : KindsAt (W.setCell ⟨w.heap.size + 1, 0, none⟩ (.string nm)) := fun j hj => ⟨by rw [cell_off _ _ _ _ (by simp)]; exact (HK3.out j hj).1, by rw [cell_off _ _ _ _ (by simp)]; exact (HK3.out j hj).2.1, by rw [cell_off _ _ _ _ (by simp)]; exact (HK3.out j hj).2.2⟩
  have hbv := HB3.out.trans (hV.mono (by omega))
  have n1' : (W.setCell ⟨w.heap.size + 1, 0, none⟩ (.string nm)).cell? ⟨g, i * 3 + 1, none⟩ = some (.string al) := by rw [cell_off _ _ _ _ (by simpa using e1)]; exact n1
  clear n1 p0 p1 p2 p3 p4 p5 pf Y2 Y3 HB3 HK3 HNN n0 n2 k0 k1 k2 hV
  generalize W.setCell ⟨w.heap.size + 1, 0, none⟩ (.string nm) = V at h3 h2 hn hkv hbv n1' ⊢
  have n1 := n1'
  have H3 := Aside0.mk h3
  have H2 := Aside0.mk h2
  have HN := Aside0.mk hn
  have HKV := Aside0.mk hkv
  have HBV := Aside0.mk hbv
  have v1 : V.cell? ⟨w.heap.size + 1, 1, none⟩ = some (.slice none 0 0) := blk_cell h3 1
  clear h3 h2 hn hkv hbv n1'
  go_cut [] (fun V => ∃ (A : Option Addr) (m c : Nat), Aside0 (V.heap[w.heap.size + 1]? = some (.cells #[.string nm, .slice A m c, .string ⟨#[]⟩, .string ⟨#[]⟩, .int .i64 0, .int .i64 0] 84 (0, 0))) ∧ Aside0 (V.heap[w.heap.size]? = some (.cells #[.string ⟨#[]⟩, .slice none 0 0, .string ⟨#[]⟩, .string ⟨#[]⟩, .int .i64 0, .int .i64 0] 84 (0, 0))) ∧ Aside0 (V.heap[g]? = some (.cells namesC 90 (0, 0))) ∧ Aside0 (KindsAt V) ∧ Aside0 (Below w.heap.size w V))
  case first =>

    cases hal : al.toList.isEmpty with
    | true =>
      go_wp2
      go_meet
      case rel => exact ⟨none, 0, 0, H3, H2, HN, HKV, HBV⟩
    | false =>
      go_upto_region 5 with (fail)
      refine start_ (n := 10) (S := (fun w' => Below V.heap.size V w' ∧ w'.cell? ⟨w.heap.size + 1, 1, none⟩ = some (.slice none 0 0) ∧ w'.cell? ⟨g, i * 3 + 1, none⟩ = some (.string al))) (ds := [9]) #[false, false, false, false, false, false, false, false, false, false] (by kernel_rfl) rfl rfl ⟨below_drew (Below.refl _ _), v1, n1⟩ (fun hHeld => ?_)
      refine pure_ (i := 0) (N := (some 16)) (v := ?_) (a' := ?_) #[true, false, false, false, false, false, false, false, false, false] rfl rfl (by kernel_rfl) (fun _ _ _ h => h) (Or.inl ⟨by rfl, ?_⟩) ?_ ?_
      rotate_left
      · intro w'
        go_simp
        all_goals with_reducible rfl
      rotate_left
      · simp only [Act.put, List.setIfInBounds_toArray, List.set_cons_zero, List.set_cons_succ, i64_w, i32_w]
        rfl
      refine take_ (i := 1) (N := (some 17)) (v := ?_) (a' := ?_) #[true, true, false, false, false, false, false, false, false, false] rfl rfl (by kernel_rfl) (fun _ _ _ h => h) (Or.inl ⟨by rfl, ?_⟩) hHeld ?_ ?_
      rotate_left
      · rintro w' ⟨_, s3, s1⟩
        go_simp
        all_goals with_reducible rfl
      rotate_left
      · simp only [Act.put, List.setIfInBounds_toArray, List.set_cons_zero, List.set_cons_succ, i64_w, i32_w]
        rfl
      refine pure_ (i := 2) (N := (some 18)) (v := ?_) (a' := ?_) #[true, true, true, false, false, false, false, false, false, false] rfl rfl (by kernel_rfl) (fun _ _ _ h => h) (Or.inl ⟨by rfl, ?_⟩) ?_ ?_
      rotate_left
      · intro w'
        go_simp
        all_goals with_reducible rfl
      rotate_left
      · simp only [Act.put, List.setIfInBounds_toArray, List.set_cons_zero, List.set_cons_succ, i64_w, i32_w]
        rfl
      refine pure_ (i := 3) (N := (some 19)) (v := ?_) (a' := ?_) #[true, true, true, true, false, false, false, false, false, false] rfl rfl (by kernel_rfl) (fun _ _ _ h => h) (Or.inl ⟨by rfl, ?_⟩) ?_ ?_
      rotate_left
      · intro w'
        go_simp
        rw [if_pos (by omega)]
        all_goals with_reducible rfl
      rotate_left
      · simp only [Act.put, List.setIfInBounds_toArray, List.set_cons_zero, List.set_cons_succ, i64_w, i32_w]
        rfl
      refine pure_ (i := 4) (N := (some 20)) (v := ?_) (a' := ?_) #[true, true, true, true, true, false, false, false, false, false] rfl rfl (by kernel_rfl) (fun _ _ _ h => h) (Or.inl ⟨by rfl, ?_⟩) ?_ ?_
      rotate_left
      · intro w'
        go_simp
        all_goals with_reducible rfl
      rotate_left
      · simp only [Act.put, List.setIfInBounds_toArray, List.set_cons_zero, List.set_cons_succ, i64_w, i32_w]
        rfl
      refine take_ (i := 5) (N := (some 21)) (v := ?_) (a' := ?_) #[true, true, true, true, true, true, false, false, false, false] rfl rfl (by kernel_rfl) (fun _ _ _ h => h) (Or.inl ⟨by rfl, ?_⟩) hHeld ?_ ?_
      rotate_left
      · rintro w' ⟨_, s3, s1⟩
        go_simp
        all_goals with_reducible rfl
      rotate_left
      · simp only [Act.put, List.setIfInBounds_toArray, List.set_cons_zero, List.set_cons_succ, i64_w, i32_w]
        rfl
      refine one_ (i := 6) (N := (some 22)) #[true, true, true, true, true, true, true, false, false, false] rfl rfl (by kernel_rfl) (by decide) (fun K hK => ?_)
      refine value_ (by rfl) rfl (v := .slice (some ⟨V.heap.size, 0, none⟩) 1 1) (w1 := (V.drew).alloc (.cells #[.string al] 9)) (by go_simp; all_goals rfl) ?_
      have hz1 : Below V.heap.size V ((V.drew).alloc (.cells #[.string al] 9)) := (below_drew (Below.refl _ _)).alloc (Nat.le_refl _) _
      refine hK.out _ _ ⟨hz1, pw_cell_below hz1 v1, pw_cell_below hz1 n1⟩ (fun hHeld => ?_)
      clear hK K hz1
      refine norm_ (a' := ?_) ?_ ?_
      rotate_left
      · show Act.put _ (some 22) _ = _
        simp only [Act.put, List.setIfInBounds_toArray, List.set_cons_zero, List.set_cons_succ, i64_w, i32_w]
        rfl
      refine one_ (i := 7) (N := (some 23)) #[true, true, true, true, true, true, true, true, false, false] rfl rfl (by kernel_rfl) (by decide) (fun K hK => ?_)
      refine Kd.R_append_step Kd.string (w0 := V) (W := V.drew) V.heap.size (by rfl) (.tmp 17) (.tmp 22) 22 9 (.string ⟨#[]⟩) 16 rfl Tryd.underlying22 inf9 rfl (by decide) (by decide) (.slice none 0 0) [] al [.string al] (fun _ => True) (fun _ => False) rfl rfl rfl (fun _ h => h.elim) (fun _ _ => trivial) (Kd.R_nil _ _ _ _ _) (below_drew (Below.refl _ _)) (Nat.le_refl _) (by decide) ?_
      intro vv w5 ho hb5 hg5 hat5
      obtain ⟨A5, c5, rfl⟩ := Kd.R_slice ho
      refine hK.out _ _ ⟨hb5, pw_cell_below hb5 v1, pw_cell_below hb5 n1⟩ (fun hHeld => ?_)
      clear hK K ho hg5 hat5
      refine norm_ (a' := ?_) ?_ ?_
      rotate_left
      · show Act.put _ (some 23) _ = _
        simp only [Act.put, List.setIfInBounds_toArray, List.set_cons_zero, List.set_cons_succ, i64_w, i32_w]
        rfl
      refine pure_ (i := 8) (N := (some 24)) (v := ?_) (a' := ?_) #[true, true, true, true, true, true, true, true, true, false] rfl rfl (by kernel_rfl) (fun _ _ _ h => h) (Or.inl ⟨by rfl, ?_⟩) ?_ ?_
      rotate_left
      · intro w'
        go_simp
        all_goals with_reducible rfl
      rotate_left
      · simp only [Act.put, List.setIfInBounds_toArray, List.set_cons_zero, List.set_cons_succ, i64_w, i32_w]
        rfl
      have f1 := blk_frozen (blk_below H3.out hb5) 1
      have g1 := hHeld.2.1
      refine last_ (i := 9) (N := none) #[true, true, true, true, true, true, true, true, true, true] rfl rfl (by kernel_rfl) (by decide) (fun K hK => ?_)
      refine skip_ (by rfl) rfl (w1 := w5.setCell ⟨w.heap.size + 1, 1, none⟩ (.slice A5 1 c5)) (by go_simp) ?_
      refine hK.out _ _ ?_
      clear hK K f1 g1
      refine done_ (by kernel_rfl) ?_
      try go_wp2
      go_meet
      case rel => exact ⟨A5, 1, c5, ⟨blk_set (blk_below H3.out hb5) 1 (.slice A5 1 c5)⟩, ⟨blk_far (blk_below H2.out hb5) (p := ⟨w.heap.size + 1, 1, none⟩) (by simp) _⟩, ⟨blk_far (blk_below HN.out hb5) (p := ⟨w.heap.size + 1, 1, none⟩) e1 _⟩, ⟨kinds_set (HKV.out.below hb5) _ _ (by simp)⟩, ⟨(HBV.out.trans (hb5.mono HBV.out.size)).setCell (p := ⟨w.heap.size + 1, 1, none⟩) (by simp) _⟩⟩
  case rest =>
    obtain ⟨A5, m5, c5, H3, H2, HN, HKV, HBV⟩ := hcut
    obtain ⟨n0, n1, n2⟩ := names_at HN.out i hi
    obtain ⟨k0, k1, k2⟩ := HKV.out i hi
    rw [HUS.out] at k2
    generalize (rowAt i).oid = oid at n2
    generalize (rowAt i).syn = syn at k1
    have HUP2 := Aside0.mk (show ∀ j, upOf i = some j → j < 62 from fun j hj => (up_some hi hj).1)
    generalize upOf i = up2 at k0 HUP2
    have p0 : wc.cell? ⟨w.heap.size + 1, 0, none⟩ = some (.string nm) := blk_cell H3.out 0
    have p1 : wc.cell? ⟨w.heap.size + 1, 1, none⟩ = some (.slice A5 m5 c5) := blk_cell H3.out 1
    have p2 : wc.cell? ⟨w.heap.size + 1, 2, none⟩ = some (.string ⟨#[]⟩) := blk_cell H3.out 2
    have p3 : wc.cell? ⟨w.heap.size + 1, 3, none⟩ = some (.string ⟨#[]⟩) := blk_cell H3.out 3
    have p4 : wc.cell? ⟨w.heap.size + 1, 4, none⟩ = some (.int .i64 0) := blk_cell H3.out 4
    have p5 : wc.cell? ⟨w.heap.size + 1, 5, none⟩ = some (.int .i64 0) := blk_cell H3.out 5
    have pf := blk_frozen H3.out
    have q0 : wc.cell? ⟨w.heap.size, 0, none⟩ = some (.string ⟨#[]⟩) := blk_cell H2.out 0
    have q1 : wc.cell? ⟨w.heap.size, 1, none⟩ = some (.slice none 0 0) := blk_cell H2.out 1
    have q2 : wc.cell? ⟨w.heap.size, 2, none⟩ = some (.string ⟨#[]⟩) := blk_cell H2.out 2
    have q3 : wc.cell? ⟨w.heap.size, 3, none⟩ = some (.string ⟨#[]⟩) := blk_cell H2.out 3
    have q4 : wc.cell? ⟨w.heap.size, 4, none⟩ = some (.int .i64 0) := blk_cell H2.out 4
    have q5 : wc.cell? ⟨w.heap.size, 5, none⟩ = some (.int .i64 0) := blk_cell H2.out 5
    have qf := blk_frozen H2.out
    have hl : w.heap.size ≤ w.heap.size + 1 := by omega
    have hl0 : w.heap.size ≤ w.heap.size := Nat.le_refl _
    clear n0 n1
    cases up2 with
    | none =>
      simp only [idxInt] at k0
      go_wp2_with fail
      refine bodyPost_ret (results_cell_row rfl _ _ w.heap.size 84 _ (0, 0) _ rfl (blk_set (blk_set (blk_set (blk_set (blk_set (blk_set (blk_far (blk_far (blk_far H2.out (p := ⟨w.heap.size + 1, 2, none⟩) (by simp) (.string oid)) (p := ⟨w.heap.size + 1, 4, none⟩) (by simp) (.int .i64 syn)) (p := ⟨w.heap.size + 1, 5, none⟩) (by simp) (.int .i64 us)) 0 (.string nm)) 1 (.slice A5 m5 c5)) 2 (.string oid)) 3 (.string ⟨#[]⟩)) 4 (.int .i64 syn)) 5 (.int .i64 us)) hu84 rfl (by kernel_rfl)) rfl ?_
      rw [← HUS.out]
      exact ⟨nm, oid, ⟨#[]⟩, A5, m5, c5, syn, rfl, by rw [HUS.out]; exact (((((((((HBV.out.setCell (p := ⟨w.heap.size + 1, 2, none⟩) hl (.string oid)).setCell (p := ⟨w.heap.size + 1, 4, none⟩) hl (.int .i64 syn)).setCell (p := ⟨w.heap.size + 1, 5, none⟩) hl (.int .i64 us)).setCell (p := ⟨w.heap.size, 0, none⟩) hl0 (.string nm)).setCell (p := ⟨w.heap.size, 1, none⟩) hl0 (.slice A5 m5 c5)).setCell (p := ⟨w.heap.size, 2, none⟩) hl0 (.string oid)).setCell (p := ⟨w.heap.size, 3, none⟩) hl0 (.string ⟨#[]⟩)).setCell (p := ⟨w.heap.size, 4, none⟩) hl0 (.int .i64 syn)).setCell (p := ⟨w.heap.size, 5, none⟩) hl0 (.int .i64 us))⟩
    | some j =>
      have hj := HUP2.out j rfl
      have hj0 : (0 : Int) ≤ (j : Int) := by omega
      obtain ⟨m0, _, _⟩ := names_at HN.out j hj
      generalize (rowAt j).nm = sup at m0
      simp only [idxInt] at k0
      go_wp2_with fail
      refine bodyPost_ret (results_cell_row rfl _ _ w.heap.size 84 _ (0, 0) _ rfl (blk_set (blk_set (blk_set (blk_set (blk_set (blk_set (blk_far (blk_far (blk_far (blk_far H2.out (p := ⟨w.heap.size + 1, 2, none⟩) (by simp) (.string oid)) (p := ⟨w.heap.size + 1, 3, none⟩) (by simp) (.string sup)) (p := ⟨w.heap.size + 1, 4, none⟩) (by simp) (.int .i64 syn)) (p := ⟨w.heap.size + 1, 5, none⟩) (by simp) (.int .i64 us)) 0 (.string nm)) 1 (.slice A5 m5 c5)) 2 (.string oid)) 3 (.string sup)) 4 (.int .i64 syn)) 5 (.int .i64 us)) hu84 rfl (by kernel_rfl)) rfl ?_
      rw [← HUS.out]
      exact ⟨nm, oid, sup, A5, m5, c5, syn, rfl, by rw [HUS.out]; exact ((((((((((HBV.out.setCell (p := ⟨w.heap.size + 1, 2, none⟩) hl (.string oid)).setCell (p := ⟨w.heap.size + 1, 3, none⟩) hl (.string sup)).setCell (p := ⟨w.heap.size + 1, 4, none⟩) hl (.int .i64 syn)).setCell (p := ⟨w.heap.size + 1, 5, none⟩) hl (.int .i64 us)).setCell (p := ⟨w.heap.size, 0, none⟩) hl0 (.string nm)).setCell (p := ⟨w.heap.size, 1, none⟩) hl0 (.slice A5 m5 c5)).setCell (p := ⟨w.heap.size, 2, none⟩) hl0 (.string oid)).setCell (p := ⟨w.heap.size, 3, none⟩) hl0 (.string sup)).setCell (p := ⟨w.heap.size, 4, none⟩) hl0 (.int .i64 syn)).setCell (p := ⟨w.heap.size, 5, none⟩) hl0 (.int .i64 us))⟩
end Go.Proofs.YtghjinhgloegaaaDoor
