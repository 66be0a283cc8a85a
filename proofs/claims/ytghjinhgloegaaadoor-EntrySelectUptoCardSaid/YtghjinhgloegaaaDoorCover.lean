/- attr.Covers: what it answers. -/
import Derived.Test.YtghjinhgloegaaaDoorHas
import Derived.Test.YtghjinhgloegaaaDoorWLast
namespace Go.Proofs.YtghjinhgloegaaaDoor
open Go.RowKit Go.Proofs.YtghjinhgloegaaaDoorW.PrintWords Go.Proofs.YtghjinhgloegaaaDoorW.PrintLast
set_option linter.unusedVariables false
set_option linter.unusedSimpArgs false

def coversF (d e : ByteArray) : Bool := isDesc d && isDesc e && hasB (supersF (parseF e).1) (parseF d).1 && (parseF d).2.1.all (hasB (parseF e).2.1)
def CovPost (w : World) (b : Bool) (e : Ending) (w' : World) : Prop := e = .returned (.bool b) ∧ Below w.heap.size w w'
theorem all_step {l o : List ByteArray} {k : Nat} (hk : k < l.length) (h : (l.take k).all (hasB o) = true) (h2 : hasB o (l.getD k ByteArray.empty) = true) : (l.take (k + 1)).all (hasB o) = true := by
  rw [List.take_succ_eq_append_getElem hk, List.all_append, h]
  simpa [List.getD_eq_getElem?_getD, List.getElem?_eq_getElem hk] using h2
theorem all_miss {l o : List ByteArray} {k : Nat} (hk : k < l.length) (h2 : hasB o (l.getD k ByteArray.empty) = false) : l.all (hasB o) = false := by
  refine List.all_eq_false.2 ⟨l[k], List.getElem_mem _, ?_⟩
  simpa [List.getD_eq_getElem?_getD, List.getElem?_eq_getElem hk] using h2
theorem rows_small : (List.range 62).all (fun i => decide ((rowAt i).nm.size ≤ 100)) = true := by decide +kernel
theorem canonT_size (s : ByteArray) : (canonT s).size ≤ s.size + 100 := by
  unfold canonT
  split
  · rename_i i h
    have := List.all_eq_true.1 rows_small i (List.mem_range.2 (nameIdx_lt h))
    have := of_decide_eq_true this
    omega
  · rw [foldB_size]; omega
theorem headB_size (s : ByteArray) : (headB s).size ≤ s.size := by
  have hl := pieces_length s
  have h0 : headB s = (pieces s)[0]'(by omega) := by rw [headB, List.getD_eq_getElem?_getD, List.getElem?_eq_getElem (by omega)]; rfl
  rw [h0]
  exact pieces_size (List.getElem_mem _)
theorem parse_type_size (s : ByteArray) : (parseF s).1.size ≤ s.size + 100 := by
  unfold parseF
  split
  · have h1 := canonT_size (headB s)
    have h2 := headB_size s
    simp only [yesDesc]
    omega
  · exact Nat.zero_le _
theorem parse_err_no {s : ByteArray} (h : isDesc s = false) : parseF s = noDesc (scanF s false).2 := by simp [parseF, h]
theorem parse_err_yes {s : ByteArray} (h : isDesc s = true) : parseF s = yesDesc (canonT (headB s)) (optB s) s.size := by simp [parseF, h]
theorem ParsePost.no {w : World} {s : ByteArray} {e : Ending} {w' : World} (h : ParsePost w (parseF s) e w') (hd : isDesc s = false) : ∃ v p, e = .returned (.tuple #[.agg #[.string ⟨#[]⟩, v], .int .i64 40, .int .i64 p]) ∧ Kd.R Kd.string 9 w' w.heap.size (fun _ => True) v [] ∧ Below w.heap.size w w' := by
  obtain ⟨v, rfl, hr, hb⟩ := h
  rw [parse_err_no hd] at hr ⊢
  exact ⟨v, _, rfl, hr, hb⟩
theorem ParsePost.yes {w : World} {s : ByteArray} {e : Ending} {w' : World} (h : ParsePost w (parseF s) e w') (hd : isDesc s = true) : ∃ v p, e = .returned (.tuple #[.agg #[.string (parseF s).1, v], .int .i64 0, .int .i64 p]) ∧ Kd.R Kd.string 9 w' w.heap.size (fun _ => True) v (parseF s).2.1 ∧ Below w.heap.size w w' := by
  obtain ⟨v, rfl, hr, hb⟩ := h
  rw [parse_err_yes hd] at hr ⊢
  exact ⟨v, _, rfl, hr, hb⟩

set_option maxHeartbeats 1000000 in
set_option maxRecDepth 100000 in
theorem covers_no (d e : ByteArray) (w : World) (hd : d.size ≤ 1000000000) (he : e.size ≤ 1000000000) (hm : MaxAt w) (h1 : isDesc d = false) : Calls Tryd.prog 23 #[.string d, .string e] w (CovPost w (coversF d e)) := by
  have HC := Aside0.mk (show coversF d e = false by simp [coversF, h1])
  have HM := Aside0.mk hm
  have H1 := Aside0.mk h1
  have hu := Tryd.underlying54
  clear h1 hm
  go_enter Tryd.func23, Tryd.ntmps23
  go_wp2_with fail
  refine (attr_Parse d _ hd HM.out).mono ?_; intro ee w1 hp; obtain ⟨v1, p1, rfl, hr1, hb1⟩ := hp.no H1.out; obtain ⟨A1, c1, rfl⟩ := Kd.R_slice hr1; have HB1 := Aside0.mk hb1; clear hp hr1 hb1
  go_wp2_with fail
  refine (attr_Parse e _ he ((HM.out.below HB1.out).alloc _)).mono ?_; intro ee w2 hp; obtain ⟨v2, rfl, hr2, hb2⟩ := hp; obtain ⟨A2, c2, rfl⟩ := Kd.R_slice hr2; have HB2 := Aside0.mk hb2; clear hr2 hb2
  go_wp2_with fail
  go_quiet (fail)
  go_wp2
  go_ret
  rw [HC.out]
  have h1 := HB1.out.alloc HB1.out.size (.cells #[.string ⟨#[]⟩, .slice A1 0 c1] 54)
  have h2 := h1.trans (HB2.out.mono h1.size)
  exact ⟨rfl, pw_below_drewN (h2.alloc h2.size _) _⟩
set_option maxHeartbeats 1000000 in
set_option maxRecDepth 100000 in
theorem covers_no2 (d e : ByteArray) (w : World) (hd : d.size ≤ 1000000000) (he : e.size ≤ 1000000000) (hm : MaxAt w) (h0 : isDesc d = true) (h1 : isDesc e = false) : Calls Tryd.prog 23 #[.string d, .string e] w (CovPost w (coversF d e)) := by
  have HC := Aside0.mk (show coversF d e = false by simp [coversF, h1])
  have HM := Aside0.mk hm
  have H0 := Aside0.mk h0
  have H1 := Aside0.mk h1
  have hu := Tryd.underlying54
  clear h1 hm h0
  go_enter Tryd.func23, Tryd.ntmps23
  go_wp2_with fail
  refine (attr_Parse d _ hd HM.out).mono ?_; intro ee w1 hp; obtain ⟨v1, p1, rfl, hr1, hb1⟩ := hp.yes H0.out; obtain ⟨A1, c1, rfl⟩ := Kd.R_slice hr1; have HB1 := Aside0.mk hb1; clear hp hr1 hb1
  go_wp2_with fail
  refine (attr_Parse e _ he ((HM.out.below HB1.out).alloc _)).mono ?_; intro ee w2 hp; obtain ⟨v2, p2, rfl, hr2, hb2⟩ := hp.no H1.out; obtain ⟨A2, c2, rfl⟩ := Kd.R_slice hr2; have HB2 := Aside0.mk hb2; clear hp hr2 hb2
  go_wp2_with fail
  go_quiet (fail)
  go_wp2
  go_ret
  rw [HC.out]
  have h1 := HB1.out.alloc HB1.out.size (.cells #[.string (parseF d).1, .slice A1 (parseF d).2.1.length c1] 54)
  have h2 := h1.trans (HB2.out.mono h1.size)
  exact ⟨rfl, pw_below_drewN (h2.alloc h2.size _) _⟩

set_option maxHeartbeats 1000000 in
set_option maxRecDepth 100000 in
theorem covers_yes (d e : ByteArray) (w : World) (hd : d.size ≤ 1000000000) (he : e.size ≤ 1000000000) (hm : MaxAt w) (h0 : isDesc d = true) (h1 : isDesc e = true) : Calls Tryd.prog 23 #[.string d, .string e] w (CovPost w (coversF d e)) := by
  obtain ⟨b1, hb1⟩ : ∃ b, b = hasB (supersF (parseF e).1) (parseF d).1 := ⟨_, rfl⟩
  have HC := Aside0.mk (show coversF d e = (b1 && (parseF d).2.1.all (hasB (parseF e).2.1)) by simp [coversF, h0, h1, hb1])
  have HBB := Aside0.mk hb1
  have HM := Aside0.mk hm
  have H0 := Aside0.mk h0
  have H1 := Aside0.mk h1
  have hu := Tryd.underlying54
  clear h1 hm h0 hb1
  go_enter Tryd.func23, Tryd.ntmps23
  go_wp2_with fail
  refine (attr_Parse d _ hd HM.out).mono ?_; intro ee w1 hp; obtain ⟨v1, p1, rfl, hr1, hb1⟩ := hp.yes H0.out; obtain ⟨A1, c1, rfl⟩ := Kd.R_slice hr1; have HB1 := Aside0.mk hb1; have HR1 := Aside0.mk hr1; clear hp hr1 hb1
  go_wp2_with fail
  refine (attr_Parse e _ he ((HM.out.below HB1.out).alloc _)).mono ?_; intro ee w2 hp; obtain ⟨v2, p2, rfl, hr2, hb2⟩ := hp.yes H1.out; obtain ⟨A2, c2, rfl⟩ := Kd.R_slice hr2; have HB2 := Aside0.mk hb2; have HR2 := Aside0.mk hr2; clear hp hr2 hb2
  go_upto_region 3 with (fail)
  have hq5 := blk_alloc (blk_below (blk_new w1 (.cells #[.string (parseF d).1, .slice A1 (parseF d).2.1.length c1] 54)) HB2.out) (.cells #[.string (parseF e).1, .slice A2 (parseF e).2.1.length c2] 54)
  have hq8 := blk_new w2 (.cells #[.string (parseF e).1, .slice A2 (parseF e).2.1.length c2] 54)
  have hbW : Below w.heap.size w (w2.alloc (.cells #[.string (parseF e).1, .slice A2 (parseF e).2.1.length c2] 54)) := by
    have h1 := HB1.out.alloc HB1.out.size (.cells #[.string (parseF d).1, .slice A1 (parseF d).2.1.length c1] 54)
    have h2 := h1.trans (HB2.out.mono h1.size)
    exact h2.alloc h2.size _
  have hrd : Kd.C Kd.string (w2.alloc (.cells #[.string (parseF e).1, .slice A2 (parseF e).2.1.length c2] 54)) A1 (parseF d).2.1.length (parseF d).2.1 := Kd.C_alloc (Kd.C_below (Kd.C_alloc (Kd.R_reads' HR1.out).2.2 _) HB2.out) _
  have hre : Kd.C Kd.string (w2.alloc (.cells #[.string (parseF e).1, .slice A2 (parseF e).2.1.length c2] 54)) A2 (parseF e).2.1.length (parseF e).2.1 := Kd.C_alloc (Kd.R_reads' HR2.out).2.2 _
  generalize w2.alloc (.cells #[.string (parseF e).1, .slice A2 (parseF e).2.1.length c2] 54) = W at hq5 hq8 hbW hrd hre ⊢
  have hl5 := blk_lt hq5
  have hl8 := blk_lt hq8
  have HQ5 := Aside0.mk hq5
  have HQ8 := Aside0.mk hq8
  have HBW := Aside0.mk hbW
  have HRD := Aside0.mk hrd
  have HRE := Aside0.mk hre
  have hsz : (parseF e).1.size ≤ 2000000000 := by have := parse_type_size e; omega
  have q50 : W.cell? ⟨w1.heap.size, 0, none⟩ = some (.string (parseF d).1) := blk_cell hq5 0
  have q80 : W.cell? ⟨w2.heap.size, 0, none⟩ = some (.string (parseF e).1) := blk_cell hq8 0
  clear hbW hrd hre HB1 HB2 HR1 HR2 hq5 hq8
  go_cut [39] (fun v wr => v = .bool (!b1) ∧ Below W.heap.size W wr)
  case first =>
    refine start_ (n := 15) (S := fun w' => Below W.heap.size W w' ∧ w'.cell? ⟨w1.heap.size, 0, none⟩ = some (.string (parseF d).1) ∧ w'.cell? ⟨w2.heap.size, 0, none⟩ = some (.string (parseF e).1)) (ds := []) #[false, false, false, false, false, false, false, false, false, false, false, false, false, false, false] (by kernel_rfl) rfl rfl ⟨below_drew (Below.refl _ _), q50, q80⟩ (fun hHeld => ?_)
    refine pure_ (i := 0) (N := (some 25)) (v := ?_) (a' := ?_) #[true, false, false, false, false, false, false, false, false, false, false, false, false, false, false] rfl rfl (by kernel_rfl) (fun _ _ _ h => h) (Or.inl ⟨by rfl, ?_⟩) ?_ ?_
    rotate_left
    · intro w'
      go_simp
      with_reducible rfl
    rotate_left
    · simp only [Act.put, List.setIfInBounds_toArray, List.set_cons_zero, List.set_cons_succ, i64_w, i32_w]
      rfl
    refine pure_ (i := 1) (N := (some 26)) (v := ?_) (a' := ?_) #[true, true, false, false, false, false, false, false, false, false, false, false, false, false, false] rfl rfl (by kernel_rfl) (fun _ _ _ h => h) (Or.inl ⟨by rfl, ?_⟩) ?_ ?_
    rotate_left
    · intro w'
      go_simp
      with_reducible rfl
    rotate_left
    · simp only [Act.put, List.setIfInBounds_toArray, List.set_cons_zero, List.set_cons_succ, i64_w, i32_w]
      rfl
    refine pure_ (i := 2) (N := (some 27)) (v := ?_) (a' := ?_) #[true, true, true, false, false, false, false, false, false, false, false, false, false, false, false] rfl rfl (by kernel_rfl) (fun _ _ _ h => h) (Or.inl ⟨by rfl, ?_⟩) ?_ ?_
    rotate_left
    · intro w'
      go_simp
      with_reducible rfl
    rotate_left
    · simp only [Act.put, List.setIfInBounds_toArray, List.set_cons_zero, List.set_cons_succ, i64_w, i32_w]
      rfl
    refine pure_ (i := 3) (N := (some 28)) (v := ?_) (a' := ?_) #[true, true, true, true, false, false, false, false, false, false, false, false, false, false, false] rfl rfl (by kernel_rfl) (fun _ _ _ h => h) (Or.inl ⟨by rfl, ?_⟩) ?_ ?_
    rotate_left
    · intro w'
      go_simp
      with_reducible rfl
    rotate_left
    · simp only [Act.put, List.setIfInBounds_toArray, List.set_cons_zero, List.set_cons_succ, i64_w, i32_w]
      rfl
    refine pure_ (i := 4) (N := (some 29)) (v := ?_) (a' := ?_) #[true, true, true, true, true, false, false, false, false, false, false, false, false, false, false] rfl rfl (by kernel_rfl) (fun _ _ _ h => h) (Or.inl ⟨by rfl, ?_⟩) ?_ ?_
    rotate_left
    · intro w'
      go_simp
      with_reducible rfl
    rotate_left
    · simp only [Act.put, List.setIfInBounds_toArray, List.set_cons_zero, List.set_cons_succ, i64_w, i32_w]
      rfl
    refine pure_ (i := 5) (N := (some 30)) (v := ?_) (a' := ?_) #[true, true, true, true, true, true, false, false, false, false, false, false, false, false, false] rfl rfl (by kernel_rfl) (fun _ _ _ h => h) (Or.inl ⟨by rfl, ?_⟩) ?_ ?_
    rotate_left
    · intro w'
      go_simp
      with_reducible rfl
    rotate_left
    · simp only [Act.put, List.setIfInBounds_toArray, List.set_cons_zero, List.set_cons_succ, i64_w, i32_w]
      rfl
    refine pure_ (i := 6) (N := (some 31)) (v := ?_) (a' := ?_) #[true, true, true, true, true, true, true, false, false, false, false, false, false, false, false] rfl rfl (by kernel_rfl) (fun _ _ _ h => h) (Or.inl ⟨by rfl, ?_⟩) ?_ ?_
    rotate_left
    · intro w'
      go_simp
      with_reducible rfl
    rotate_left
    · simp only [Act.put, List.setIfInBounds_toArray, List.set_cons_zero, List.set_cons_succ, i64_w, i32_w]
      rfl
    refine pure_ (i := 7) (N := (some 32)) (v := ?_) (a' := ?_) #[true, true, true, true, true, true, true, true, false, false, false, false, false, false, false] rfl rfl (by kernel_rfl) (fun _ _ _ h => h) (Or.inl ⟨by rfl, ?_⟩) ?_ ?_
    rotate_left
    · intro w'
      go_simp
      with_reducible rfl
    rotate_left
    · simp only [Act.put, List.setIfInBounds_toArray, List.set_cons_zero, List.set_cons_succ, i64_w, i32_w]
      rfl
    refine pure_ (i := 10) (N := (some 35)) (v := ?_) (a' := ?_) #[true, true, true, true, true, true, true, true, false, false, true, false, false, false, false] rfl rfl (by kernel_rfl) (fun _ _ _ h => h) (Or.inl ⟨by rfl, ?_⟩) ?_ ?_
    rotate_left
    · intro w'
      go_simp
      with_reducible rfl
    rotate_left
    · simp only [Act.put, List.setIfInBounds_toArray, List.set_cons_zero, List.set_cons_succ, i64_w, i32_w]
      rfl
    refine take_ (i := 8) (N := (some 33)) (v := ?_) (a' := ?_) #[true, true, true, true, true, true, true, true, true, false, true, false, false, false, false] rfl rfl (by kernel_rfl) (fun _ _ _ h => h) (Or.inl ⟨by rfl, ?_⟩) hHeld ?_ ?_
    rotate_left
    · rintro w' ⟨s0, s1, s2⟩
      go_simp
      with_reducible rfl
    rotate_left
    · simp only [Act.put, List.setIfInBounds_toArray, List.set_cons_zero, List.set_cons_succ, i64_w, i32_w]
      rfl
    refine take_ (i := 11) (N := (some 36)) (v := ?_) (a' := ?_) #[true, true, true, true, true, true, true, true, true, false, true, true, false, false, false] rfl rfl (by kernel_rfl) (fun _ _ _ h => h) (Or.inl ⟨by rfl, ?_⟩) hHeld ?_ ?_
    rotate_left
    · rintro w' ⟨s0, s1, s2⟩
      go_simp
      with_reducible rfl
    rotate_left
    · simp only [Act.put, List.setIfInBounds_toArray, List.set_cons_zero, List.set_cons_succ, i64_w, i32_w]
      rfl
    refine one_ (i := 9) (N := (some 34)) #[true, true, true, true, true, true, true, true, true, true, true, true, false, false, false] rfl rfl (by kernel_rfl) (by decide) (fun K hK => ?_)
    refine goes_ Tryd.func37 (by kernel_rfl) rfl #[.string (parseF e).1] (by rfl) rfl rfl (by (try simp only [List.map_toArray, List.map_cons, List.map_nil]); rfl) ?_
    refine (attr_Supers (parseF e).1 _ hsz).mono ?_
    rintro ex w3 ⟨v, rfl, hv, hb⟩
    obtain ⟨A3, c3, rfl⟩ := Kd.R_slice hv
    have HV := Aside0.mk hv
    have hb3 := hHeld.1.trans (hb.mono hHeld.1.size)
    refine ⟨_, rfl, ?_⟩
    refine hK.out _ _ ⟨hb3, blk_cell ((hb3.block _ hl5).trans HQ5.out) 0, blk_cell ((hb3.block _ hl8).trans HQ8.out) 0⟩ (fun hHeld => ?_)
    clear hK K
    refine norm_ (a' := ?_) ?_ ?_
    rotate_left
    · show Act.put _ (some 34) _ = _
      simp only [Act.put, List.setIfInBounds_toArray, List.set_cons_zero, List.set_cons_succ, i64_w, i32_w]
      rfl
    refine one_ (i := 12) (N := (some 37)) #[true, true, true, true, true, true, true, true, true, true, true, true, true, false, false] rfl rfl (by kernel_rfl) (by decide) (fun K hK => ?_)
    refine goes_ Tryd.func36 (by kernel_rfl) rfl #[.slice A3 (supersF (parseF e).1).length c3, .string (parseF d).1] (by rfl) rfl rfl (by (try simp only [List.map_toArray, List.map_cons, List.map_nil]); rfl) ?_
    refine (attr_has (supersF (parseF e).1) A3 c3 (parseF d).1 _ (Kd.R_reads' HV.out).2.2).mono ?_
    rintro ex w4 ⟨rfl, rfl⟩
    rw [← HBB.out]
    refine ⟨_, rfl, ?_⟩
    refine hK.out _ _ ⟨hHeld.1, hHeld.2.1, hHeld.2.2⟩ (fun hHeld => ?_)
    clear hK K
    refine norm_ (a' := ?_) ?_ ?_
    rotate_left
    · show Act.put _ (some 37) _ = _
      simp only [Act.put, List.setIfInBounds_toArray, List.set_cons_zero, List.set_cons_succ, i64_w, i32_w]
      rfl
    refine pure_ (i := 13) (N := (some 38)) (v := ?_) (a' := ?_) #[true, true, true, true, true, true, true, true, true, true, true, true, true, true, false] rfl rfl (by kernel_rfl) (fun _ _ _ h => h) (Or.inl ⟨by rfl, ?_⟩) ?_ ?_
    rotate_left
    · intro w'
      go_simp
      with_reducible rfl
    rotate_left
    · simp only [Act.put, List.setIfInBounds_toArray, List.set_cons_zero, List.set_cons_succ, i64_w, i32_w]
      rfl
    refine pure_ (i := 14) (N := (some 39)) (v := ?_) (a' := ?_) #[true, true, true, true, true, true, true, true, true, true, true, true, true, true, true] rfl rfl (by kernel_rfl) (fun _ _ _ h => h) (Or.inl ⟨by rfl, ?_⟩) ?_ ?_
    rotate_left
    · intro w'
      go_simp
      with_reducible rfl
    rotate_left
    · simp only [Act.put, List.setIfInBounds_toArray, List.set_cons_zero, List.set_cons_succ, i64_w, i32_w]
      rfl
    refine done_ (by kernel_rfl) ?_
    try go_wp2
    go_meet
    case rel => exact ⟨rfl, hHeld.1⟩
  case rest =>
    obtain ⟨rfl, hbc⟩ := hcut
    have hb0 : Below w.heap.size w wc := HBW.out.trans (hbc.mono HBW.out.size)
    have hq5 := (hbc.block _ hl5).trans HQ5.out
    have hq8 := (hbc.block _ hl8).trans HQ8.out
    have HB0 := Aside0.mk hb0
    have HRD2 := Aside0.mk (Kd.C_below HRD.out hbc)
    have HRE2 := Aside0.mk (Kd.C_below HRE.out hbc)
    have r51 : wc.cell? ⟨w1.heap.size, 1, none⟩ = some (.slice A1 (parseF d).2.1.length c1) := blk_cell hq5 1
    have r81 : wc.cell? ⟨w2.heap.size, 1, none⟩ = some (.slice A2 (parseF e).2.1.length c2) := blk_cell hq8 1
    clear hb0 hq5 hq8 hbc q50 q80 hsz
    cases b1 with
    | false =>
      go_wp2
      go_ret
      rw [HC.out]
      exact ⟨rfl, HB0.out⟩
    | true =>
      have HC2 := Aside0.mk (show coversF d e = (parseF d).2.1.all (hasB (parseF e).2.1) by rw [HC.out]; rfl)
      clear HC HBB HRD HRE HQ5 HQ8 HBW
      generalize (parseF d).2.1 = l1 at HRD2 HC2 r51 ⊢
      generalize (parseF e).2.1 = l2 at HRE2 HC2 r81 ⊢
      have hm1 := HRD2.out.2.1
      obtain ⟨n, hn⟩ : ∃ n, n = l1.length := ⟨_, rfl⟩
      rw [← hn] at hm1 r51 HRD2
      have HN := Aside0.mk hn
      clear hn
      go_wp2
      go_loopg [43] n (fun kq v wr => ∃ k : Nat, k ≤ n ∧ v = .int .i64 k ∧ Aside0 (kq + k = n) ∧ Aside0 ((l1.take k).all (hasB l2) = true) ∧ Aside0 (wr = wc))
      case atStart => exact ⟨0, Nat.zero_le _, rfl, ⟨rfl⟩, ⟨rfl⟩, ⟨rfl⟩⟩
      case round =>
        obtain ⟨k, hk, rfl, hq, hf, hw⟩ := hrel
        obtain rfl := hw.out
        clear hw
        by_cases hlt : k < n
        · obtain ⟨ad, rfl, hcell⟩ := Kd.at_string HRD2.out k (by omega) (by omega)
          obtain ⟨o, ho⟩ : ∃ o, o = l1.getD k ByteArray.empty := ⟨_, rfl⟩
          have hcell2 : wr.cell? (ad.add k) = some (.string o) := by rw [ho]; simpa [rdOf] using hcell
          have HO := Aside0.mk ho
          clear hcell ho
          cases hh : hasB l2 o with
          | true =>
            have HH := Aside0.mk hh
            have HT := Aside0.mk (all_step (HN.out ▸ hlt) hf.out (HO.out ▸ hh))
            clear hh
            go_wp2_with (go_at_call 36; refine (attr_has l2 A2 c2 o _ HRE2.out).mono ?_; rintro ex w4 ⟨rfl, rfl⟩; rw [HH.out])
            go_roundg (gk - 1)
            case measure => have := hq.out; omega
            case rel => exact ⟨k + 1, by omega, by go_num, ⟨by have := hq.out; omega⟩, HT, ⟨rfl⟩⟩
          | false =>
            have HH := Aside0.mk hh
            have HT := Aside0.mk (all_miss (HN.out ▸ hlt) (HO.out ▸ hh))
            clear hh
            go_wp2_with (go_at_call 36; refine (attr_has l2 A2 c2 o _ HRE2.out).mono ?_; rintro ex w4 ⟨rfl, rfl⟩; rw [HH.out])
            go_ret
            rw [HC2.out, HT.out]
            exact ⟨rfl, HB0.out⟩
        · obtain rfl : k = n := by omega
          have HT := Aside0.mk (show l1.all (hasB l2) = true by have := hf.out; rwa [HN.out, List.take_length] at this)
          go_wp2
          go_ret
          rw [HC2.out, HT.out]
          exact ⟨rfl, HB0.out⟩
theorem attr_Covers (d e : ByteArray) (w : World) (hd : d.size ≤ 1000000000) (he : e.size ≤ 1000000000) (hm : MaxAt w) : Calls Tryd.prog 23 #[.string d, .string e] w (CovPost w (coversF d e)) := by
  cases h0 : isDesc d with
  | false => exact covers_no d e w hd he hm h0
  | true =>
    cases h1 : isDesc e with
    | false => exact covers_no2 d e w hd he hm h0 h1
    | true => exact covers_yes d e w hd he hm h0 h1
end Go.Proofs.YtghjinhgloegaaaDoor
