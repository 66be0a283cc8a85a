/- attr.Find and entry.own: what they answer. -/
import Derived.Test.YtghjinhgloegaaaDoorCover
namespace Go.Proofs.YtghjinhgloegaaaDoor
open Go.RowKit Go.Proofs.YtghjinhgloegaaaDoorW.PrintWords
set_option linter.unusedVariables false
set_option linter.unusedSimpArgs false

theorem inf9 : (Tryd.prog.info? 9).map (fun i => (i.zero, i.size, i.bytes)) = some (some (.string ⟨#[]⟩), 1, 16) := by kernel_rfl
theorem two_new (w : World) (a b : Obj) : ((w.alloc a).alloc b).heap[w.heap.size]? = some a ∧ ((w.alloc a).alloc b).heap[w.heap.size + 1]? = some b := by
  refine ⟨blk_alloc (blk_new w a) b, ?_⟩
  have := blk_new (w.alloc a) b
  simpa using this

set_option maxHeartbeats 1000000 in
set_option maxRecDepth 100000 in
theorem attr_copied (r : RowT) (A : Option Addr) (c : Nat) (w : World) (hr : Kd.C Kd.string w A r.al.length r.al) (hl : r.al.length ≤ 1000000000) :
    Calls Tryd.prog 78 #[.agg #[.string r.nm, .slice A r.al.length c, .string r.oid, .string r.sup, .int .i64 r.syn, .int .i64 r.use]] w (RowPost w r) := by
  have hu := Tryd.underlying84
  have HR := Aside0.mk hr
  clear hr
  go_enter Tryd.func78, Tryd.ntmps78
  go_wp2_with (at_builtin; refine Kd.R_append_rows Kd.string (w0 := (w.alloc (.cells #[.string r.nm, .slice A r.al.length c, .string r.oid, .string r.sup, .int .i64 r.syn, .int .i64 r.use] 84)).alloc (.cells #[.string ⟨#[]⟩, .slice none 0 0, .string ⟨#[]⟩, .string ⟨#[]⟩, .int .i64 0, .int .i64 0] 84)) (w.heap.size + 2) rfl (.const (.slice none 0 0)) (.tmp 4) 22 9 (.string ⟨#[]⟩) 16 rfl Tryd.underlying22 inf9 rfl (by decide) (by omega) (.slice none 0 0) [] r.al _ _ _ (fun _ => True) (fun _ => False) rfl rfl (Kd.R_nil _ _ _ _ _) (Kd.C_alloc (Kd.C_alloc HR.out _) _) (fun _ _ h => h) (fun _ h => h.elim) (fun _ _ => trivial) (Below.refl _ _) (by simp) (by simp; omega) ?_; intro v1 w1 ho hb hg hat; obtain ⟨A1, c1, rfl⟩ := Kd.R_slice ho; have hn := two_new w (.cells #[.string r.nm, .slice A r.al.length c, .string r.oid, .string r.sup, .int .i64 r.syn, .int .i64 r.use] 84) (.cells #[.string ⟨#[]⟩, .slice none 0 0, .string ⟨#[]⟩, .string ⟨#[]⟩, .int .i64 0, .int .i64 0] 84); have h1 := (hb.block _ (by omega)).trans hn.1; have h2 := (hb.block _ (by omega)).trans hn.2; have c10 := blk_cell h1 0; have c11 := blk_cell h1 1; have c12 := blk_cell h1 2; have c13 := blk_cell h1 3; have c14 := blk_cell h1 4; have c15 := blk_cell h1 5; have f1 := blk_frozen h1; have c20 := blk_cell h2 0; have c21 := blk_cell h2 1; have c22 := blk_cell h2 2; have c23 := blk_cell h2 3; have c24 := blk_cell h2 4; have c25 := blk_cell h2 5; have f2 := blk_frozen h2; have HO := Aside0.mk ho; have HB := Aside0.mk hb; have H1 := Aside0.mk h1; have H2 := Aside0.mk h2; clear ho hb hg hat hn h1 h2)
  refine bodyPost_ret (results_cell_row rfl _ _ (w.heap.size + 1) 84 _ (0, 0) _ rfl (blk_set (blk_set (blk_set (blk_set (blk_set (blk_set (blk_far H2.out (p := ⟨w.heap.size, 1, none⟩) (by simp) _) _ _) _ _) _ _) _ _) _ _) _ _) hu rfl (by kernel_rfl)) rfl ⟨_, rfl, ?_, ?_⟩
  · have h0 : w.heap.size < w.heap.size + 2 := by omega
    have h1 : w.heap.size + 1 < w.heap.size + 2 := by omega
    exact Kd.R_lower (R_setLow (R_setLow (R_setLow (R_setLow (R_setLow (R_setLow (R_setLow HO.out h0 _ _) h1 _ _) h1 _ _) h1 _ _) h1 _ _) h1 _ _) h1 _ _) (by omega)
  · have hb := (((Below.refl w.heap.size w).alloc (Nat.le_refl _) _).alloc (by simp) _).trans (HB.out.mono (show w.heap.size ≤ w.heap.size + 2 by omega))
    have h1 : w.heap.size ≤ w.heap.size + 1 := by omega
    exact ((((((hb.setCell (Nat.le_refl _) _).setCell h1 _).setCell h1 _).setCell h1 _).setCell h1 _).setCell h1 _).setCell h1 _

def findF (s : ByteArray) : Option RowT := (nameIdx (foldB s)).map rowAt
def zeroRow : RowT := ⟨⟨#[]⟩, [], ⟨#[]⟩, ⟨#[]⟩, 0, 0⟩
def FindPost (w : World) (o : Option RowT) (e : Ending) (w' : World) : Prop := ∃ v, e = .returned (.tuple #[.agg #[.string (o.getD zeroRow).nm, v, .string (o.getD zeroRow).oid, .string (o.getD zeroRow).sup, .int .i64 (o.getD zeroRow).syn, .int .i64 (o.getD zeroRow).use], .bool o.isSome]) ∧ Kd.R Kd.string 9 w' w.heap.size (fun _ => True) v (o.getD zeroRow).al ∧ Below w.heap.size w w'
theorem al_small : (List.range 62).all (fun i => decide ((rowAt i).al.length ≤ 100)) = true := by decide +kernel

set_option maxHeartbeats 1000000 in
set_option maxRecDepth 100000 in
theorem attr_Find (s : ByteArray) (w : World) (hs : s.size ≤ 2000000000) : Calls Tryd.prog 66 #[.string s] w (FindPost w (findF s)) := by
  have hu := Tryd.underlying84
  cases hi : nameIdx (foldB s) with
  | none =>
    have HC := Aside0.mk (show findF s = none by simp [findF, hi])
    have HI := Aside0.mk (show nameVal (nameIdx (foldB s)) = .tuple #[.int .i64 0, .bool false] by rw [hi]; rfl)
    clear hi
    go_enter Tryd.func66, Tryd.ntmps66
    go_wp2_with fail
    refine (text_Fold _ _ (by omega)).mono ?_; rintro e w1 ⟨rfl, hb⟩
    have hblk := block_kept hb; have q0 := blk_cell hblk 0; have q1 := blk_cell hblk 1; have q2 := blk_cell hblk 2; have q3 := blk_cell hblk 3; have q4 := blk_cell hblk 4; have q5 := blk_cell hblk 5; have qf := blk_frozen hblk
    have HB := Aside0.mk hb; have HK := Aside0.mk hblk; clear hb hblk
    go_wp2_with fail
    refine (attr_byName _ _).mono ?_; rintro e w2 ⟨rfl, rfl⟩; rw [HI.out]
    go_wp2_with fail
    refine bodyPost_ret (results_ct rfl _ _ w.heap.size 84 _ (0, 0) _ rfl (blk_set (blk_set (blk_set (blk_set (blk_set (blk_set HK.out _ _) _ _) _ _) _ _) _ _) _ _) hu rfl (by kernel_rfl)) rfl ?_
    rw [HC.out]
    refine ⟨.slice none 0 0, rfl, Kd.R_nil _ _ _ _ _, ?_⟩
    have h1 : w.heap.size ≤ w.heap.size := Nat.le_refl _
    have hb := ((Below.refl w.heap.size w).alloc (Nat.le_refl _) _).trans (HB.out.mono (by simp))
    exact (((((hb.setCell h1 _).setCell h1 _).setCell h1 _).setCell h1 _).setCell h1 _).setCell h1 _
  | some i =>
    have hlt := nameIdx_lt hi
    obtain ⟨r, hr⟩ : ∃ r, r = rowAt i := ⟨_, rfl⟩
    have hal : r.al.length ≤ 1000000000 := by have := of_decide_eq_true (List.all_eq_true.1 al_small i (List.mem_range.2 hlt)); rw [hr]; omega
    have HC := Aside0.mk (show findF s = some r by rw [hr]; simp [findF, hi])
    have HR := Aside0.mk (show ∀ w, Calls Tryd.prog 57 #[.int .i64 i] w (RowPost w r) by rw [hr]; exact attr_rows i hlt)
    have HI := Aside0.mk (show nameVal (nameIdx (foldB s)) = .tuple #[.int .i64 i, .bool true] by rw [hi]; rfl)
    clear hi hr
    go_enter Tryd.func66, Tryd.ntmps66
    go_wp2_with fail
    refine (text_Fold _ _ (by omega)).mono ?_; rintro e w1 ⟨rfl, hb⟩; have HB := Aside0.mk hb; have HK := Aside0.mk (block_kept hb); clear hb
    go_wp2_with fail
    refine (attr_byName _ _).mono ?_; rintro e w2 ⟨rfl, rfl⟩; rw [HI.out]
    go_wp2_with fail
    refine (HR.out _).mono ?_; rintro e w3 ⟨v, rfl, hv, hb3⟩; obtain ⟨A0, c0, rfl⟩ := Kd.R_slice hv; have HB3 := Aside0.mk hb3; have HV := Aside0.mk hv; clear hb3 hv
    go_wp2_with fail
    refine (attr_copied r A0 c0 _ (Kd.R_reads' HV.out).2.2 hal).mono ?_; rintro e w4 ⟨v4, rfl, hv4, hb4⟩; obtain ⟨A4, c4, rfl⟩ := Kd.R_slice hv4
    have hblk := blk_below (blk_below HK.out HB3.out) hb4; have q0 := blk_cell hblk 0; have q1 := blk_cell hblk 1; have q2 := blk_cell hblk 2; have q3 := blk_cell hblk 3; have q4 := blk_cell hblk 4; have q5 := blk_cell hblk 5; have qf := blk_frozen hblk
    have HB4 := Aside0.mk hb4; have HV4 := Aside0.mk hv4; have HK4 := Aside0.mk hblk; clear hb4 hv4 hblk
    go_wp2_with fail
    refine bodyPost_ret (results_ct rfl _ _ w.heap.size 84 _ (0, 0) _ rfl (blk_set (blk_set (blk_set (blk_set (blk_set (blk_set HK4.out _ _) _ _) _ _) _ _) _ _) _ _) hu rfl (by kernel_rfl)) rfl ?_
    rw [HC.out]
    have hs1 : w.heap.size < w2.heap.size := by have := HB.out.size; simp at this; omega
    have hs3 := HB3.out.size
    refine ⟨.slice A4 r.al.length c4, rfl, ?_, ?_⟩
    · have h1 : w.heap.size < w3.heap.size := by omega
      exact Kd.R_lower (R_setLow (R_setLow (R_setLow (R_setLow (R_setLow (R_setLow HV4.out h1 _ _) h1 _ _) h1 _ _) h1 _ _) h1 _ _) h1 _ _) (by omega)
    · have h1 : w.heap.size ≤ w.heap.size := Nat.le_refl _
      have hb := ((Below.refl w.heap.size w).alloc (Nat.le_refl _) _).trans (HB.out.mono (by simp))
      have hb2 := (hb.trans (HB3.out.mono hb.size)).trans (HB4.out.mono (by omega))
      exact (((((hb2.setCell h1 _).setCell h1 _).setCell h1 _).setCell h1 _).setCell h1 _).setCell h1 _
end Go.Proofs.YtghjinhgloegaaaDoor
