/- append of texts; the reference's Supers, sorted, within, Parse, Covers: what each answers. -/
import Derived.Test.YtghjinhgloegaaaDoorRefOne
import Derived.Test.YtghjinhgloegaaaDoorHelp
import Derived.BigQuiet
namespace Go.Proofs.YtghjinhgloegaaaDoor
open Go.RowKit Go.Proofs.YtghjinhgloegaaaDoorW.PrintWords
set_option linter.unusedVariables false
set_option linter.unusedSimpArgs false

section
variable {ops : Array Oper} {rest : List Oper} {o : Oper} {a : Act} {Q : Exit → Act → World → Prop}
theorem app_one (w0 W : World) (s x : Operand) (hgd : o.guard = none) (ho : o.op = .call { callee := .builtin .append, args := #[s, x], argTypes := #[22, 22] }) (A0 : Option Addr) (n0 c0 : Nat) (xs : List ByteArray) (y : ByteArray)
    (hs : a.eval s = .slice A0 n0 c0) (hx : a.eval x = .slice (some ⟨W.heap.size, 0, none⟩) 1 1) (HO : OwnL w0 W (.slice A0 n0 c0) xs) (hl : n0 ≤ 3000000000)
    (h : ∀ A' c' w1, OwnL w0 w1 (.slice A' (n0 + 1) c') (xs ++ [y]) → wpList Tryd.prog ops Q rest (a.put o.dst (.slice A' (n0 + 1) c')) w1) : wpList Tryd.prog ops Q (o :: rest) a (W.alloc (.cells #[.string y] 9)) := by
  obtain rfl : xs.length = n0 := HO.c.1
  refine Kd.R_append Kd.string (w0 := w0) w0.heap.size hgd s x 22 9 (.string ⟨#[]⟩) 16 ho Tryd.underlying22 inf9 rfl (by decide) (by decide) (.slice A0 xs.length c0) xs y [.string y] (fun _ => True) (fun _ => False) hs hx rfl (fun _ h => h.elim) (fun _ _ => trivial) HO.1 HO.2 HO.2.size (by omega) ?_
  intro v1 w1 ho hb hg hat
  obtain ⟨A', c', rfl⟩ := Kd.R_slice ho
  simp only [List.length_append, List.length_singleton] at ho ⊢
  exact h A' c' w1 ⟨ho, hb⟩
theorem app_row (w0 W : World) (s x : Operand) (hgd : o.guard = none) (ho : o.op = .call { callee := .builtin .append, args := #[s, x], argTypes := #[22, 22] }) (A0 : Option Addr) (n0 c0 : Nat) (xs : List ByteArray) (A : Option Addr) (m c : Nat) (ys : List ByteArray)
    (hs : a.eval s = .slice A0 n0 c0) (hx : a.eval x = .slice A m c) (HO : OwnL w0 W (.slice A0 n0 c0) xs) (HR : Kd.C Kd.string W A m ys) (hl : n0 + m ≤ 3000000000)
    (h : ∀ A' c' w1, OwnL w0 w1 (.slice A' (n0 + m) c') (xs ++ ys) → wpList Tryd.prog ops Q rest (a.put o.dst (.slice A' (n0 + m) c')) w1) : wpList Tryd.prog ops Q (o :: rest) a W := by
  obtain rfl : xs.length = n0 := HO.c.1
  refine Kd.R_append_rows Kd.string (w0 := w0) w0.heap.size hgd s x 22 9 (.string ⟨#[]⟩) 16 ho Tryd.underlying22 inf9 rfl (by decide) (by omega) (.slice A0 xs.length c0) xs ys A m c (fun _ => True) (fun _ => False) hs hx HO.1 HR (fun _ _ h => h) (fun _ h => h.elim) (fun _ _ => trivial) HO.2 HO.2.size (by omega) ?_
  intro v1 w1 ho hb hg hat
  obtain ⟨A', c', rfl⟩ := Kd.R_slice ho
  obtain rfl : ys.length = m := HR.1
  simp only [List.length_append] at ho ⊢
  exact h A' c' w1 ⟨ho, hb⟩
end
theorem OwnL.nil {w0 w : World} (h : Below w0.heap.size w0 w) : OwnL w0 w (.slice none 0 0) [] := ⟨Kd.R_nil _ _ _ _ _, h⟩
theorem OwnL.cap {w0 w : World} {A : Option Addr} {n c : Nat} {l : List ByteArray} (h : OwnL w0 w (.slice A n c) l) : n ≤ c := by
  obtain ⟨_, h1, _⟩ := Kd.R_reads' h.1
  exact h1
theorem OwnL.keep {w0 w w1 : World} {v : Value} {l : List ByteArray} (h : OwnL w0 w v l) (hb : Below w.heap.size w w1) : OwnL w0 w1 v l := ⟨Kd.R_below h.1 hb, h.2.trans (hb.mono h.2.size)⟩

/-- The reference's table of kinds lies. -/
def KindsAt (w : World) : Prop := ∀ i, i < 62 → w.cell? ⟨0, i * 3, none⟩ = some (.int .i64 (idxInt (upOf i))) ∧ w.cell? ⟨0, i * 3 + 1, none⟩ = some (.int .i64 (rowAt i).syn) ∧ w.cell? ⟨0, i * 3 + 2, none⟩ = some (.int .i64 (rowAt i).use)
theorem KindsAt.below {w w1 : World} (h : KindsAt w) (hb : Below w.heap.size w w1) : KindsAt w1 := fun i hi => ⟨pw_cell_below hb (h i hi).1, pw_cell_below hb (h i hi).2.1, pw_cell_below hb (h i hi).2.2⟩
theorem KindsAt.alloc {w : World} (h : KindsAt w) (o : Obj) : KindsAt (w.alloc o) := h.below ((Below.refl _ _).alloc (Nat.le_refl _) _)
def tailOf : Option Nat → List ByteArray
  | some i => chainOf i
  | none => []
def stepsOf : Option Nat → Nat
  | some i => depthOf i
  | none => 0
theorem tail_step {i : Nat} (hi : i < 62) : chainOf i = (rowAt i).nm :: tailOf (upOf i) ∧ depthOf i = stepsOf (upOf i) + 1 := by
  cases h : upOf i with
  | none => exact ⟨by rw [chain_none hi h]; rfl, by rw [up_none hi h]; rfl⟩
  | some j => exact ⟨by rw [chain_some hi h]; rfl, by rw [(up_some hi h).2]; rfl⟩
def ListPost (w : World) (l : List ByteArray) (e : Ending) (w' : World) : Prop := ∃ A n c, e = .returned (.slice A n c) ∧ n ≤ c ∧ Kd.C Kd.string w' A n l ∧ Below w.heap.size w w'
set_option maxHeartbeats 8000000 in
set_option maxRecDepth 100000 in
theorem refSupers_calls (s : ByteArray) (hs : s.size ≤ 1000000000) (w : World) (hk : KindsAt w) : Calls Tryd.prog 40 #[.string s] w (ListPost w (supersF s)) := by
  have HS := Aside0.mk hs
  have HKN := Aside0.mk hk
  clear hs hk
  go_enter Tryd.func40, Tryd.ntmps40
  go_wp2_with fail
  refine (row_calls _ HS.out _).mono ?_
  rintro e w1 ⟨rfl, hb1⟩
  have HB1 := Aside0.mk hb1
  clear hb1
  cases hi : nameIdx (foldB s) with
  | none =>
    have HC := Aside0.mk (show supersF s = [foldB s] by simp [supersF, hi])
    simp only [idxInt]
    clear hi
    go_wp2_with fail
    refine (refFold_calls _ HS.out _).mono ?_
    rintro e w2 ⟨rfl, hb2⟩
    have HB2 := Aside0.mk (HB1.out.trans (hb2.mono HB1.out.size))
    clear hb2
    go_wp2
    go_ret
    rw [HC.out]
    exact ⟨_, _, _, rfl, Nat.le_refl _, C_single _ _, HB2.out.alloc HB2.out.size _⟩
  | some i0 =>
    have HC := Aside0.mk (show supersF s = chainOf i0 by simp [supersF, hi])
    have hlt0 := nameIdx_lt hi
    simp only [idxInt]
    clear hi
    have hi0 : ¬ ((i0 : Int) < 0) := by omega
    go_wp2_with fail
    refine (names_calls _).mono ?_
    rintro e w2 ⟨rfl, hb2⟩
    have HB2 := Aside0.mk (HB1.out.trans (hb2.mono HB1.out.size))
    clear hb2
    go_wp2_with ((with_reducible refine gate_store (t := 90) (p := 5) rfl ?_); refine wpList_store_row rfl 90 (.tmp 5) (.tmp 13) rfl w2.heap.size namesC rfl rfl 90 Tryd.zeroCells90 (blk_new _ _) (by kernel_rfl) (by kernel_rfl) (by kernel_rfl) ?_)
    have hblk := setRow_heap (w2.alloc (Obj.cells Tryd.zeroCells90 90)) w2.heap.size _ namesC _ _ (blk_new w2 (Obj.cells Tryd.zeroCells90 90))
    have hbelow : Below w.heap.size w ((w2.alloc (Obj.cells Tryd.zeroCells90 90)).setRow w2.heap.size namesC) := below_setRow (HB2.out.alloc HB2.out.size _) HB2.out.size _
    generalize (w2.alloc (Obj.cells Tryd.zeroCells90 90)).setRow w2.heap.size namesC = W at hblk hbelow ⊢
    have HK := Aside0.mk hblk
    have HB := Aside0.mk hbelow
    clear hblk hbelow HB2
    simp only [Act.put]
    go_loopg [3, 4] (depthOf i0) (fun kq v3 v4 wr => ∃ (o : Option Nat) (acc : List ByteArray) (A : Option Addr) (n c : Nat), v3 = .int .i64 (idxInt o) ∧ v4 = .slice A n c ∧ Aside0 (∀ i, o = some i → i < 62) ∧ Aside0 (acc ++ tailOf o = chainOf i0) ∧ Aside0 (kq = stepsOf o) ∧ Aside0 (OwnL W wr (.slice A n c) acc))
    case atStart => exact ⟨some i0, [], none, 0, 0, rfl, rfl, ⟨fun i h => by cases h; exact hlt0⟩, ⟨rfl⟩, ⟨rfl⟩, ⟨OwnL.nil (Below.refl _ _)⟩⟩
    case round =>
      obtain ⟨o, acc, A, n, c, rfl, rfl, hlt, hac, hq, hown⟩ := hrel
      cases o with
      | none =>
        have HA := Aside0.mk (show acc = chainOf i0 by simpa [tailOf] using hac.out)
        simp only [idxInt]
        go_wp2
        go_ret
        rw [HC.out, ← HA.out]
        exact ⟨_, _, _, rfl, hown.out.cap, hown.out.c, HB.out.trans (hown.out.2.mono HB.out.size)⟩
      | some i =>
        have hi62 := hlt.out i rfl
        obtain ⟨q0, _, _⟩ := names_at (blk_below HK.out hown.out.2) i hi62
        have k0 : ∀ w', Below W.heap.size W w' → w'.cell? ⟨0, i * 3, none⟩ = some (.int .i64 (idxInt (upOf i))) := fun w' hb => ((HKN.out.below (HB.out.trans (hb.mono HB.out.size))) i hi62).1
        have HT := Aside0.mk (tail_step hi62)
        have HUP := Aside0.mk (show ∀ j, upOf i = some j → j < 62 from fun j hj => (up_some hi62 hj).1)
        generalize hnm : (rowAt i).nm = nm at q0
        rw [hnm] at HT
        generalize upOf i = up at k0 HT HUP
        have hiN : (0 : Int) ≤ (i : Int) := by omega
        have hnl : n ≤ 100 := by
          have h1 := hown.out.c.1
          have h2 := congrArg List.length hac.out
          rw [List.length_append] at h2
          have h3 : (chainOf i0).length ≤ 8 := by unfold chainOf; exact Nat.le_trans (chainL_len _ _) (depth_le _)
          omega
        simp only [idxInt]
        have KF := Aside0.mk k0
        clear hnm hlt k0
        go_wp2_with (at_builtin; refine app_one W wr (.tmp 16) (.tmp 21) rfl rfl A n c acc nm rfl rfl hown.out (by omega) ?_; intro A2 c2 w3 ho; have HO := Aside0.mk ho; have k1 := KF.out _ ho.2; clear ho)
        go_roundg (gk - 1)
        case rel => exact ⟨up, acc ++ [nm], A2, n + 1, c2, rfl, rfl, ⟨HUP.out⟩, ⟨by rw [List.append_assoc]; exact (congrArg (acc ++ ·) HT.out.1.symm).trans hac.out⟩, ⟨by have := HT.out.2; have := hq.out; simp only [stepsOf] at this; omega⟩, ⟨HO.out⟩⟩
        case measure => have := HT.out.2; have := hq.out; simp only [stepsOf] at this; omega
end Go.Proofs.YtghjinhgloegaaaDoor

namespace Go.Proofs.YtghjinhgloegaaaDoor
open Go.RowKit Go.Sort Go.Proofs.YtghjinhgloegaaaDoorW.PrintWords
set_option linter.unusedVariables false
set_option linter.unusedSimpArgs false

theorem lt_tr {a b c : List UInt8} (h1 : a < b) (h2 : b < c) : a < c := List.lt_trans h1 h2
theorem lt_ir (a : List UInt8) : ¬ a < a := List.lt_irrefl a
theorem lt_an {a b : List UInt8} (h1 : ¬ a < b) (h2 : ¬ b < a) : a = b := List.le_antisymm (List.not_lt.1 h2) (List.not_lt.1 h1)
theorem lt_of {a b : List UInt8} (h1 : a ≤ b) (h2 : a ≠ b) : a < b := by
  by_cases h : a < b
  · exact h
  · exact absurd (List.le_antisymm h1 (List.not_lt.1 h)) h2
theorem less_lt : ∀ (x y : List UInt8), Op.bytesLess x y = decide (x < y)
  | [], [] => by simp [Op.bytesLess]
  | _ :: _, [] => by simp [Op.bytesLess]
  | [], _ :: _ => by simp [Op.bytesLess]
  | a :: x, b :: y => by
    rw [Op.bytesLess, less_lt x y]
    simp only [List.cons_lt_cons_iff]
    by_cases h1 : a < b <;> by_cases h2 : a = b <;> by_cases h3 : x < y <;> simp [h1, h2, h3]
def ltS (a b : ByteArray) : Bool := Op.bytesLess a.toList b.toList
theorem ltS_iff (a b : ByteArray) : ltS a b = true ↔ a.toList < b.toList := by unfold ltS; rw [less_lt]; simp
theorem toList_inj {a b : ByteArray} (h : a.toList = b.toList) : a = b := by
  rw [ByteArray.toList_eq, ByteArray.toList_eq] at h
  obtain ⟨⟨l⟩⟩ := a
  obtain ⟨⟨m⟩⟩ := b
  exact congrArg (fun l => (⟨⟨l⟩⟩ : ByteArray)) h
def Rising (l : List ByteArray) : Prop := l.Pairwise fun a b => a.toList < b.toList

/-! sorted -/
def mergeU : List ByteArray → List ByteArray → List ByteArray
  | [], b => b
  | x :: a, [] => x :: a
  | x :: a, y :: b => if ltS x y = true then x :: mergeU a (y :: b) else if ltS y x = true then y :: mergeU (x :: a) b else mergeU a (y :: b)
termination_by a b => a.length + b.length
theorem mergeU_nil (b : List ByteArray) : mergeU [] b = b := by unfold mergeU; rfl
theorem mergeU_nil2 (a : List ByteArray) : mergeU a [] = a := by cases a <;> unfold mergeU <;> rfl
theorem mergeU_cons (x y : ByteArray) (a b : List ByteArray) : mergeU (x :: a) (y :: b) = if ltS x y = true then x :: mergeU a (y :: b) else if ltS y x = true then y :: mergeU (x :: a) b else mergeU a (y :: b) := by
  conv => lhs; unfold mergeU
theorem mem_mergeU (z : ByteArray) : ∀ (n : Nat) (a b : List ByteArray), a.length + b.length ≤ n → (z ∈ mergeU a b ↔ z ∈ a ∨ z ∈ b)
  | _, [], b, _ => by rw [mergeU_nil]; simp
  | _, x :: a, [], _ => by rw [mergeU_nil2]; simp
  | 0, x :: a, y :: b, h => by simp at h
  | n + 1, x :: a, y :: b, h => by
    rw [mergeU_cons]
    simp only [List.length_cons] at h
    by_cases h1 : ltS x y = true
    · rw [if_pos h1, List.mem_cons, mem_mergeU z n a (y :: b) (by simp; omega)]
      simp [or_assoc]
    · rw [if_neg h1]
      by_cases h2 : ltS y x = true
      · rw [if_pos h2, List.mem_cons, mem_mergeU z n (x :: a) b (by simp; omega)]
        simp only [List.mem_cons]
        constructor
        · rintro (h3 | (h3 | h3) | h3) <;> simp [h3]
        · rintro ((h3 | h3) | h3 | h3) <;> simp [h3]
      · rw [if_neg h2, mem_mergeU z n a (y :: b) (by simp; omega)]
        have he : x = y := toList_inj (lt_an (fun e => h1 ((ltS_iff _ _).2 e)) (fun e => h2 ((ltS_iff _ _).2 e)))
        simp only [List.mem_cons, he]
        constructor
        · rintro (h3 | h3 | h3) <;> simp [h3]
        · rintro ((h3 | h3) | h3 | h3) <;> simp [h3]
theorem rising_mergeU : ∀ (n : Nat) (a b : List ByteArray), a.length + b.length ≤ n → Rising a → Rising b → Rising (mergeU a b)
  | _, [], b, _, _, hb => by rw [mergeU_nil]; exact hb
  | _, x :: a, [], _, ha, _ => by rw [mergeU_nil2]; exact ha
  | 0, x :: a, y :: b, h, _, _ => by simp at h
  | n + 1, x :: a, y :: b, h, ha, hb => by
    rw [mergeU_cons]
    simp only [List.length_cons] at h
    have ha2 := List.pairwise_cons.1 ha
    have hb2 := List.pairwise_cons.1 hb
    by_cases h1 : ltS x y = true
    · rw [if_pos h1]
      refine List.pairwise_cons.2 ⟨fun z hz => ?_, rising_mergeU n a (y :: b) (by simp; omega) ha2.2 hb⟩
      have hxy := (ltS_iff _ _).1 h1
      rcases (mem_mergeU z _ a (y :: b) (Nat.le_refl _)).1 hz with h3 | h3
      · exact ha2.1 z h3
      · rcases List.mem_cons.1 h3 with rfl | h3
        · exact hxy
        · exact lt_tr hxy (hb2.1 z h3)
    · rw [if_neg h1]
      by_cases h2 : ltS y x = true
      · rw [if_pos h2]
        refine List.pairwise_cons.2 ⟨fun z hz => ?_, rising_mergeU n (x :: a) b (by simp; omega) ha hb2.2⟩
        have hyx := (ltS_iff _ _).1 h2
        rcases (mem_mergeU z _ (x :: a) b (Nat.le_refl _)).1 hz with h3 | h3
        · rcases List.mem_cons.1 h3 with rfl | h3
          · exact hyx
          · exact lt_tr hyx (ha2.1 z h3)
        · exact hb2.1 z h3
      · rw [if_neg h2]
        exact rising_mergeU n a (y :: b) (by simp; omega) ha2.2 hb
def sortedF : Nat → List ByteArray → List ByteArray
  | 0, l => l
  | n + 1, l => if l.length < 2 then l else mergeU (sortedF n (l.take (l.length / 2))) (sortedF n (l.drop (l.length / 2)))
theorem mem_sortedF (z : ByteArray) : ∀ (n : Nat) (l : List ByteArray), z ∈ sortedF n l ↔ z ∈ l
  | 0, l => Iff.rfl
  | n + 1, l => by
    unfold sortedF
    split
    · rfl
    · rw [mem_mergeU z _ _ _ (Nat.le_refl _), mem_sortedF z n, mem_sortedF z n, ← List.mem_append, List.take_append_drop]
theorem rising_sortedF : ∀ (n : Nat) (l : List ByteArray), l.length ≤ n → Rising (sortedF n l)
  | 0, l, h => by
    have : l = [] := List.eq_nil_of_length_eq_zero (by omega)
    subst this; exact List.Pairwise.nil
  | n + 1, l, h => by
    unfold sortedF
    split
    · rename_i h2
      match l, h2 with
      | [], _ => exact List.Pairwise.nil
      | [x], _ => exact List.pairwise_singleton _ _
      | x :: y :: l, h2 => exact absurd h2 (by simp)
    · exact rising_mergeU _ _ _ (Nat.le_refl _) (rising_sortedF n _ (by rw [List.length_take]; omega)) (rising_sortedF n _ (by rw [List.length_drop]; omega))
theorem rising_unique {a b : List ByteArray} (ha : Rising a) (hb : Rising b) (h : ∀ z, z ∈ a ↔ z ∈ b) : a = b := by
  have nd : ∀ {l : List ByteArray}, Rising l → l.Nodup := fun {l} hl => List.Pairwise.imp (R := fun (a b : ByteArray) => a.toList < b.toList) (S := fun a b => a ≠ b) (fun {x y} (h : x.toList < y.toList) (e : x = y) => lt_ir y.toList (by rw [e] at h; exact h)) hl
  exact List.Perm.eq_of_pairwise (le := fun (a b : ByteArray) => a.toList < b.toList) (fun x y _ _ (h1 : x.toList < y.toList) (h2 : y.toList < x.toList) => absurd (lt_tr h1 h2) (lt_ir _)) ha hb ((List.perm_ext_iff_of_nodup (nd ha) (nd hb)).2 h)
theorem mkB_toList (l : List UInt8) : (mkB l).toList = l := by rw [ByteArray.toList_eq]; rfl
theorem optB_sorted (s : ByteArray) : optB s = sortedF ((pieces s).tail.length) ((pieces s).tail.map foldB) := by
  refine rising_unique ?_ (rising_sortedF _ _ (by rw [List.length_map]; exact Nat.le_refl _)) fun z => ?_
  · unfold optB optL Rising
    refine List.pairwise_map.2 ?_
    have tr : ∀ a b c : List UInt8, leB a b = true → leB b c = true → leB a c = true := fun a b c h1 h2 => by simp only [leB, decide_eq_true_eq] at *; exact List.le_trans h1 h2
    have tot : ∀ a b : List UInt8, (leB a b || leB b a) = true := fun a b => by simp only [leB, Bool.or_eq_true, decide_eq_true_eq]; exact List.le_total a b
    have h1 := List.pairwise_mergeSort tr tot (dedup ((pieces s).tail.map foldL))
    have h2 : ((dedup ((pieces s).tail.map foldL)).mergeSort leB).Nodup := (List.mergeSort_perm _ leB).nodup_iff.2 (nodup_dedup _)
    refine (h1.and h2).imp fun {a b} h => ?_
    rw [mkB_toList, mkB_toList]
    have h3 := h.1
    simp only [leB, decide_eq_true_eq] at h3
    exact lt_of h3 h.2
  · rw [mem_sortedF]
    unfold optB optL
    constructor
    · intro h
      obtain ⟨x, hx, rfl⟩ := List.mem_map.1 h
      have h2 := mem_dedup.1 ((List.mergeSort_perm _ leB).mem_iff.1 hx)
      obtain ⟨y, hy, rfl⟩ := List.mem_map.1 h2
      exact List.mem_map.2 ⟨y, hy, toList_inj (by rw [mkB_toList, ByteArray.toList_eq]; rfl)⟩
    · intro h
      obtain ⟨y, hy, rfl⟩ := List.mem_map.1 h
      exact List.mem_map.2 ⟨foldL y, (List.mergeSort_perm _ leB).mem_iff.2 (mem_dedup.2 (List.mem_map.2 ⟨y, hy, rfl⟩)), toList_inj (by rw [mkB_toList, ByteArray.toList_eq]; rfl)⟩
theorem optB_rising (s : ByteArray) : Rising (optB s) := by rw [optB_sorted]; exact rising_sortedF _ _ (by rw [List.length_map]; exact Nat.le_refl _)

/-! within -/
def withinL : List ByteArray → List ByteArray → Bool
  | [], _ => true
  | x :: a, [] => false
  | x :: a, y :: b => if ltS y x = true then withinL (x :: a) b else if y.toList = x.toList then withinL a (y :: b) else false
termination_by a b => a.length + b.length
theorem withinL_nil (b : List ByteArray) : withinL [] b = true := by unfold withinL; rfl
theorem withinL_none (x : ByteArray) (a : List ByteArray) : withinL (x :: a) [] = false := by unfold withinL; rfl
theorem withinL_cons (x y : ByteArray) (a b : List ByteArray) : withinL (x :: a) (y :: b) = if ltS y x = true then withinL (x :: a) b else if y.toList = x.toList then withinL a (y :: b) else false := by
  conv => lhs; unfold withinL
theorem hasB_iff (l : List ByteArray) (s : ByteArray) : hasB l s = true ↔ s ∈ l := by
  unfold hasB
  rw [List.any_eq_true]
  constructor
  · rintro ⟨x, hx, h⟩
    have e : x = s := toList_inj (by simpa using h)
    rw [← e]; exact hx
  · intro h; exact ⟨s, h, by simp⟩
theorem withinL_all : ∀ (n : Nat) (a b : List ByteArray), a.length + b.length ≤ n → Rising a → Rising b → withinL a b = a.all (hasB b)
  | _, [], b, _, _, _ => by rw [withinL_nil]; rfl
  | _, x :: a, [], _, _, _ => by rw [withinL_none]; rfl
  | 0, x :: a, y :: b, h, _, _ => by simp at h
  | n + 1, x :: a, y :: b, h, ha, hb => by
    rw [withinL_cons]
    simp only [List.length_cons] at h
    have ha2 := List.pairwise_cons.1 ha
    have hb2 := List.pairwise_cons.1 hb
    by_cases h1 : ltS y x = true
    · rw [if_pos h1, withinL_all n (x :: a) b (by simp; omega) ha hb2.2]
      have hyx := (ltS_iff _ _).1 h1
      refine Bool.eq_iff_iff.2 ?_
      rw [List.all_eq_true, List.all_eq_true]
      have hlt : ∀ z ∈ x :: a, y.toList < z.toList := fun z hz => by
        rcases List.mem_cons.1 hz with rfl | hz
        · exact hyx
        · exact lt_tr hyx (ha2.1 z hz)
      constructor
      · intro h3 z hz; exact (hasB_iff _ _).2 (List.mem_cons_of_mem _ ((hasB_iff _ _).1 (h3 z hz)))
      · intro h3 z hz
        rcases List.mem_cons.1 ((hasB_iff _ _).1 (h3 z hz)) with e | e
        · have := hlt z hz; rw [e] at this; exact absurd this (lt_ir _)
        · exact (hasB_iff _ _).2 e
    · rw [if_neg h1]
      by_cases h2 : y.toList = x.toList
      · rw [if_pos h2, withinL_all n a (y :: b) (by simp; omega) ha2.2 hb, List.all_cons]
        have : hasB (y :: b) x = true := (hasB_iff _ _).2 (by rw [toList_inj h2]; simp)
        rw [this]; rfl
      · rw [if_neg h2, List.all_cons]
        have : hasB (y :: b) x = false := by
          cases hx : hasB (y :: b) x with
          | false => rfl
          | true =>
            rcases List.mem_cons.1 ((hasB_iff _ _).1 hx) with e | e
            · exact absurd (by rw [e]) h2
            · exact absurd ((ltS_iff _ _).2 (hb2.1 x e)) h1
        rw [this]; rfl
theorem drop_rdOf (l : List ByteArray) (j : Nat) (h : j < l.length) : l.drop j = rdOf ByteArray.empty l (j : Int) :: l.drop (j + 1) := by rw [rdOf_nat]; exact drop_getD l j h
theorem within_l (a b : List ByteArray) (ha : a.length ≤ 1000000000) (hb : b.length ≤ 1000000000) : ∀ (n : Nat),
    (∀ i j k : Nat, i ≤ a.length → j ≤ b.length → (a.length - i) * 2 + (b.length - j) + 1 ≤ n → n ≤ k → rosterref04_within.l0 k a b (j : Int) (i : Int) = some (withinL (a.drop i) (b.drop j))) ∧
    (∀ i j k : Nat, i < a.length → j ≤ b.length → (a.length - i) * 2 + (b.length - j) ≤ n → n ≤ k → rosterref04_within.l1 k a b (j : Int) (i : Int) = some (withinL (a.drop i) (b.drop j))) := by
  intro n
  induction n with
  | zero => exact ⟨fun i j k h1 h2 h3 => by omega, fun i j k h1 h2 h3 => by omega⟩
  | succ n ih =>
    obtain ⟨ih0, ih1⟩ := ih
    constructor
    · intro i j k h1 h2 h3 h4
      obtain ⟨k, rfl⟩ : ∃ k', k = k' + 1 := ⟨k - 1, by omega⟩
      rw [rosterref04_within.l0]
      by_cases h : i < a.length
      · rw [if_pos (by omega), ih1 i j k h h2 (by omega) (by omega)]
      · rw [if_neg (by omega), show a.drop i = [] from List.drop_of_length_le (by omega), withinL_nil]
    · intro i j k h1 h2 h3 h4
      obtain ⟨k, rfl⟩ : ∃ k', k = k' + 1 := ⟨k - 1, by omega⟩
      rw [rosterref04_within.l1, drop_rdOf a i h1]
      by_cases h : j < b.length
      · rw [if_pos (by omega), if_pos (by omega), if_pos (by omega), if_pos (by omega), drop_rdOf b j h, withinL_cons]
        rw [← drop_rdOf b j h, ← drop_rdOf a i h1]
        by_cases h5 : ltS (rdOf ByteArray.empty b (j : Int)) (rdOf ByteArray.empty a (i : Int)) = true
        · rw [if_pos h5]
          unfold ltS at h5
          rw [if_pos h5, wrap1 j (by omega), ih1 i (j + 1) k h1 (by omega) (by omega) (by omega)]
        · rw [if_neg h5]
          unfold ltS at h5
          rw [if_neg h5, if_neg (by omega)]
          by_cases h6 : (rdOf ByteArray.empty b (j : Int)).toList = (rdOf ByteArray.empty a (i : Int)).toList
          · rw [if_pos h6, if_pos h6, wrap1 i (by omega), ih0 (i + 1) j k (by omega) h2 (by omega) (by omega)]
          · rw [if_neg h6, if_neg h6]
      · rw [if_neg (by omega), if_pos (by omega), show b.drop j = [] from List.drop_of_length_le (by omega), withinL_none]
theorem within_calls (A : Option Addr) (n c : Nat) (a : List ByteArray) (B : Option Addr) (m d : Nat) (b : List ByteArray) (w : World) (h : Kd.C Kd.string w A n a) (g : n ≤ c) (h' : Kd.C Kd.string w B m b) (g' : m ≤ d) (ha : a.length ≤ 1000000000) (hb : b.length ≤ 1000000000) (ra : Rising a) (rb : Rising b) :
    Calls Tryd.prog 42 #[.slice A n c, .slice B m d] w fun e w' => e = .returned (.bool (a.all (hasB b))) ∧ Drawn0 w w' := by
  obtain rfl : a.length = n := h.1
  obtain rfl : b.length = m := h'.1
  refine rosterref04_within.calls 4000000001 A c a B d b _ w h g h' g' ?_
  have := (within_l a b ha hb 4000000001).1 0 0 4000000001 (by omega) (by omega) (by omega) (by omega)
  rw [List.drop_zero, List.drop_zero, withinL_all _ a b (Nat.le_refl _) ra rb] at this
  exact this
end Go.Proofs.YtghjinhgloegaaaDoor

namespace Go.Proofs.YtghjinhgloegaaaDoor
open Go.RowKit Go.Proofs.YtghjinhgloegaaaDoorW.PrintWords
set_option linter.unusedVariables false
set_option linter.unusedSimpArgs false

theorem mergeU_len : ∀ (n : Nat) (a b : List ByteArray), a.length + b.length ≤ n → (mergeU a b).length ≤ a.length + b.length
  | _, [], b, _ => by rw [mergeU_nil]; simp
  | _, x :: a, [], _ => by rw [mergeU_nil2]; simp
  | 0, x :: a, y :: b, h => by simp at h
  | n + 1, x :: a, y :: b, h => by
    rw [mergeU_cons]
    simp only [List.length_cons] at h
    have h1 := mergeU_len n a (y :: b) (by simp; omega)
    have h2 := mergeU_len n (x :: a) b (by simp; omega)
    split
    · simp at *; omega
    · split
      · simp at *; omega
      · simp at *; omega
theorem sortedF_len : ∀ (n : Nat) (l : List ByteArray), (sortedF n l).length ≤ l.length
  | 0, l => Nat.le_refl _
  | n + 1, l => by
    unfold sortedF
    split
    · exact Nat.le_refl _
    · have h1 := mergeU_len _ (sortedF n (l.take (l.length / 2))) (sortedF n (l.drop (l.length / 2))) (Nat.le_refl _)
      have h2 := sortedF_len n (l.take (l.length / 2))
      have h3 := sortedF_len n (l.drop (l.length / 2))
      rw [List.length_take] at h2
      rw [List.length_drop] at h3
      omega
theorem add_block (a : Addr) (k : Nat) : (a.add k).block = a.block := by unfold Addr.add; split <;> rfl
theorem cell_off (w : World) (p q : Addr) (u : Value) (h : q.block ≠ p.block) : (w.setCell p u).cell? q = w.cell? q := by
  unfold World.cell?
  rw [Below.heap_setCell w p u q.block h]
theorem C_far {w : World} {A : Option Addr} {n : Nat} {l : List ByteArray} (h : Kd.C Kd.string w A n l) (p : Addr) (u : Value) (hA : ∀ ad, A = some ad → ad.block ≠ p.block) : Kd.C Kd.string (w.setCell p u) A n l := by
  refine ⟨h.1, h.2.1, fun hn => ?_⟩
  obtain ⟨ad, e, hc⟩ := h.2.2 hn
  refine ⟨ad, e, fun j q hj => ?_⟩
  obtain ⟨c, h1, h2, h3⟩ := hc j q hj
  exact ⟨c, h1, h2, fun i v hv => by rw [cell_off _ _ _ _ (by rw [add_block]; exact hA ad e)]; exact h3 i v hv⟩
theorem OwnL.lies {w0 w : World} {ad : Addr} {n c : Nat} {l : List ByteArray} (h : OwnL w0 w (.slice (some ad) n c) l) : w0.heap.size ≤ ad.block := by
  obtain ⟨_, cs, hr, _⟩ := h.1
  rcases hr.2 with ⟨e, _⟩ | ⟨g, cap, cur, e, hg, _⟩
  · cases e
  · have : ad = ⟨g, 0, none⟩ := by simpa using congrArg (fun v => match v with | Value.slice (some a) _ _ => a | _ => ad) e
    rw [this]; exact hg
def SortedPost (w : World) (A : Option Addr) (l : List ByteArray) (e : Ending) (w' : World) : Prop := ∃ A' n c, e = .returned (.slice A' n c) ∧ n ≤ c ∧ Kd.C Kd.string w' A' n l ∧ Below w.heap.size w w' ∧ ∀ ad, A' = some ad → w.heap.size ≤ ad.block ∨ ∃ bd, A = some bd ∧ ad.block = bd.block
theorem str_at {w : World} {A : Option Addr} {n : Nat} {l : List ByteArray} (h : Kd.C Kd.string w A n l) (j : Nat) (hj : j < n) : ∃ ad, A = some ad ∧ w.cell? (ad.add j) = some (.string (l.getD j ByteArray.empty)) := by
  obtain ⟨ad, rfl, hc⟩ := Kd.at_string h j (by omega) (by omega)
  exact ⟨ad, rfl, by simpa [rdOf] using hc⟩
set_option maxHeartbeats 8000000 in
set_option maxRecDepth 100000 in
theorem sorted_calls : ∀ (n : Nat) (l : List ByteArray), l.length ≤ n → l.length ≤ 1000000000 → ∀ (A : Option Addr) (k c : Nat) (w : World), Kd.C Kd.string w A k l → k ≤ c → Calls Tryd.prog 63 #[.slice A k c] w (SortedPost w A (sortedF n l)) := by
  intro n
  induction n with
  | zero =>
    intro l hn hl A k c w hC hc
    obtain rfl : k = 0 := by have := hC.1; omega
    have HC := Aside0.mk hC
    clear hC
    go_enter Tryd.func63, Tryd.ntmps63
    go_wp2
    go_ret
    exact ⟨_, _, _, rfl, hc, HC.out, Below.refl _ _, fun ad h => .inr ⟨ad, h, rfl⟩⟩
  | succ n ih =>
    intro l hn hl A k c w hC hc
    have IH := Aside0.mk ih
    have HC := Aside0.mk hC
    have hkl : k = l.length := hC.1.symm
    have HL := Aside0.mk hl
    have HNN := Aside0.mk hn
    have HKL := Aside0.mk hkl
    have hk9 : k ≤ 1000000000 := by omega
    clear ih hC hl hn hkl
    by_cases h2 : k < 2
    · go_enter Tryd.func63, Tryd.ntmps63
      go_wp2
      go_ret
      unfold sortedF
      rw [if_pos (by have := HKL.out; omega)]
      exact ⟨_, _, _, rfl, hc, HC.out, Below.refl _ _, fun ad h => .inr ⟨ad, h, rfl⟩⟩
    · go_enter Tryd.func63, Tryd.ntmps63
      go_wp2_with fail
      have hA := Kd.C_take (m := l.length / 2) (HKL.out ▸ HC.out) (by omega)
      rw [show (l.take (l.length / 2)).length = k / 2 by rw [List.length_take, HKL.out]; omega] at hA
      refine (IH.out (l.take (l.length / 2)) (by have := HNN.out; have := HKL.out; rw [List.length_take]; omega) (by have := HL.out; rw [List.length_take]; omega) A (k / 2) c w hA (by omega)).mono ?_
      rintro e w1 ⟨A1, n1, c1, rfl, g1, h1, hb1, _⟩
      have H1 := Aside0.mk h1
      have HB1 := Aside0.mk hb1
      clear h1 hb1 hA
      go_wp2_with fail
      have hB := Kd.C_drop (m := l.length / 2) (c := c) (HKL.out ▸ Kd.C_below HC.out HB1.out) (by omega) (by have := HKL.out; omega)
      rw [show (l.drop (l.length / 2)).length = k - k / 2 by rw [List.length_drop, HKL.out], if_neg (by have := HKL.out; omega), show l.length / 2 * Kd.string.sz = k / 2 by rw [HKL.out]; exact Nat.mul_one _] at hB
      refine (IH.out (l.drop (l.length / 2)) (by have := HNN.out; have := HKL.out; rw [List.length_drop]; omega) (by have := HL.out; rw [List.length_drop]; omega) _ (k - k / 2) (c - k / 2) w1 hB (by omega)).mono ?_
      rintro e w2 ⟨A2, n2, c2, rfl, g2, h2', hb2, _⟩
      have hs : sortedF (n + 1) l = mergeU (sortedF n (l.take (l.length / 2))) (sortedF n (l.drop (l.length / 2))) := by
        conv => lhs; unfold sortedF
        rw [if_neg (by have := HKL.out; omega)]
      have hza : (sortedF n (l.take (l.length / 2))).length ≤ 1000000000 := by have := sortedF_len n (l.take (l.length / 2)); have := HL.out; rw [List.length_take] at *; omega
      have hzb : (sortedF n (l.drop (l.length / 2))).length ≤ 1000000000 := by have := sortedF_len n (l.drop (l.length / 2)); have := HL.out; rw [List.length_drop] at *; omega
      have HS := Aside0.mk hs
      have H1 := Aside0.mk (Kd.C_below H1.out hb2)
      have H2 := Aside0.mk h2'
      have HB := Aside0.mk (HB1.out.trans (hb2.mono HB1.out.size))
      generalize sortedF n (l.take (l.length / 2)) = a at H1 hza HS
      generalize sortedF n (l.drop (l.length / 2)) = b at H2 hzb HS
      have hn1 := H1.out.1
      have hn2 := H2.out.1
      clear hB h2' hb2 hs HB1 IH HC HKL HL HNN
      go_wp2_with fail
      go_loopg [5, 6, 7] (n1 + n2) (fun kq v5 v6 v7 wr => ∃ (i j : Nat) (acc : List ByteArray) (A5 : Option Addr) (n5 c5 : Nat), v5 = .slice A5 n5 c5 ∧ v6 = .int .i64 i ∧ v7 = .int .i64 j ∧ i ≤ n1 ∧ j ≤ n2 ∧ n5 ≤ i + j ∧ Aside0 (kq + i + j = n1 + n2) ∧ Aside0 (acc ++ mergeU (a.drop i) (b.drop j) = mergeU a b) ∧ Aside0 (OwnL w2 wr (.slice A5 n5 c5) acc))
      case atStart => exact ⟨0, 0, [], none, 0, 0, rfl, rfl, rfl, by omega, by omega, by omega, ⟨rfl⟩, ⟨by simp⟩, ⟨OwnL.nil (Below.refl _ _)⟩⟩
      case round =>
        obtain ⟨i, j, acc, A5, n5, c5, rfl, rfl, rfl, hi, hj, hn5, hq, hac, hown⟩ := hrel
        have hx : ∃ x, x = a.getD i ByteArray.empty := ⟨_, rfl⟩
        obtain ⟨x, hx⟩ := hx
        have hy : ∃ y, y = b.getD j ByteArray.empty := ⟨_, rfl⟩
        obtain ⟨y, hy⟩ := hy
        by_cases hi1 : i < n1
        · obtain ⟨ad, rfl, qx⟩ := str_at (Kd.C_below H1.out hown.out.2) i hi1
          rw [← hx] at qx
          have HDA := Aside0.mk (show a.drop i = x :: a.drop (i + 1) by rw [hx]; exact drop_getD a i (by omega))
          by_cases hj1 : j < n2
          · obtain ⟨bd, rfl, qy⟩ := str_at (Kd.C_below H2.out hown.out.2) j hj1
            rw [← hy] at qy
            have HDB := Aside0.mk (show b.drop j = y :: b.drop (j + 1) by rw [hy]; exact drop_getD b j (by omega))
            have HM := Aside0.mk (show mergeU (a.drop i) (b.drop j) = if ltS x y = true then x :: mergeU (a.drop (i + 1)) (b.drop j) else if ltS y x = true then y :: mergeU (a.drop i) (b.drop (j + 1)) else mergeU (a.drop (i + 1)) (b.drop j) by rw [HDA.out, HDB.out]; exact mergeU_cons _ _ _ _)
            clear hx hy
            have hne : ((j : Int) == (n2 : Int)) = false := by simp; omega
            have hne2 : ((i : Int) == (n1 : Int)) = false := by simp; omega
            cases h7 : Op.bytesLess x.toList y.toList with
            | true =>
              have HM2 := Aside0.mk (show mergeU (a.drop i) (b.drop j) = x :: mergeU (a.drop (i + 1)) (b.drop j) by rw [HM.out, if_pos (show ltS x y = true from h7)])
              go_wp2_with fail
              go_quiet (fail)
              have OW := Aside0.mk (OwnL.keep hown.out (pw_below_drewN (Below.refl _ _) nq))
              clear hown
              go_wp2_with (at_builtin; refine app_one w2 (wr.drewN nq) (.tmp 58) (.tmp 63) rfl rfl A5 n5 c5 acc x rfl rfl OW.out (by omega) ?_; intro A6 c6 w3 ho; have HO := Aside0.mk ho; clear ho)
              go_roundg (gk - 1)
              case rel => exact ⟨i + 1, j, acc ++ [x], A6, n5 + 1, c6, rfl, by push_cast; rfl, rfl, hi1, hj, by omega, ⟨by have := hq.out; omega⟩, ⟨by rw [List.append_assoc]; exact (congrArg (acc ++ ·) HM2.out.symm).trans hac.out⟩, ⟨HO.out⟩⟩
              case measure => have := hq.out; omega
            | false =>
              cases h8 : Op.bytesLess y.toList x.toList with
              | true =>
                have HM2 := Aside0.mk (show mergeU (a.drop i) (b.drop j) = y :: mergeU (a.drop i) (b.drop (j + 1)) by rw [HM.out, if_neg (by unfold ltS; rw [h7]; decide), if_pos (show ltS y x = true from h8)])
                go_wp2_with fail
                go_quiet (fail)
                go_wp2_with fail
                revert nq; intro nq1
                go_quiet (fail)
                revert nq; intro nq2
                have OW := Aside0.mk (OwnL.keep hown.out (pw_below_drewN (Below.refl _ _) (nq1 + nq2)))
                clear hown
                go_wp2_with (at_builtin; refine app_one w2 (wr.drewN (nq1 + nq2)) (.tmp 83) (.tmp 88) rfl rfl A5 n5 c5 acc y rfl rfl OW.out (by omega) ?_; intro A6 c6 w3 ho; have HO := Aside0.mk ho; clear ho)
                go_roundg (gk - 1)
                case rel => exact ⟨i, j + 1, acc ++ [y], A6, n5 + 1, c6, rfl, rfl, by push_cast; rfl, hi, hj1, by omega, ⟨by have := hq.out; omega⟩, ⟨by rw [List.append_assoc]; exact (congrArg (acc ++ ·) HM2.out.symm).trans hac.out⟩, ⟨HO.out⟩⟩
                case measure => have := hq.out; omega
              | false =>
                have HM2 := Aside0.mk (show mergeU (a.drop i) (b.drop j) = mergeU (a.drop (i + 1)) (b.drop j) by rw [HM.out, if_neg (by unfold ltS; rw [h7]; decide), if_neg (by unfold ltS; rw [h8]; decide)])
                go_wp2_with fail
                go_quiet (fail)
                go_wp2_with fail
                revert nq; intro nq1
                go_quiet (fail)
                revert nq; intro nq2
                have OW := Aside0.mk (OwnL.keep hown.out (pw_below_drewN (Below.refl _ _) (nq1 + nq2)))
                clear hown
                go_wp2
                go_roundg (gk - 1)
                case rel => exact ⟨i + 1, j, acc, A5, n5, c5, rfl, by push_cast; rfl, rfl, hi1, hj, by omega, ⟨by have := hq.out; omega⟩, ⟨by rw [← HM2.out]; exact hac.out⟩, ⟨OW.out⟩⟩
                case measure => have := hq.out; omega
          · obtain rfl : j = n2 := by omega
            have HDB := Aside0.mk (show b.drop j = [] from List.drop_of_length_le (by omega))
            have HM2 := Aside0.mk (show mergeU (a.drop i) (b.drop j) = x :: mergeU (a.drop (i + 1)) (b.drop j) by rw [HDA.out, HDB.out, mergeU_nil2, mergeU_nil2])
            clear hx hy
            go_wp2_with fail
            go_quiet (fail)
            revert nq; intro nq1
            have OW := Aside0.mk (OwnL.keep hown.out (pw_below_drewN (Below.refl _ _) nq1))
            clear hown
            go_wp2_with (at_builtin; refine app_one w2 (wr.drewN nq1) (.tmp 58) (.tmp 63) rfl rfl A5 n5 c5 acc x rfl rfl OW.out (by omega) ?_; intro A6 c6 w3 ho; have HO := Aside0.mk ho; clear ho)
            go_roundg (gk - 1)
            case rel => exact ⟨i + 1, j, acc ++ [x], A6, n5 + 1, c6, rfl, by push_cast; rfl, rfl, hi1, hj, by omega, ⟨by have := hq.out; omega⟩, ⟨by rw [List.append_assoc]; exact (congrArg (acc ++ ·) HM2.out.symm).trans hac.out⟩, ⟨HO.out⟩⟩
            case measure => have := hq.out; omega
        · obtain rfl : i = n1 := by omega
          have HDA := Aside0.mk (show a.drop i = [] from List.drop_of_length_le (by omega))
          by_cases hj1 : j < n2
          · obtain ⟨bd, rfl, qy⟩ := str_at (Kd.C_below H2.out hown.out.2) j hj1
            rw [← hy] at qy
            have HDB := Aside0.mk (show b.drop j = y :: b.drop (j + 1) by rw [hy]; exact drop_getD b j (by omega))
            have HM2 := Aside0.mk (show mergeU (a.drop i) (b.drop j) = y :: mergeU (a.drop i) (b.drop (j + 1)) by rw [HDA.out, HDB.out, mergeU_nil, mergeU_nil])
            clear hx hy
            have hne : ((j : Int) == (n2 : Int)) = false := by simp; omega
            go_wp2_with fail
            go_quiet (fail)
            go_wp2_with fail
            revert nq; intro nq1
            go_quiet (fail)
            revert nq; intro nq2
            have OW := Aside0.mk (OwnL.keep hown.out (pw_below_drewN (Below.refl _ _) (nq1 + nq2)))
            clear hown
            go_wp2_with (at_builtin; refine app_one w2 (wr.drewN (nq1 + nq2)) (.tmp 83) (.tmp 88) rfl rfl A5 n5 c5 acc y rfl rfl OW.out (by omega) ?_; intro A6 c6 w3 ho; have HO := Aside0.mk ho; clear ho)
            go_roundg (gk - 1)
            case rel => exact ⟨i, j + 1, acc ++ [y], A6, n5 + 1, c6, rfl, rfl, by push_cast; rfl, hi, hj1, by omega, ⟨by have := hq.out; omega⟩, ⟨by rw [List.append_assoc]; exact (congrArg (acc ++ ·) HM2.out.symm).trans hac.out⟩, ⟨HO.out⟩⟩
            case measure => have := hq.out; omega
          · obtain rfl : j = n2 := by omega
            have HA := Aside0.mk (show acc = mergeU a b by
              have h := hac.out
              rw [HDA.out, mergeU_nil, show b.drop j = [] from List.drop_of_length_le (by omega), List.append_nil] at h
              exact h)
            clear hx hy
            go_wp2
            go_ret
            rw [HS.out, ← HA.out]
            exact ⟨_, _, _, rfl, hown.out.cap, hown.out.c, HB.out.trans (hown.out.2.mono HB.out.size), fun ad h => .inl (by subst h; exact Nat.le_trans HB.out.size hown.out.lies)⟩
end Go.Proofs.YtghjinhgloegaaaDoor

namespace Go.Proofs.YtghjinhgloegaaaDoor
open Go.RowKit Go.Proofs.YtghjinhgloegaaaDoorW.PrintWords
set_option linter.unusedVariables false
set_option linter.unusedSimpArgs false

def RefParsePost (w : World) (r : ByteArray × List ByteArray × Int × Int) (e : Ending) (w' : World) : Prop :=
  ∃ A n c p, e = .returned (.tuple #[.agg #[.string r.1, .slice A n c], .int .i64 r.2.2.1, .int .i64 p]) ∧ n ≤ c ∧ Kd.C Kd.string w' A n r.2.1 ∧ Below w.heap.size w w'
set_option maxHeartbeats 8000000 in
set_option maxRecDepth 100000 in
theorem refParse_no (s : ByteArray) (hs : s.size ≤ 900000000) (w : World) (hd : isDesc s = false) : Calls Tryd.prog 39 #[.string s] w (RefParsePost w (parseF s)) := by
  have hu := Tryd.underlying54
  have HP := Aside0.mk (show parseF s = noDesc (scanF s false).2 by simp [parseF, hd])
  have HD := Aside0.mk hd
  have HS := Aside0.mk hs
  clear hd hs
  go_enter Tryd.func39, Tryd.ntmps39
  go_wp2_with fail
  refine (isDesc_calls s (by have := HS.out; omega) _).mono ?_
  rintro e w1 ⟨rfl, hb1⟩
  rw [HD.out]
  have HB1 := Aside0.mk hb1
  clear hb1
  go_wp2_with fail
  refine (place_calls s HS.out _).mono ?_
  rintro e w2 ⟨p, rfl, hb2⟩
  have hb := HB1.out.trans (hb2.mono HB1.out.size)
  have hblk := block_kept hb
  have q0 := blk_cell hblk 0; have q1 := blk_cell hblk 1; have qf := blk_frozen hblk
  have HB := Aside0.mk hb; have HK := Aside0.mk hblk
  clear hb hblk hb2 HB1
  go_wp2_with fail
  refine bodyPost_ret (results_ctt rfl _ _ w.heap.size 54 _ (0, 0) _ rfl (blk_set (blk_set HK.out _ _) _ _) hu rfl (by kernel_rfl)) rfl ?_
  rw [HP.out]
  refine ⟨none, 0, 0, p, rfl, Nat.le_refl _, Kd.C_nil _ _, ?_⟩
  have hb := ((Below.refl w.heap.size w).alloc (Nat.le_refl _) _).trans (HB.out.mono (by simp))
  exact (hb.setCell (Nat.le_refl _) _).setCell (Nat.le_refl _) _
theorem pieces_nth (s : ByteArray) : headB s ∈ pieces s := by unfold headB; exact getD_mem _ 0 (pieces_pos s)
set_option maxHeartbeats 8000000 in
set_option maxRecDepth 100000 in
theorem refParse_yes (s : ByteArray) (hs : s.size ≤ 900000000) (w : World) (hd : isDesc s = true) : Calls Tryd.prog 39 #[.string s] w (RefParsePost w (parseF s)) := by
  have hu := Tryd.underlying54
  have HP := Aside0.mk (show parseF s = yesDesc (canonT (headB s)) (optB s) s.size by simp [parseF, hd])
  have HD := Aside0.mk hd
  have HS := Aside0.mk hs
  clear hd hs
  go_enter Tryd.func39, Tryd.ntmps39
  go_wp2_with fail
  refine (isDesc_calls s (by have := HS.out; omega) _).mono ?_
  rintro e w1 ⟨rfl, hb1⟩
  rw [HD.out]
  have HB1 := Aside0.mk hb1
  clear hb1
  go_wp2_with fail
  refine (parts_calls s (by have := HS.out; omega) _).mono ?_
  rintro e w2 ⟨v, rfl, hv, hb2⟩
  obtain ⟨A2, c2, rfl⟩ := Kd.R_slice hv
  have H2 := Aside0.mk (Kd.R_reads' hv).2.2
  have hb := HB1.out.trans (hb2.mono HB1.out.size)
  have HB2 := Aside0.mk hb
  have hpos := pieces_pos s
  have HMANY := Aside0.mk (pieces_many s)
  obtain ⟨n, hn⟩ : ∃ n, n = (pieces s).length := ⟨_, rfl⟩
  rw [← hn] at H2 hpos HMANY ⊢
  have HN := Aside0.mk hn
  clear hn hb2 hb hv HB1
  obtain ⟨ad, rfl, q0⟩ := str_at H2.out 0 hpos
  rw [show (pieces s).getD 0 ByteArray.empty = headB s from rfl] at q0
  have q1 : w2.cell? ad = some (.string (headB s)) := by rw [← q0]; unfold Addr.add; split <;> simp_all
  have q2 := pw_cell_below ((Below.refl _ _).alloc (Nat.le_refl _) (Obj.cells #[Value.string { data := #[] }, Value.slice none 0 0] 54)) q1
  clear q0
  go_wp2_with fail
  refine (canon_calls (headB s) (by have := HS.out; have := pieces_small s _ (pieces_nth s); omega) _).mono ?_
  rintro e w3 ⟨rfl, hb3⟩
  have hD := block_kept hb3
  have hz : Below w2.heap.size w2 w3 := ((Below.refl _ _).alloc (Nat.le_refl _) _).trans (hb3.mono (by simp))
  have hR := blk_below (block_kept HB2.out) hz
  have H3 := Aside0.mk (Kd.C_below H2.out hz)
  have HB3 := Aside0.mk ((((Below.refl w.heap.size w).alloc (Nat.le_refl _) _).trans (HB2.out.mono (by simp))).trans (hz.mono (by have := HB2.out.size; simp at this; omega)))
  have HSZ := Aside0.mk (show w.heap.size < w2.heap.size by have := HB2.out.size; simp at this; omega)
  have d0 := blk_cell hD 0; have d1 := blk_cell hD 1; have df := blk_frozen hD
  generalize hT : canonT (headB s) = T
  have HTT := Aside0.mk hT
  clear hT
  have hR2 := blk_far hR (p := ⟨w2.heap.size, 0, none⟩) (by have := HSZ.out; simp; omega) (.string T)
  have hD2 := blk_set hD 0 (.string T)
  have hW : Below w2.heap.size w3 (w3.setCell ⟨w2.heap.size, 0, none⟩ (.string T)) := bset _ _ _ _
  have H4 := Aside0.mk (show Kd.C Kd.string (w3.setCell ⟨w2.heap.size, 0, none⟩ (.string T)) (some ad) n (pieces s) from Kd.C_below H2.out (hz.trans hW))
  have HB4 := Aside0.mk (HB3.out.trans (hW.mono (Nat.le_of_lt HSZ.out)))
  have HR2 := Aside0.mk hR2
  have HD2 := Aside0.mk hD2
  clear q1 q2 hb3 hz hR hD hR2 hD2 hW HB2 HB3 H3 H2
  go_wp2_with fail
  have hszw : w.heap.size < (w3.setCell ⟨w2.heap.size, 0, none⟩ (.string T)).heap.size := by have h1 := HB4.out.size; have h2 := (Array.getElem?_eq_some_iff.1 HR2.out).1; exact h2
  have hszd : w2.heap.size < (w3.setCell ⟨w2.heap.size, 0, none⟩ (.string T)).heap.size := (Array.getElem?_eq_some_iff.1 HD2.out).1
  generalize w3.setCell ⟨w2.heap.size, 0, none⟩ (.string T) = W at H4 HB4 HR2 HD2 hszw hszd ⊢
  have hn9 : n ≤ 900000001 := by have := HMANY.out; have := HS.out; omega
  go_loopg [8, 9] n (fun kq v8 v9 wr => ∃ (k : Nat) (A8 : Option Addr) (n8 c8 : Nat), 1 ≤ k ∧ k ≤ n ∧ v8 = .slice A8 n8 c8 ∧ v9 = .int .i64 k ∧ n8 + 1 = k ∧ Aside0 (kq + k = n + 1) ∧ Aside0 (OwnL W wr (.slice A8 n8 c8) (((pieces s).tail.take (k - 1)).map foldB)))
  case atStart => exact ⟨1, none, 0, 0, Nat.le_refl _, hpos, rfl, rfl, rfl, ⟨by omega⟩, ⟨OwnL.nil (Below.refl _ _)⟩⟩
  case round =>
    obtain ⟨k, A8, n8, c8, hk1, hkn, rfl, rfl, hn8, hq, hown⟩ := hrel
    by_cases hlt : k < n
    · obtain ⟨ad', hed, qk⟩ := str_at (Kd.C_below H4.out hown.out.2) k hlt
      obtain rfl := Option.some.inj hed
      obtain ⟨pc, hpc⟩ : ∃ pc, pc = (pieces s).getD k ByteArray.empty := ⟨_, rfl⟩
      rw [← hpc] at qk
      have HPC := Aside0.mk (show pc.size ≤ 1000000000 by have := HS.out; have := pieces_small s pc (hpc ▸ getD_mem _ k (HN.out ▸ hlt)); omega)
      have HTK := Aside0.mk (show ((pieces s).tail.take k).map foldB = ((pieces s).tail.take (k - 1)).map foldB ++ [foldB pc] by
        obtain ⟨j, rfl⟩ : ∃ j, k = j + 1 := ⟨k - 1, by omega⟩
        have hjl : j < (pieces s).tail.length := by rw [List.length_tail]; have := HN.out; omega
        rw [Nat.add_sub_cancel, List.take_succ_eq_append_getElem hjl, List.map_append, hpc, List.getElem_tail, List.getD_eq_getElem?_getD, List.getElem?_eq_getElem (by have := HN.out; omega)]; rfl)
      clear hpc
      go_wp2_with fail
      refine (refFold_calls pc HPC.out _).mono ?_
      rintro e w5 ⟨rfl, hb5⟩
      have OW := Aside0.mk (OwnL.keep hown.out hb5)
      clear hown hb5 qk
      go_wp2_with (at_builtin; refine app_one W w5 (.tmp 36) (.tmp 38) rfl rfl A8 n8 c8 _ (foldB pc) rfl rfl OW.out (by omega) ?_; intro A6 c6 w6 ho; have HO := Aside0.mk ho; clear ho)
      go_roundg (gk - 1)
      case rel => exact ⟨k + 1, A6, n8 + 1, c6, by omega, hlt, by rw [hn8], by push_cast; rfl, by omega, ⟨by have := hq.out; omega⟩, ⟨by rw [Nat.add_sub_cancel, HTK.out]; exact HO.out⟩⟩
      case measure => have := hq.out; omega
    · obtain rfl : k = n := by omega
      have hall : (pieces s).tail.take (k - 1) = (pieces s).tail := List.take_of_length_le (by rw [List.length_tail]; have := HN.out; omega)
      rw [hall] at hown
      have hlen : ((pieces s).tail.map foldB).length ≤ 1000000000 := by rw [List.length_map, List.length_tail]; have := HN.out; omega
      go_wp2_with fail
      refine (sorted_calls (pieces s).tail.length ((pieces s).tail.map foldB) (by rw [List.length_map]; exact Nat.le_refl _) hlen A8 n8 c8 wr hown.out.c hown.out.cap).mono ?_
      rintro e w6 ⟨A9, n9, c9, rfl, g9, h9, hb6, hoff⟩
      rw [← optB_sorted] at h9
      have hbW : Below W.heap.size W w6 := hown.out.2.trans (hb6.mono hown.out.2.size)
      have hD6 := blk_below HD2.out hbW
      have hR6 := blk_below HR2.out hbW
      have hoff2 : ∀ ad, A9 = some ad → W.heap.size ≤ ad.block := fun ad h => by
        rcases hoff ad h with h1 | ⟨bd, h1, h2⟩
        · exact Nat.le_trans hown.out.2.size h1
        · subst h1; rw [h2]; exact hown.out.lies
      have d0 := blk_cell hD6 0; have d1 := blk_cell hD6 1; have df := blk_frozen hD6
      have q0 := blk_cell hR6 0; have q1 := blk_cell hR6 1; have qf := blk_frozen hR6
      have e0 : w6.cell? ⟨w2.heap.size, 0, none⟩ = some (.string T) := d0
      have e1 : w6.cell? ⟨w2.heap.size, 1, none⟩ = some (.slice none 0 0) := d1
      have H9 := Aside0.mk h9
      have HB6 := Aside0.mk (HB4.out.trans (hbW.mono HB4.out.size))
      have HD6 := Aside0.mk hD6
      have HR6 := Aside0.mk hR6
      have HOFF := Aside0.mk hoff2
      have HHW := Aside0.mk hszw
      have HHD := Aside0.mk hszd
      clear d0 d1 hD6 hR6 h9 hbW hoff hoff2 hb6 hown hszw hszd HR2 HD2
      have hne1 : ¬ w.heap.size = w2.heap.size := by have := HSZ.out; omega
      have hne2 : ¬ w2.heap.size = w.heap.size := by have := HSZ.out; omega
      go_wp2_with fail
      have hRz := blk_far HR6.out (p := ⟨w2.heap.size, 1, none⟩) hne1 (.slice A9 n9 c9)
      refine bodyPost_ret (results_ctt rfl _ _ w.heap.size 54 _ (0, 0) _ rfl (blk_set (blk_set hRz _ _) _ _) hu rfl (by kernel_rfl)) rfl ?_
      rw [HP.out]
      refine ⟨A9, n9, c9, s.size, by rw [← HTT.out]; rfl, g9, ?_, ((HB6.out.setCell (Nat.le_of_lt HSZ.out) _).setCell (Nat.le_refl _) _).setCell (Nat.le_refl _) _⟩
      have f1 : ∀ ad, A9 = some ad → ad.block ≠ w.heap.size := fun ad h e => by have := HOFF.out ad h; have := HHW.out; omega
      have f2 : ∀ ad, A9 = some ad → ad.block ≠ w2.heap.size := fun ad h e => by have := HOFF.out ad h; have := HHD.out; omega
      exact C_far (C_far (C_far H9.out _ _ f2) _ _ f1) _ _ f1
theorem refParse_calls (s : ByteArray) (hs : s.size ≤ 900000000) (w : World) : Calls Tryd.prog 39 #[.string s] w (RefParsePost w (parseF s)) := by
  cases hd : isDesc s with
  | false => exact refParse_no s hs w hd
  | true => exact refParse_yes s hs w hd
theorem optB_len (s : ByteArray) : (optB s).length ≤ s.size := by
  have h := sortedF_len ((pieces s).tail.length) ((pieces s).tail.map foldB)
  rw [← optB_sorted, List.length_map, List.length_tail] at h
  have := pieces_many s
  omega
theorem supers_len (t : ByteArray) : (supersF t).length ≤ 8 := by
  unfold supersF
  split
  · unfold chainOf; exact Nat.le_trans (chainL_len _ _) (depth_le _)
  · simp
theorem parse_opts {s : ByteArray} (h : isDesc s = true) : (parseF s).2.1 = optB s := by unfold parseF; rw [if_pos h]; rfl
theorem parse_err (s : ByteArray) : (parseF s).2.2.1 = if isDesc s = true then 0 else 40 := by unfold parseF; split <;> rfl
set_option maxHeartbeats 8000000 in
set_option maxRecDepth 100000 in
theorem refCovers_calls (d e : ByteArray) (hd : d.size ≤ 900000000) (he : e.size ≤ 900000000) (w : World) (hk : KindsAt w) : Calls Tryd.prog 26 #[.string d, .string e] w (CovPost w (coversF d e)) := by
  have HS := Aside0.mk hd
  have HE := Aside0.mk he
  have HKN := Aside0.mk hk
  clear hd he hk
  go_enter Tryd.func26, Tryd.ntmps26
  go_wp2_with fail
  refine (refParse_calls d HS.out _).mono ?_
  rintro ee w1 ⟨A1, n1, c1, p1, rfl, g1, h1, hb1⟩
  have H1 := Aside0.mk h1
  have HB1 := Aside0.mk hb1
  clear h1 hb1
  go_wp2_with fail
  refine (refParse_calls e HE.out _).mono ?_
  rintro ee w2 ⟨A2, n2, c2, p2, rfl, g2, h2, hb2⟩
  have hb := HB1.out.alloc HB1.out.size (.cells #[.string (parseF d).1, .slice A1 n1 c1] 54)
  have HB2 := Aside0.mk (hb.trans (hb2.mono hb.size))
  have H1' := Aside0.mk (Kd.C_below (Kd.C_alloc H1.out (.cells #[.string (parseF d).1, .slice A1 n1 c1] 54)) hb2)
  have H2 := Aside0.mk h2
  have HK5 := Aside0.mk (block_kept hb2)
  have HBW := Aside0.mk (HB2.out.alloc HB2.out.size (.cells #[.string (parseF e).1, .slice A2 n2 c2] 54))
  have HPD := Aside0.mk (parse_err d)
  have HPE := Aside0.mk (parse_err e)
  generalize hz1 : (parseF d).2.2.1 = e1 at HPD ⊢
  generalize hz2 : (parseF e).2.2.1 = e2 at HPE ⊢
  clear H1 HB1 h2 hb2 hb hz1 hz2
  cases h0 : isDesc d with
  | false =>
    obtain rfl : e1 = 40 := by have := HPD.out; rw [h0] at this; simpa using this
    have HC := Aside0.mk (show coversF d e = false by simp [coversF, h0])
    clear h0
    go_wp2
    go_ret
    rw [HC.out]
    exact ⟨rfl, HBW.out⟩
  | true =>
    obtain rfl : e1 = 0 := by have := HPD.out; rw [h0] at this; simpa using this
    cases h1 : isDesc e with
    | false =>
      obtain rfl : e2 = 40 := by have := HPE.out; rw [h1] at this; simpa using this
      have HC := Aside0.mk (show coversF d e = false by simp [coversF, h1])
      clear h0 h1
      go_wp2
      go_ret
      rw [HC.out]
      exact ⟨rfl, HBW.out⟩
    | true =>
      obtain rfl : e2 = 0 := by have := HPE.out; rw [h1] at this; simpa using this
      have HC := Aside0.mk (show coversF d e = (hasB (supersF (parseF e).1) (parseF d).1 && (parseF d).2.1.all (hasB (parseF e).2.1)) by simp [coversF, h0, h1])
      have HR1 := Aside0.mk (show Rising (parseF d).2.1 from parse_opts h0 ▸ optB_rising d)
      have HR2 := Aside0.mk (show Rising (parseF e).2.1 from parse_opts h1 ▸ optB_rising e)
      have HL1 := Aside0.mk (show (parseF d).2.1.length ≤ 1000000000 by rw [parse_opts h0]; have := optB_len d; have := HS.out; omega)
      have HL2 := Aside0.mk (show (parseF e).2.1.length ≤ 1000000000 by rw [parse_opts h1]; have := optB_len e; have := HE.out; omega)
      have HT := Aside0.mk (show (parseF e).1.size ≤ 1000000000 by have := parse_type_size e; have := HE.out; omega)
      clear h0 h1
      go_wp2_with fail
      refine (refSupers_calls (parseF e).1 HT.out _ (HKN.out.below HBW.out)).mono ?_
      rintro ee w3 ⟨A3, n3, c3, rfl, g3, h3, hb3⟩
      have HB3 := Aside0.mk (HBW.out.trans (hb3.mono HBW.out.size))
      have H3 := Aside0.mk h3
      have H13 := Aside0.mk (Kd.C_below (Kd.C_alloc H1'.out (.cells #[.string (parseF e).1, .slice A2 n2 c2] 54)) hb3)
      have H23 := Aside0.mk (Kd.C_below (Kd.C_alloc H2.out (.cells #[.string (parseF e).1, .slice A2 n2 c2] 54)) hb3)
      have k5 := blk_below (blk_alloc HK5.out (.cells #[.string (parseF e).1, .slice A2 n2 c2] 54)) hb3
      have k8 := block_kept hb3
      have q50 := blk_cell k5 0; have q51 := blk_cell k5 1; have q80 := blk_cell k8 0; have q81 := blk_cell k8 1
      clear k5 k8 hb3 h3
      go_wp2_with fail
      refine (in_calls (parseF d).1 A3 n3 c3 _ w3 H3.out g3 (by have := supers_len (parseF e).1; omega)).mono ?_
      rintro ee w4 ⟨rfl, hdr⟩
      obtain ⟨nq, rfl⟩ := hdr
      cases hin : hasB (supersF (parseF e).1) (parseF d).1 with
      | false =>
        have HC2 := Aside0.mk (show coversF d e = false by rw [HC.out, hin]; rfl)
        clear hin
        go_wp2
        go_ret
        rw [HC2.out]
        exact ⟨rfl, pw_below_drewN HB3.out nq⟩
      | true =>
        have HC2 := Aside0.mk (show coversF d e = (parseF d).2.1.all (hasB (parseF e).2.1) by rw [HC.out, hin]; rfl)
        clear hin
        go_wp2_with fail
        refine (within_calls A1 n1 c1 _ A2 n2 c2 _ _ (Kd.C_below H13.out (pw_below_drewN (Below.refl _ _) nq)) g1 (Kd.C_below H23.out (pw_below_drewN (Below.refl _ _) nq)) g2 HL1.out HL2.out HR1.out HR2.out).mono ?_
        rintro ee w5 ⟨rfl, hdr⟩
        obtain ⟨nq2, rfl⟩ := hdr
        rw [← HC2.out]
        go_wp2
        go_ret
        exact ⟨rfl, pw_below_drewN HB3.out (nq + nq2)⟩
end Go.Proofs.YtghjinhgloegaaaDoor

