/- attr.Parse: what it answers. -/
import Derived.Test.YtghjinhgloegaaaDoorScan
import Derived.Test.YtghjinhgloegaaaDoorCanon
import Derived.Test.YtghjinhgloegaaaDoorShelf
import Derived.Lib.SplitLaws
import Derived.Maps.OwnOps
import Derived.Maps.RangeWalk
import Derived.StringKeys
import Derived.Sort.KeysCollected
import Derived.Sort.OwnSorted
namespace Go.Proofs.YtghjinhgloegaaaDoor
open Go.RowKit Go.Maps Go.Sort Go.WideMaps Go.Proofs.YtghjinhgloegaaaDoorW.PrintWords
set_option linter.unusedVariables false
set_option linter.unusedSimpArgs false

def semi : ByteArray := ⟨#[59]⟩
def pieces (s : ByteArray) : List ByteArray := Lib.splitB semi 0 (Lib.countB s semi) s
def dedup : List (List UInt8) → List (List UInt8)
  | [] => []
  | x :: l => if x ∈ l then dedup l else x :: dedup l
theorem mem_dedup {x : List UInt8} {l : List (List UInt8)} : x ∈ dedup l ↔ x ∈ l := by
  induction l with
  | nil => simp [dedup]
  | cons y l ih =>
    unfold dedup
    split
    · rename_i h; rw [ih]; constructor
      · intro h2; exact List.mem_cons_of_mem _ h2
      · intro h2; rcases List.mem_cons.1 h2 with rfl | h3; exact h; exact h3
    · simp [ih]
theorem nodup_dedup (l : List (List UInt8)) : (dedup l).Nodup := by
  induction l with
  | nil => exact List.nodup_nil
  | cons y l ih =>
    unfold dedup
    split
    · exact ih
    · rename_i h; exact List.nodup_cons.2 ⟨fun h2 => h (mem_dedup.1 h2), ih⟩
def foldL (o : ByteArray) : List UInt8 := (foldB o).data.toList
/-- The options, folded, each once, rising. -/
def optL (s : ByteArray) : List (List UInt8) := (dedup ((pieces s).tail.map foldL)).mergeSort leB
def mkB (l : List UInt8) : ByteArray := ⟨l.toArray⟩
def optB (s : ByteArray) : List ByteArray := (optL s).map mkB
def headB (s : ByteArray) : ByteArray := (pieces s).getD 0 ByteArray.empty
def isDesc (s : ByteArray) : Bool := (scanF s false).1
def noDesc (n : Nat) : ByteArray × List ByteArray × Int × Int := (⟨#[]⟩, [], 40, n)
def yesDesc (t : ByteArray) (o : List ByteArray) (n : Nat) : ByteArray × List ByteArray × Int × Int := (t, o, 0, n)
/-- Type, options, error, place. -/
def parseF (s : ByteArray) : ByteArray × List ByteArray × Int × Int := if isDesc s = true then yesDesc (canonT (headB s)) (optB s) s.size else noDesc (scanF s false).2
def ParsePost (w : World) (r : ByteArray × List ByteArray × Int × Int) (e : Ending) (w' : World) : Prop :=
  ∃ v, e = .returned (.tuple #[.agg #[.string r.1, v], .int .i64 r.2.2.1, .int .i64 r.2.2.2]) ∧ Kd.R Kd.string 9 w' w.heap.size (fun _ => True) v r.2.1 ∧ Below w.heap.size w w'
/-- The library's variable holds some number. -/
def MaxAt (w : World) : Prop := ∃ m : Int, w.cell? ⟨1, 0, none⟩ = some (.int .i64 m)
theorem MaxAt.below {w w1 : World} (h : MaxAt w) (hb : Below w.heap.size w w1) : MaxAt w1 := h.elim fun m hm => ⟨m, pw_cell_below hb hm⟩
theorem MaxAt.alloc {w : World} (h : MaxAt w) (o : Obj) : MaxAt (w.alloc o) := h.below ((Below.refl _ _).alloc (Nat.le_refl _) _)

theorem pieces_length (s : ByteArray) : (pieces s).length = Lib.countB s semi + 1 := Lib.splitB_all semi (by decide) 0 _ s rfl

set_option maxHeartbeats 1000000 in
set_option maxRecDepth 100000 in
theorem parse_no (s : ByteArray) (w : World) (hs : s.size ≤ 1000000000) (hd : isDesc s = false) : Calls Tryd.prog 34 #[.string s] w (ParsePost w (parseF s)) := by
  have hu := Tryd.underlying54
  have HP := Aside0.mk (show parseF s = noDesc (scanF s false).2 by simp [parseF, hd])
  have HD := Aside0.mk (show (scanF s false).1 = false from hd)
  clear hd
  go_enter Tryd.func34, Tryd.ntmps34
  go_wp2_with (go_at_call 49; refine (attr_scan _ _ _ hs).mono ?_; rintro e w1 ⟨rfl, hb⟩; rw [HD.out]; have hblk := blk_below (blk_new _ _) hb; have q0 := blk_cell hblk 0; have q1 := blk_cell hblk 1; have f0 := blk_frozen hblk)
  refine bodyPost_ret (results_ctt rfl _ _ w.heap.size 54 _ (0, 0) _ rfl (blk_set (blk_set hblk _ _) _ _) hu rfl (by kernel_rfl)) rfl ?_
  rw [HP.out]
  exact ⟨_, rfl, Kd.R_nil _ _ _ _ _, (((((Below.refl w.heap.size w).alloc (Nat.le_refl _) _).trans (hb.mono (by simp))).setCell (Nat.le_refl _) _).setCell (Nat.le_refl _) _)⟩

theorem splitB_size (sep : ByteArray) : ∀ (k : Nat) (s : ByteArray), ∀ p ∈ Lib.splitB sep 0 k s, p.size ≤ s.size
  | 0, s => by intro p hp; simp [Lib.splitB] at hp; rw [hp]; exact Nat.le_refl _
  | k + 1, s => by
    intro p hp
    unfold Lib.splitB at hp
    split at hp
    · simp at hp; rw [hp]; exact Nat.le_refl _
    · rcases List.mem_cons.1 hp with rfl | h2
      · rw [ByteArray.size_extract]; omega
      · have := splitB_size sep k _ p h2
        rw [ByteArray.size_extract] at this
        omega
theorem pieces_size {s p : ByteArray} (h : p ∈ pieces s) : p.size ≤ s.size := splitB_size _ _ _ _ h
theorem foldB_size (s : ByteArray) : (foldB s).size = s.size := by simp [foldB, strOfNums_size, bytesOf_length]
theorem countB_le (s : ByteArray) : Lib.countB s semi ≤ s.size := Lib.countB_le semi (by decide) _ s (Nat.le_refl _)
theorem law9 : Keyed Tryd.prog 9 := string_keyed Tryd.underlying9
theorem zero3 (w : World) : (zeroValue 3).run Tryd.prog w = .ok (.int .i64 0) w := by kernel_rfl

/-- The map behind k rounds: its keys are the folded texts of the first k. -/
def KeysAre (D : DataW Unit) (l : List (List UInt8)) : Prop := Maps.IsMap D ∧ ∀ x, Maps.has D (.string x) = true ↔ x ∈ l
structure MapAt (bm : Nat) (W1 : World) (l : List ByteArray) (k : Nat) (wr : World) : Prop where
  map : ∃ D : DataW Unit, wr.ownsMap Tryd.prog 9 (plainElem Tryd.prog 3) bm k D ∧ KeysAre D ((l.take k).map foldL)
  below : Below bm W1 wr

theorem KeysAre.start : KeysAre (.map []) [] := ⟨Maps.isMap_empty, fun x => by simp [Maps.has_eq]⟩
theorem KeysAre.put {D : DataW Unit} {l : List (List UInt8)} (h : KeysAre D l) (k : List UInt8) (d : DataW Unit) : KeysAre (D.put (.string k) d) (l ++ [k]) := by
  refine ⟨?_, fun x => ?_⟩
  · obtain ⟨es, rfl⟩ := h.1; exact ⟨_, rfl⟩
  · by_cases hx : x = k
    · subst hx
      rw [Maps.has_put_same h.1 (show Go.WideAt.IsKeyLit (.string x) from trivial)]
      simp
    · rw [Maps.has_put_other (by intro e; injection e with e; exact hx e), h.2 x]
      simp [hx]
theorem MapAt.step {bm : Nat} {W1 wr w1 w2 : World} {l : List ByteArray} {k : Nat} {D : DataW Unit} {d : DataW Unit} (h : Below bm W1 wr) (hk : k < l.length) (hD : KeysAre D ((l.take k).map foldL)) (hb : Below wr.heap.size wr w1) (hm : bm < wr.heap.size)
    (hown : w2.ownsMap Tryd.prog 9 (plainElem Tryd.prog 3) bm (k + 1) (D.put (.string (foldL (l.getD k ByteArray.empty))) d)) (hg : w1.grownBy w2 (some bm)) : MapAt bm W1 l (k + 1) w2 := by
  refine ⟨⟨_, hown, ?_⟩, ?_⟩
  · rw [List.take_succ_eq_append_getElem hk, List.map_append]
    have := hD.put (foldL (l.getD k ByteArray.empty)) d
    simpa [List.getD_eq_getElem?_getD, List.getElem?_eq_getElem hk] using this
  · have h2 := h.trans (hb.mono (Nat.le_of_lt hm))
    exact h2.grown hg (by have := h2.size; have := hb.size; omega) (fun j hj => by cases hj; exact Nat.le_refl _)
def SortPost (w : World) (B : Nat) (v : Value) (n : Nat) (ts : List (List UInt8)) (e : Ending) (w' : World) : Prop :=
  e = .returned (.tuple #[]) ∧ ∃ row, w.grownBy w' row ∧ (∀ j, row = some j → B ≤ j) ∧ w'.ownsRow B 9 1 v n (ts.map encStr)
theorem sort_any (w : World) (A : Option Addr) (c B : Nat) (ss : List (List UInt8)) (h : w.ownsRow B 9 1 (.slice A ss.length c) ss.length (ss.map encStr)) (hl : ss.length ≤ 1000000000) :
    Calls Tryd.prog 53 #[.slice A ss.length c] w (SortPost w B (.slice A ss.length c) ss.length (ss.mergeSort leB)) := by
  rcases h.2 with ⟨hnil, h0⟩ | ⟨g, cap, cur, hv, hbase, hb, h1, h2, h3, h4⟩
  · obtain rfl : ss = [] := List.eq_nil_of_length_eq_zero h0
    refine (YtghjinhgloegaaaDoor.sort_Strings_none A c w).mono ?_
    rintro e w' ⟨rfl, rfl⟩
    exact ⟨rfl, none, World.grownBy.refl _ _, (fun j hj => by simp at hj), by simpa using h⟩
  · simp only [Value.slice.injEq, true_and] at hv
    obtain ⟨rfl, rfl⟩ := hv
    refine (YtghjinhgloegaaaDoor.sort_Strings g 0 c ss w (holds_of_block hb (by simpa using h4)) (blk_lt hb) (by omega)).mono ?_
    rintro e w' ⟨rfl, n, os, rfl⟩
    exact ⟨rfl, some g, grownBy_sorted _, fun j hj => by cases hj; exact hbase, ownsRow_sorted (by simp) hbase hb h1 h2 h3⟩
theorem clear_own {H : Type} {w : World} {R : Value → Option (DataW H × List MemPlace)} {b n : Nat} {D : DataW H} (h : w.ownsMap Tryd.prog 9 R b n D) :
    ∃ w', (∀ ty, (Builtin.clear_ #[67] ty #[.map (some b)]).run Tryd.prog w = .ok (.tuple #[]) w') ∧ w.grownBy w' (some b) := by
  obtain ⟨es, clock, hb, _⟩ := h
  refine ⟨{ w with heap := w.heap.setIfInBounds b (.map #[] clock) }, fun ty => ?_, ⟨rfl, rfl, rfl, by simp, fun i hi hne => ?_⟩⟩
  · simp [Builtin.clear_, run_underlying Tryd.underlying67, MapKept.run_getObj_map hb, MapKept.run_setObj_map _ hb, Result.andThen]
  · exact (MapKept.heap_set hb).2 i (fun e => hne (by rw [e]))
theorem optL_of {D : DataW Unit} {s : ByteArray} {ps : List ByteArray} (hps : ps = pieces s) {k : Nat} (hk : ps.tail.length ≤ k) (hD : KeysAre D ((ps.tail.take k).map foldL)) {ss : List (List UInt8)} (hC : Collected D (fun _ => false) ss) : ss.mergeSort leB = optL s := by
  refine mergeSort_of_perm ((List.perm_ext_iff_of_nodup hC.1 (nodup_dedup _)).2 fun x => ?_)
  rw [hC.2 x, hD.2 x, List.take_of_length_le hk, mem_dedup, ← hps]
  simp

theorem grown_set (w : World) (g j : Nat) (u : Value) : w.grownBy (w.setCell ⟨g, j, none⟩ u) (some g) :=
  ⟨rfl, rfl, rfl, by simp [World.setCell], fun k _ hne => Below.heap_setCell w ⟨g, j, none⟩ u k (fun e => hne (by rw [e]))⟩
theorem C_cells (w : World) (ps : List ByteArray) (n : Nat) (hn : ps.length = n) (hb : n ≤ 9223372036854775807) : Kd.C Kd.string (w.alloc (.cells (ps.map Value.string).toArray 9)) (some ⟨w.heap.size, 0, none⟩) n ps := by
  refine ⟨hn, hb, fun _ => ⟨_, rfl, fun j p hj => ⟨[.string p], rfl, rfl, fun i u hu => ?_⟩⟩⟩
  have hi : i = 0 := by have := (List.getElem?_eq_some_iff.1 hu).1; simp at this; exact this
  subst hi
  have hu' : Value.string p = u := by simpa using hu
  rw [add_plain, show j * Kd.string.sz + 0 = j from by show j * 1 + 0 = j; omega, blk_cell (blk_new _ _)]
  rw [← hu']
  simp [hj]
theorem tailCut (i9 : TypeInfo) (hi9 : Tryd.prog.info? 9 = some i9) (hz1 : i9.size = 1) (b N : Nat) (ps : List ByteArray) (hN : ps.length = N + 1) :
    ∃ A1 : Option Addr, (∀ W : World, (Instr.slice 22 (.slice (some ⟨b, 0, none⟩) (N + 1) (N + 1)) (some (.int .i64 1)) none none).run Tryd.prog W = .ok (.slice A1 N N) W) ∧
      ∀ W, Kd.C Kd.string W (some ⟨b, 0, none⟩) (N + 1) ps → Kd.C Kd.string W A1 N ps.tail := by
  refine ⟨_, fun W => cut_from (P := Tryd.prog) 22 9 .i64 Tryd.underlying22 hi9 1 hz1 (some ⟨b, 0, none⟩) (N + 1) (N + 1) 1 (by omega) (by omega) W, fun W h => ?_⟩
  have h1 := Kd.C_drop (k := Kd.string) (c := N + 1) (m := 1) (xs := ps) (w := W) (A := some ⟨b, 0, none⟩) (by rw [hN]; exact h) (by omega) (by omega)
  have e1 : (ps.drop 1).length = N := by simp [hN]
  rw [e1, List.drop_one] at h1
  exact h1

set_option maxHeartbeats 1000000 in
set_option maxRecDepth 100000 in
theorem parse_yes (s : ByteArray) (w : World) (hs : s.size ≤ 1000000000) (hm : MaxAt w) (hd : isDesc s = true) : Calls Tryd.prog 34 #[.string s] w (ParsePost w (parseF s)) := by
  have hu := Tryd.underlying54
  have hmm := @run_makeMap Tryd.prog
  obtain ⟨i9, hi9, hz0, hz1, hz2⟩ := info_parts (show (Tryd.prog.info? 9).map (fun i => (i.zero, i.size, i.bytes)) = some (some (.string ⟨#[]⟩), 1, 16) by kernel_rfl)
  have HP := Aside0.mk (show parseF s = yesDesc (canonT (headB s)) (optB s) s.size by simp [parseF, hd])
  have HD := Aside0.mk (show (scanF s false).1 = true from hd)
  have HM := Aside0.mk hm
  clear hd hm
  obtain ⟨ps, hps⟩ : ∃ ps, ps = pieces s := ⟨_, rfl⟩
  obtain ⟨N, hN⟩ : ∃ N, N = Lib.countB s semi := ⟨_, rfl⟩
  have hNs : N ≤ s.size := hN ▸ countB_le s
  have HL := Aside0.mk (show ps.length = N + 1 by rw [hps, hN]; exact pieces_length s)
  have HN := Aside0.mk hN
  have HPS := Aside0.mk hps
  clear hN hps
  go_enter Tryd.func34, Tryd.ntmps34
  go_wp2_with (first | (go_at_call 49; refine (attr_scan _ _ _ hs).mono ?_; rintro e w1 ⟨rfl, hb⟩; rw [HD.out]; have HB1 := Aside0.mk hb; clear hb) | (go_at_call 50; obtain ⟨m, hm⟩ := (HM.out.alloc _).below HB1.out; refine (YtghjinhgloegaaaDoor.strings_Split s semi m _ (by omega) hm (by decide)).mono ?_; clear hm; rintro e w2 ⟨rfl, rfl⟩; rw [show Lib.splitB semi 0 (Lib.countB s semi) s = ps from HPS.out.symm, ← HN.out]; obtain ⟨A1, hcut, hA1⟩ := tailCut i9 hi9 hz1 w1.heap.size N ps HL.out; have HA1 := Aside0.mk (hA1 _ (C_cells w1 ps (N + 1) HL.out (by omega))); clear hA1))
  go_loopw [28] (fun v wr => ∃ k : Nat, k ≤ N ∧ v = .int .i64 k ∧ MapAt (w1.heap.size + 1) (w1.alloc (.cells (ps.map Value.string).toArray 9)) ps.tail k wr) (fun v _ => N - (intOf v).toNat)
  case atStart =>
    refine ⟨0, Nat.zero_le _, rfl, ⟨_, ?_, KeysAre.start⟩, (Below.refl _ _).alloc (by simp) _⟩
    have := World.ownsMap_made (H := Unit) (w1.alloc (.cells (ps.map Value.string).toArray 9)) Tryd.prog 9 (plainElem Tryd.prog 3)
    simpa using this
  case round =>
    obtain ⟨k, hk, rfl, ⟨D, hown, hD⟩, hbw⟩ := hrel
    have HDK := Aside0.mk hD
    have HBW := Aside0.mk hbw
    have hml := hown.lt
    by_cases hlt : k < N
    · have hC := Kd.C_below HA1.out (w1 := wr) (by simpa using hbw)
      obtain ⟨ad, rfl, hcell⟩ := Kd.at_string hC k (by omega) (by omega)
      have htl : ps.tail.length = N := by simp [HL.out]
      obtain ⟨o, ho⟩ : ∃ o, o = ps.tail.getD k ByteArray.empty := ⟨_, rfl⟩
      have hos : o.size ≤ s.size := by
        rw [ho, List.getD_eq_getElem?_getD, List.getElem?_eq_getElem (by omega)]
        have h1 : ps.tail[k] ∈ ps.tail := List.getElem_mem _
        exact pieces_size (HPS.out ▸ List.mem_of_mem_tail h1)
      have hcell2 : wr.cell? (ad.add k) = some (.string o) := by rw [ho]; simpa [rdOf] using hcell
      have hsz : (foldB o).size ≤ maxLen := by rw [foldB_size]; unfold maxLen; omega
      have HO := Aside0.mk ho
      clear hC hcell ho hD hbw
      go_wp2_with (first | (go_at_call 51; refine (text_Fold _ _ (by omega)).mono ?_; rintro e wf ⟨rfl, hb⟩; have HBF := Aside0.mk hb; have hown2 := hown.kept (grown_of_below hb none) (by simp); clear hb) | (at_lookup; refine wpList_lookup_own_int _ rfl _ _ 67 rfl 9 3 .i64 law9 Tryd.underlying67 Tryd.underlying3 (zero3 _) (w1.heap.size + 1) k _ rfl hown2 _ _ rfl (keyOf_string_mk Tryd.underlying9 hsz) ?_; intro c hat hwc) | (at_mapUpdate; refine wpList_mapUpdate_own _ rfl _ _ _ 67 rfl 9 3 law9 Tryd.underlying67 _ (w1.heap.size + 1) k _ rfl hown2 (by unfold maxLen; omega) _ _ _ rfl rfl (keyOf_string_mk Tryd.underlying9 hsz) _ [] (plainElem_int Tryd.underlying3 (wrap64_wf _)) ?_; intro w3 hown3 hg3))
      go_roundw
      case rel => exact ⟨k + 1, by omega, by go_num, MapAt.step HBW.out (by omega) HDK.out HBF.out hml (by rw [← HO.out]; exact hown3) hg3⟩
      case measure => simp [intOf]; omega
    · obtain rfl : k = N := by omega
      have hq := blk_new (w1) (.cells (ps.map Value.string).toArray 9)
      have hq0 : wr.cell? ⟨w1.heap.size, 0, none⟩ = some (.string (headB s)) := by
        rw [blk_cell ((hbw.block w1.heap.size (by omega)).trans hq)]
        have hl := HL.out
        have h0 : ps.getD 0 ByteArray.empty = headB s := by rw [HPS.out]; rfl
        simp [← h0, List.getD_eq_getElem?_getD, List.getElem?_eq_getElem (show 0 < ps.length by omega)]
      have hhs : (headB s).size ≤ s.size := by
        have hl := HL.out
        have h0 : headB s = ps[0]'(by omega) := by rw [headB, ← HPS.out, List.getD_eq_getElem?_getD, List.getElem?_eq_getElem (by omega)]; rfl
        rw [h0]
        exact pieces_size (HPS.out ▸ List.getElem_mem _)
      have hB0 : wr.heap[w.heap.size]? = some (.cells #[.string ⟨#[]⟩, .slice none 0 0] 54) := by
        have h1 := block_kept HB1.out
        have h2 := blk_alloc h1 (.cells (ps.map Value.string).toArray 9)
        exact (hbw.block _ (by have := blk_lt h1; omega)).trans h2
      have hbw0 : Below w.heap.size w wr := by
        have h1 := (((Below.refl w.heap.size w).alloc (Nat.le_refl _) _).trans (HB1.out.mono (by simp))).alloc (by have := HB1.out.size; simp at this; omega) (.cells (ps.map Value.string).toArray 9)
        exact h1.trans (hbw.mono (by have := HB1.out.size; simp at this; omega))
      have hms := hown.size_le
      have HB0 := Aside0.mk hB0
      have HWB := Aside0.mk (show w.heap.size < w1.heap.size by have := HB1.out.size; simp at this; omega)
      have HW0 := Aside0.mk hbw0
      clear hq hB0 hbw0 hbw hD HBW HB1
      go_wp2_with (first | (go_at_call 52; refine (attr_canonical _ _ (by omega)).mono ?_; rintro e wc ⟨rfl, hb⟩; have HBC := Aside0.mk hb; have hown2 := (hown.kept (grown_of_below hb none) (by simp)).alloc (.cells #[.string (canonT (headB s)), .slice none 0 0] 54); clear hb) | (at_range; refine wpList_range_own _ rfl _ 67 rfl 9 3 law9 Tryd.underlying67 _ (w1.heap.size + 1) k _ rfl hown2 ?_; intro w0 hrg0 hg0 hs0))
      go_frame
      obtain ⟨T, hT⟩ : ∃ T, T = canonT (headB s) := ⟨_, rfl⟩
      have HT := Aside0.mk hT
      rw [← hT] at hown2 hrg0 hg0 hs0 ⊢
      clear hT
      have hsz1 : (wc.alloc (.cells #[.string T, .slice none 0 0] 54)).heap.size = wc.heap.size + 1 := by simp
      rw [hsz1] at hrg0 hs0 ⊢
      have hbm : w1.heap.size + 1 < wc.heap.size := Nat.lt_of_lt_of_le hml HBC.out.size
      have hd0 := blk_grown (blk_new wc (.cells #[.string T, .slice none 0 0] 54)) hg0 (by simp)
      have hbc0 : Below wc.heap.size wc w0 := ((Below.refl _ _).alloc (Nat.le_refl _) _).grown hg0 (by simp) (fun j hj => by cases hj)
      go_loopw [45] (fun _ wr => ∃ (left : Lit → Bool) (cnt : Nat) (ss : List (List UInt8)) (A : Option Addr) (c : Nat), wr.ranges Tryd.prog 9 (plainElem Tryd.prog 3) (w1.heap.size + 1) (wc.heap.size + 1) k D left cnt ∧ ss.length + cnt ≤ Maps.size D ∧
        wr.ownsRow (wc.heap.size + 2) 9 1 (.slice A ss.length c) ss.length (ss.map encStr) ∧ Collected D left ss ∧ wr.heap[wc.heap.size]? = some (.cells #[.string T, .slice A ss.length c] 54 (0, 0)) ∧ Below wc.heap.size wc wr)
        (fun _ wr => wr.rangeLeft (w1.heap.size + 1) (wc.heap.size + 1))
      case atStart => exact ⟨_, _, [], none, 0, hrg0, by simp, own_nil _ _ _ _, Collected.start D, hd0, hbc0⟩
      case round =>
        clear hrg0 hg0 hs0 hd0 hbc0 hq0 hcut hown2 hown
        obtain ⟨left, cnt, ss, A, c, hrg, hcs, hrow, hC, hblk, hbl⟩ := hrel
        have HBL := Aside0.mk hbl
        have hlt := blk_lt hblk
        have hq1 : wr.cell? ⟨wc.heap.size, 1, none⟩ = some (.slice A ss.length c) := blk_cell hblk 1
        have hf1 := blk_frozen hblk
        have HBK := Aside0.mk hblk
        have HC := Aside0.mk hC
        clear hbl hblk hC
        go_wp2_with (at_next; refine wpList_next_ranges _ rfl _ rfl 9 law9 (plainElem Tryd.prog 3) encStr (Value.int .i64) (fun key kl hk => by obtain ⟨x, hx, _⟩ := Maps.keyOf_str Tryd.underlying9 hk; exact ⟨x, hx⟩) (fun v y hv => by obtain ⟨c, rfl, _⟩ := plainElem_int_inv Tryd.underlying3 hv; exact ⟨c, rfl⟩) (w1.heap.size + 1) (wc.heap.size + 1) k _ _ _ rfl hrg ?_ ?_)
        · intro hc0 hl0
          obtain ⟨wk, hclr, hgk⟩ := clear_own (World.ranges.owns hrg)
          have hblkk := blk_grown HBK.out hgk (by simp; omega)
          have hk1 : wk.cell? ⟨wc.heap.size, 1, none⟩ = some (.slice A ss.length c) := blk_cell hblkk 1
          have HGK := Aside0.mk hgk
          have HBKK := Aside0.mk hblkk
          clear hgk hblkk
          have hrowk := hrow.kept HGK.out (.inr (row_ne_low hrow (by omega)).symm)
          have hsort := Aside0.mk (sort_any wk A c (wc.heap.size + 2) ss hrowk (by omega))
          have hwb : w.heap.size < w1.heap.size := HWB.out
          have hBk : wk.heap[w.heap.size]? = some (.cells #[.string ⟨#[]⟩, .slice none 0 0] 54) := by
            have e1 := blk_below HB0.out HBC.out
            have e2 := (HBL.out.block _ (by omega)).trans e1
            exact blk_grown e2 HGK.out (by simp; omega)
          have HBk := Aside0.mk hBk
          clear hBk hrowk
          go_wp2_with (go_at_call 53; refine hsort.out.mono ?_; rintro e wS ⟨rfl, row, hgS, hrS, hoS⟩; have hblkS := blk_grown HBKK.out hgS (fun e1 => by have := hrS _ e1.symm; omega); have hS0 := blk_cell hblkS 0; have hS1 := blk_cell hblkS 1; have hres := blk_grown HBk.out hgS (fun e1 => by have := hrS _ e1.symm; omega); have hr0 := blk_cell hres 0; have hr1 := blk_cell hres 1; have hrf := blk_frozen hres; have HRES := Aside0.mk hres; have HGS := Aside0.mk hgS; have HRS := Aside0.mk hrS; have HOS := Aside0.mk hoS; clear hblkS hres hgS hrS hoS)
          refine bodyPost_ret (results_ctt rfl _ _ w.heap.size 54 _ (0, 0) _ rfl (blk_set (blk_set HRES.out _ _) _ _) hu rfl (by kernel_rfl)) rfl ?_
          rw [HP.out]
          have hB1 : Below w.heap.size w wk := ((HW0.out.trans (HBC.out.mono HW0.out.size)).trans (HBL.out.mono (by omega))).grown HGK.out (by have := HBL.out.size; have := HBC.out.size; have := HW0.out.size; omega) (fun j hj => by cases hj; omega)
          have hB2 := hB1.grown HGS.out hB1.size (fun j hj => by have := HRS.out j hj; omega)
          have hopt : ss.mergeSort leB = optL s := by
            have hl0' : left = fun _ => false := funext hl0
            refine optL_of HPS.out (k := k) (by have := HL.out; simp [this]) HDK.out (hl0' ▸ HC.out)
          have hown := HOS.out
          rw [hopt] at hown
          have hlen : (optB s).length = ss.length := by rw [optB, List.length_map, ← hopt, List.length_mergeSort]
          have hR : Kd.string.R 9 wS (wc.heap.size + 2) (fun _ => True) (.slice A ss.length c) (optB s) := Kd.R_of_own (by
            rw [hlen]
            have e1 : encs Value.string (optB s) = (optL s).map encStr := by simp [encs, optB, encStr, mkB, Function.comp_def]
            rw [e1]
            exact hown) (fun _ _ => trivial)
          refine ⟨.slice A ss.length c, by rw [← HT.out]; rfl, ?_, (hB2.setCell (Nat.le_refl _) _).setCell (Nat.le_refl _) _⟩
          exact Kd.R_lower (R_setLow (R_setLow hR (by omega) _ _) (by omega) _ _) (by omega)
        · intro x cv kl yd yp w2 cnt2 hkey hlk hv hat hrg2 hlt2 hg2 hs2 hen
          obtain ⟨x', ex, rfl, _⟩ := Maps.keyOf_str Tryd.underlying9 hkey
          obtain rfl : x = x' := encStr_inj ex
          have hrow2 := hrow.kept hg2 (Or.inr (row_ne_iter hrow hrg).symm)
          have hblk2 := blk_grown HBK.out hg2 (by simp)
          have hq2 : w2.cell? ⟨wc.heap.size, 1, none⟩ = some (.slice A ss.length c) := blk_cell hblk2 1
          have hf2 := blk_frozen hblk2
          have hlt3 := blk_lt hblk2
          have HB2 := Aside0.mk (HBL.out.grown hg2 HBL.out.size (fun j hj => by cases hj; omega))
          have HK2 := Aside0.mk hblk2
          have hw2 : wc.heap.size + 2 ≤ w2.heap.size := World.ranges.lt hrg2
          clear hs2 hblk2 hq1 hf1 hrow ex
          go_wp2_with (at_builtin; refine wpList_append_own _ rfl _ _ 22 rfl (wc.heap.size + 2) 9 i9 (.string ⟨#[]⟩) 1 16 Tryd.underlying22 hi9 hz0 hz1 hz2 rfl (by decide) _ _ _ rfl (hrow2.alloc _) ⟨w2.heap.size, 0, none⟩ 1 1 [encStr x] rfl rfl (cell_one_new _ _ _) (by simp [Value.oneCell', encStr]) (by unfold maxLen at *; omega) (by omega) (by simp; omega) ?_; intro v' w3 hown' hg3 hnil3; obtain ⟨A3, c3, rfl⟩ := own_slice hown'; have hblk3 := blk_grown (blk_alloc HK2.out (.cells #[encStr x] 9)) hg3 (row_ne_low hrow2 (by omega)); have hq3 := blk_cell hblk3 1; have hf3 := blk_frozen hblk3; have HK3 := Aside0.mk hblk3; clear hblk3 hnil3)
          have hg4 := grown_set w3 wc.heap.size 1 (.slice A3 (ss.length + 1) c3)
          have hrg4 := ((hrg2.alloc _).kept hg3 (row_ne_low hrow2 (by omega)) (row_ne_iter hrow2 hrg2)).kept hg4 (by simp; omega) (by simp)
          go_roundw
          case rel => exact ⟨_, cnt2, ss ++ [x], A3, c3, hrg4, by simp; omega, by simpa using hown'.kept hg4 (.inr (row_ne_low hown' (by omega)).symm), HC.out.step hlk hat, by simpa using blk_put HK3.out 1 _ rfl, (((HB2.out.alloc HB2.out.size _).grown hg3 (by have := HB2.out.size; simp; omega) (fun j hj => by have := (hrow2.lt j hj).1; omega)).setCell (Nat.le_refl _) _)⟩
          case measure => rw [hrg4.left_eq, hrg.left_eq]; exact hlt2
theorem attr_Parse (s : ByteArray) (w : World) (hs : s.size ≤ 1000000000) (hm : MaxAt w) : Calls Tryd.prog 34 #[.string s] w (ParsePost w (parseF s)) := by
  cases hd : isDesc s with
  | true => exact parse_yes s w hs hm hd
  | false => exact parse_no s w hs hd
end Go.Proofs.YtghjinhgloegaaaDoor
