/- attr.has and attr.Supers: what they answer. -/
import Derived.Test.YtghjinhgloegaaaDoorParse
namespace Go.Proofs.YtghjinhgloegaaaDoor
open Go.RowKit Go.Proofs.YtghjinhgloegaaaDoorW.PrintWords
set_option linter.unusedVariables false
set_option linter.unusedSimpArgs false

def hasB (l : List ByteArray) (s : ByteArray) : Bool := l.any fun x => x.toList == s.toList
theorem hasB_none {l : List ByteArray} {s : ByteArray} {k : Nat} (hk : l.length ≤ k) (h : (l.take k).any (fun x => x.toList == s.toList) = false) : hasB l s = false := by rw [List.take_of_length_le hk] at h; exact h
theorem any_step {l : List ByteArray} {s : ByteArray} {k : Nat} (hk : k < l.length) (h : (l.take k).any (fun x => x.toList == s.toList) = false) (h2 : ((l.getD k ByteArray.empty).toList == s.toList) = false) : (l.take (k + 1)).any (fun x => x.toList == s.toList) = false := by
  rw [List.take_succ_eq_append_getElem hk, List.any_append, h]
  simpa [List.getD_eq_getElem?_getD, List.getElem?_eq_getElem hk] using h2
theorem any_hit {l : List ByteArray} {s : ByteArray} {k : Nat} (hk : k < l.length) (h2 : ((l.getD k ByteArray.empty).toList == s.toList) = true) : hasB l s = true := by
  refine List.any_eq_true.2 ⟨l[k], List.getElem_mem _, ?_⟩
  simpa [List.getD_eq_getElem?_getD, List.getElem?_eq_getElem hk] using h2

theorem attr_has (l : List ByteArray) (A : Option Addr) (c : Nat) (s : ByteArray) (w : World) (hr : Kd.C Kd.string w A l.length l) :
    Calls Tryd.prog 36 #[.slice A l.length c, .string s] w fun e w' => e = .returned (.bool (hasB l s)) ∧ w' = w := by
  have hm := hr.2.1
  obtain ⟨n, hn⟩ : ∃ n, n = l.length := ⟨_, rfl⟩
  rw [← hn] at hr hm ⊢
  have HN := Aside0.mk hn
  have HR := Aside0.mk hr
  clear hr hn
  go_enter Tryd.func36, Tryd.ntmps36
  go_wp2
  go_loop [9] (fun v => ∃ k : Nat, k ≤ n ∧ v = .int .i64 k ∧ Aside0 ((l.take k).any (fun x => x.toList == s.toList) = false)) (fun v => n - (intOf v).toNat)
  case atStart => exact ⟨0, Nat.zero_le _, rfl, ⟨rfl⟩⟩
  case round =>
    obtain ⟨k, hk, rfl, hf⟩ := hrel
    by_cases hlt : k < n
    · obtain ⟨ad, rfl, hcell⟩ := Kd.at_string HR.out k (by omega) (by omega)
      obtain ⟨o, ho⟩ : ∃ o, o = l.getD k ByteArray.empty := ⟨_, rfl⟩
      have hcell2 : w.cell? (ad.add k) = some (.string o) := by rw [ho]; simpa [rdOf] using hcell
      have HO := Aside0.mk ho
      clear hcell ho
      cases he : (o.toList == s.toList) with
      | true =>
        have HT := Aside0.mk (any_hit (s := s) (HN.out ▸ hlt) (HO.out ▸ he))
        go_wp2
        go_ret
        exact ⟨by rw [HT.out]; rfl, rfl⟩
      | false =>
        have HT := Aside0.mk (any_step (s := s) (HN.out ▸ hlt) hf.out (HO.out ▸ he))
        go_wp2
        go_round
        case rel => exact ⟨k + 1, by omega, by go_num, HT⟩
        case measure => simp [intOf]; omega
    · obtain rfl : k = n := by omega
      have HT := Aside0.mk (hasB_none (s := s) (HN.out ▸ Nat.le_refl _) hf.out)
      go_wp2
      go_ret
      exact ⟨by rw [HT.out]; rfl, rfl⟩

/-- The row above a row. -/
def upOf (i : Nat) : Option Nat := nameIdx (rowAt i).sup
def chainL : Nat → Nat → List ByteArray
  | 0, _ => []
  | n + 1, i => (rowAt i).nm :: match upOf i with
    | some j => chainL n j
    | none => []
def depthOf (i : Nat) : Nat := (chainL 8 i).length
theorem chainL_len : ∀ n i, (chainL n i).length ≤ n
  | 0, _ => Nat.le_refl _
  | n + 1, i => by
    unfold chainL
    cases upOf i with
    | none => simp
    | some j => simp [chainL_len n j]
theorem depth_le (i : Nat) : depthOf i ≤ 8 := chainL_len 8 i
theorem up_ok : (List.range 62).all (fun i => match upOf i with
    | some j => decide (j < 62) && (depthOf i == depthOf j + 1)
    | none => depthOf i == 1) = true := by decide +kernel
theorem up_some {i j : Nat} (hi : i < 62) (h : upOf i = some j) : j < 62 ∧ depthOf i = depthOf j + 1 := by
  have := List.all_eq_true.1 up_ok i (List.mem_range.2 hi)
  rw [h] at this
  simpa using this
theorem up_none {i : Nat} (hi : i < 62) (h : upOf i = none) : depthOf i = 1 := by
  have := List.all_eq_true.1 up_ok i (List.mem_range.2 hi)
  rw [h] at this
  simpa using this
def chainOf (i : Nat) : List ByteArray := chainL (depthOf i) i
theorem chain_some {i j : Nat} (hi : i < 62) (h : upOf i = some j) : chainOf i = (rowAt i).nm :: chainOf j := by
  rw [chainOf, (up_some hi h).2, chainL, h]; rfl
theorem chain_none {i : Nat} (hi : i < 62) (h : upOf i = none) : chainOf i = [(rowAt i).nm] := by
  rw [chainOf, up_none hi h, chainL, h]
def supersF (t : ByteArray) : List ByteArray := match nameIdx (foldB t) with
  | some i => chainOf i
  | none => [foldB t]
def SupPost (w : World) (l : List ByteArray) (e : Ending) (w' : World) : Prop := ∃ v, e = .returned v ∧ Kd.R Kd.string 9 w' w.heap.size (fun _ => True) v l ∧ Below w.heap.size w w'

theorem own_off {w : World} {base : Nat} {e : TypeId} {size : Nat} {v : Value} {n : Nat} {xs : List Value} (h : w.ownsRow base e size v n xs) : v.ownBlock = none ∨ v.ownBlock ≠ none := by cases v.ownBlock <;> simp
theorem R_lit1 (w : World) (x : ByteArray) (base : Nat) (hb : base ≤ w.heap.size) (ok : Nat → Prop) (hok : ok w.heap.size) : Kd.string.R 9 (w.alloc (.cells #[.string x] 9)) base ok (.slice (some ⟨w.heap.size, 0, none⟩) 1 1) [x] :=
  ⟨fun k hk => by have : w.heap.size = k := by simpa [Value.ownBlock] using hk
                  exact this ▸ hok, [.string x], ⟨rfl, .inr ⟨w.heap.size, 1, #[.string x], rfl, hb, heap_alloc_new w _, by simp, by simp [maxLen], rfl, rfl⟩⟩, (Reps.none _ 1).snoc (c := [.string x]) rfl rfl⟩

theorem attr_Supers_none (t : ByteArray) (w : World) (hs : t.size ≤ 2000000000) (hi : nameIdx (foldB t) = none) : Calls Tryd.prog 37 #[.string t] w (SupPost w (supersF t)) := by
  have HC := Aside0.mk (show supersF t = [foldB t] by simp [supersF, hi])
  have HI := Aside0.mk (show nameVal (nameIdx (foldB t)) = .tuple #[.int .i64 0, .bool false] by rw [hi]; rfl)
  clear hi
  go_enter Tryd.func37, Tryd.ntmps37
  go_wp2_with fail
  refine (text_Fold _ _ (by omega)).mono ?_; rintro e w1 ⟨rfl, hb1⟩; have HB1 := Aside0.mk hb1; clear hb1
  go_wp2_with fail
  refine (attr_byName _ _).mono ?_; rintro e w2 ⟨rfl, rfl⟩; rw [HI.out]
  go_wp2_with fail
  refine (text_Fold _ _ (by omega)).mono ?_; rintro e w3 ⟨rfl, hb3⟩; have HB3 := Aside0.mk hb3; clear hb3
  go_wp2
  go_ret
  rw [HC.out]
  have hb := HB1.out.trans (HB3.out.mono HB1.out.size)
  exact ⟨_, rfl, R_lit1 _ _ _ hb.size _ trivial, hb.alloc hb.size _⟩

set_option maxHeartbeats 1000000 in
set_option maxRecDepth 100000 in
theorem attr_Supers_some (t : ByteArray) (w : World) (i0 : Nat) (hs : t.size ≤ 2000000000) (hi : nameIdx (foldB t) = some i0) : Calls Tryd.prog 37 #[.string t] w (SupPost w (supersF t)) := by
  obtain ⟨i9, hi9, hz0, hz1, hz2⟩ := info_parts (show (Tryd.prog.info? 9).map (fun i => (i.zero, i.size, i.bytes)) = some (some (.string ⟨#[]⟩), 1, 16) by kernel_rfl)
  have HC := Aside0.mk (show supersF t = chainOf i0 by simp [supersF, hi])
  have HI := Aside0.mk (show nameVal (nameIdx (foldB t)) = .tuple #[.int .i64 i0, .bool true] by rw [hi]; rfl)
  have hlt0 := nameIdx_lt hi
  clear hi
  have hf0 := field84_0
  have hf3 := field84_3
  go_enter Tryd.func37, Tryd.ntmps37
  go_wp2_with fail
  refine (text_Fold _ _ (by omega)).mono ?_; rintro e w1 ⟨rfl, hb1⟩; have HB1 := Aside0.mk hb1; clear hb1
  go_wp2_with fail
  refine (attr_byName _ _).mono ?_; rintro e w2 ⟨rfl, rfl⟩; rw [HI.out]
  go_wp2_with fail
  go_loopg [3, 4, 5] (depthOf i0) (fun kq v3 v4 v5 wr => ∃ (i : Nat) (b : Bool) (acc : List ByteArray) (A : Option Addr) (c : Nat), v3 = .int .i64 i ∧ v4 = .bool b ∧ v5 = .slice A acc.length c ∧ wr.ownsRow w.heap.size 9 1 (.slice A acc.length c) acc.length (acc.map Value.string) ∧ Below w.heap.size w wr ∧
    Aside0 (acc.length + kq = depthOf i0 ∧ (b = true → i < 62 ∧ kq = depthOf i ∧ acc ++ chainOf i = chainOf i0) ∧ (b = false → i = 0 ∧ acc = chainOf i0)))
  case atStart => exact ⟨i0, true, [], none, 0, rfl, rfl, rfl, own_nil _ _ _ _, HB1.out, ⟨by simp, fun _ => ⟨hlt0, rfl, rfl⟩, fun h => by cases h⟩⟩
  case round =>
    obtain ⟨i, b, acc, A, c, rfl, rfl, rfl, hown, hbl, hst⟩ := hrel
    cases b with
    | false =>
      have HO := Aside0.mk hown
      have HB := Aside0.mk hbl
      clear hown hbl
      obtain ⟨h1, h2, h3⟩ := hst.out
      obtain ⟨rfl, hacc⟩ := h3 rfl
      have HA := Aside0.mk hacc
      clear h1 h2 h3 hacc hst
      go_wp2
      go_ret
      rw [HC.out, ← HA.out]
      exact ⟨_, rfl, Kd.R_of_own HO.out (fun _ _ => trivial), HB.out⟩
    | true =>
      obtain ⟨h1, h2, h3⟩ := hst.out
      obtain ⟨hi, hkq, hch⟩ := h2 rfl
      have hd8 := depth_le i0
      have hal : acc.length ≤ 8 := by omega
      obtain ⟨r, hr⟩ : ∃ r, r = rowAt i := ⟨_, rfl⟩
      have HR := Aside0.mk (show ∀ w, Calls Tryd.prog 57 #[.int .i64 i] w (RowPost w r) by rw [hr]; exact attr_rows i hi)
      have HR2 := Aside0.mk hr
      have hup : nameIdx r.sup = upOf i := by rw [hr]; rfl
      have HST := Aside0.mk h1
      have HCH := Aside0.mk hch
      have HKQ := Aside0.mk hkq
      clear h1 h2 h3 hst hch hkq hr
      cases hu : upOf i with
      | some j =>
        have HU := Aside0.mk (show nameVal (nameIdx r.sup) = .tuple #[.int .i64 j, .bool true] by rw [hup, hu]; rfl)
        have HJ := Aside0.mk (up_some hi hu)
        have HCS := Aside0.mk (chain_some hi hu)
        clear hu hup
        go_wp2_with fail
        refine (HR.out _).mono ?_; rintro e wa ⟨v, rfl, hv, hba⟩; obtain ⟨Aa, ca, rfl⟩ := Kd.R_slice hv
        have hown1 := hown.kept (grown_of_below hba none) (own_off hown)
        have hbl1 := hbl.trans (hba.mono hbl.size)
        clear hba hv
        go_wp2_with (at_builtin; refine wpList_append_own _ rfl _ _ 22 rfl w.heap.size 9 i9 (.string ⟨#[]⟩) 1 16 Tryd.underlying22 hi9 hz0 hz1 hz2 rfl (by decide) _ _ _ rfl (hown1.alloc _) ⟨wa.heap.size, 0, none⟩ 1 1 [.string r.nm] rfl rfl (cell_one_new _ _ _) (by simp [Value.oneCell']) (by unfold maxLen; omega) (by omega) (by have := hbl1.size; simp; omega) ?_; intro v' wb hown' hgb hnilb; obtain ⟨A3, c3, rfl⟩ := own_slice hown')
        have hblb := (hbl1.alloc hbl1.size (.cells #[.string r.nm] 9)).grown hgb (by have := hbl1.size; simp; omega) (fun j hj => (hown1.lt j hj).1)
        have HBB := Aside0.mk hblb
        have HOB := Aside0.mk hown'
        clear hblb hgb hnilb hown1 hbl1 hown hbl hown'
        refine (HR.out _).mono ?_; rintro e wd ⟨v2, rfl, hv2, hbd⟩; obtain ⟨Ab, cb, rfl⟩ := Kd.R_slice hv2; have HBD := Aside0.mk hbd; clear hbd hv2
        go_wp2_with fail
        refine (attr_byName _ _).mono ?_; rintro e w2 ⟨rfl, rfl⟩; rw [HU.out]
        go_wp2_with fail
        go_roundg (depthOf j)
        case measure => have := HJ.out.2; have := HKQ.out; omega
        case rel =>
          refine ⟨j, true, acc ++ [r.nm], A3, c3, rfl, rfl, by simp, by simpa using HOB.out.kept (grown_of_below HBD.out none) (own_off HOB.out), HBB.out.trans (HBD.out.mono HBB.out.size), ⟨?_, fun _ => ⟨HJ.out.1, rfl, ?_⟩, fun h => by cases h⟩⟩
          · have := HJ.out.2; have := HKQ.out; have := HST.out; simp; omega
          · rw [← HCH.out, HCS.out, HR2.out]; simp
      | none =>
        have HU := Aside0.mk (show nameVal (nameIdx r.sup) = .tuple #[.int .i64 0, .bool false] by rw [hup, hu]; rfl)
        have HJ := Aside0.mk (up_none hi hu)
        have HCS := Aside0.mk (chain_none hi hu)
        clear hu hup
        go_wp2_with fail
        refine (HR.out _).mono ?_; rintro e wa ⟨v, rfl, hv, hba⟩; obtain ⟨Aa, ca, rfl⟩ := Kd.R_slice hv
        have hown1 := hown.kept (grown_of_below hba none) (own_off hown)
        have hbl1 := hbl.trans (hba.mono hbl.size)
        clear hba hv
        go_wp2_with (at_builtin; refine wpList_append_own _ rfl _ _ 22 rfl w.heap.size 9 i9 (.string ⟨#[]⟩) 1 16 Tryd.underlying22 hi9 hz0 hz1 hz2 rfl (by decide) _ _ _ rfl (hown1.alloc _) ⟨wa.heap.size, 0, none⟩ 1 1 [.string r.nm] rfl rfl (cell_one_new _ _ _) (by simp [Value.oneCell']) (by unfold maxLen; omega) (by omega) (by have := hbl1.size; simp; omega) ?_; intro v' wb hown' hgb hnilb; obtain ⟨A3, c3, rfl⟩ := own_slice hown')
        have hblb := (hbl1.alloc hbl1.size (.cells #[.string r.nm] 9)).grown hgb (by have := hbl1.size; simp; omega) (fun j hj => (hown1.lt j hj).1)
        have HBB := Aside0.mk hblb
        have HOB := Aside0.mk hown'
        clear hblb hgb hnilb hown1 hbl1 hown hbl hown'
        refine (HR.out _).mono ?_; rintro e wd ⟨v2, rfl, hv2, hbd⟩; obtain ⟨Ab, cb, rfl⟩ := Kd.R_slice hv2; have HBD := Aside0.mk hbd; clear hbd hv2
        go_wp2_with fail
        refine (attr_byName _ _).mono ?_; rintro e w2 ⟨rfl, rfl⟩; rw [HU.out]
        go_wp2_with fail
        go_roundg 0
        case measure => have := HJ.out; have := HKQ.out; omega
        case rel =>
          refine ⟨0, false, acc ++ [r.nm], A3, c3, rfl, rfl, by simp, by simpa using HOB.out.kept (grown_of_below HBD.out none) (own_off HOB.out), HBB.out.trans (HBD.out.mono HBB.out.size), ⟨?_, (fun h => by cases h), fun _ => ⟨rfl, ?_⟩⟩⟩
          · have := HJ.out; have := HKQ.out; have := HST.out; simp; omega
          · rw [← HCH.out, HCS.out, HR2.out]
theorem attr_Supers (t : ByteArray) (w : World) (hs : t.size ≤ 2000000000) : Calls Tryd.prog 37 #[.string t] w (SupPost w (supersF t)) := by
  cases hi : nameIdx (foldB t) with
  | none => exact attr_Supers_none t w hs hi
  | some i => exact attr_Supers_some t w i hs hi
end Go.Proofs.YtghjinhgloegaaaDoor
