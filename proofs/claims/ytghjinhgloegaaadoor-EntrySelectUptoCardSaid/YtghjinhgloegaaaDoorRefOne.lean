/- The reference's reading of descriptions: the reader's automaton, parts, keys, numbers, types, goes, place, names, row, canon: what each answers. -/
import Derived.Test.YtghjinhgloegaaaDoorScan
import Derived.Test.YtghjinhgloegaaaDoorRef
import Derived.Test.YtghjinhgloegaaaDoorParse
import Derived.Test.YtghjinhgloegaaaDoorHas
import Derived.Test.YtghjinhgloegaaaDoorHelp
import Derived.Test.YtghjinhgloegaaaDoorFind
import Derived.Laws.Tables
namespace Go.Proofs.YtghjinhgloegaaaDoor
open Go.RowKit Go.Proofs.YtghjinhgloegaaaDoorW.PrintWords
set_option linter.unusedVariables false
set_option linter.unusedSimpArgs false

/-- A list taken apart at each c. -/
def partsL (c : Int) : List Int → List (List Int)
  | [] => [[]]
  | x :: l => if x = c then [] :: partsL c l else ((x :: (partsL c l).headD []) :: (partsL c l).tail)
theorem partsL_ne (c : Int) (l : List Int) : ∃ h t, partsL c l = h :: t := by
  cases l with
  | nil => exact ⟨[], [], rfl⟩
  | cons x l =>
    unfold partsL
    split <;> exact ⟨_, _, rfl⟩
theorem partsL_eq {c x : Int} (l : List Int) (h : x = c) : partsL c (x :: l) = [] :: partsL c l := by rw [partsL, if_pos h]
theorem partsL_cons {c x : Int} {l h : List Int} {t : List (List Int)} (hx : ¬ x = c) (hl : partsL c l = h :: t) : partsL c (x :: l) = (x :: h) :: t := by
  rw [partsL, if_neg hx, hl]; rfl
def keysL (l : List Int) : Bool := (!l.isEmpty) && l.all keyB
def numL (l : List Int) : Bool := l.all digB && (decide (l = [48]) || (!l.isEmpty && decide (l.head? ≠ some 48)))
def typeL (l : List Int) : Bool := if l.isEmpty = true then false else if letB (l.headD 0) = true then keysL l else (partsL 46 l).all numL && decide (1 < (partsL 46 l).length)
def descL (l : List Int) : Bool := typeL ((partsL 59 l).headD []) && ((partsL 59 l).tail).all keysL
def scanL : List Int → Int → Int → Bool
  | [], a, p => wholeB a p
  | c :: l, a, p => (nx a p c).1 && scanL l (nx a p c).2.1 (nx a p c).2.2

theorem key59 : keyB 59 = false := by decide
theorem key46 : keyB 46 = false := by decide
theorem dig46 : digB 46 = false := by decide
theorem dig59 : digB 59 = false := by decide
theorem let59 : letB 59 = false := by decide
theorem dig_not59 {c : Int} (h : digB c = true) : ¬ c = 59 := fun e => by subst e; exact absurd h (by decide)
theorem dig_not46 {c : Int} (h : digB c = true) : ¬ c = 46 := fun e => by subst e; exact absurd h (by decide)
theorem dig_notlet {c : Int} (h : digB c = true) : letB c = false := by
  simp [digB, letB] at h ⊢; omega
theorem let_key {c : Int} (h : letB c = true) : keyB c = true := by simp [keyB, h]
theorem dig_key {c : Int} (h : digB c = true) : keyB c = true := by simp [keyB, h]

/-- What each state accepts. -/
def acc6 (l : List Int) : Bool := ((partsL 59 l).headD []).all keyB && ((partsL 59 l).tail).all keysL
def acc5 (l : List Int) : Bool := (partsL 59 l).all keysL
def acc4 (l : List Int) : Bool := (partsL 46 ((partsL 59 l).headD [])).all numL && ((partsL 59 l).tail).all keysL
def acc3 (p : Int) (l : List Int) : Bool := ((partsL 46 ((partsL 59 l).headD [])).headD []).all digB && ((partsL 46 ((partsL 59 l).headD [])).tail).all numL && (decide (0 < p) || !((partsL 46 ((partsL 59 l).headD [])).tail).isEmpty) && ((partsL 59 l).tail).all keysL
def acc2 (p : Int) (l : List Int) : Bool := ((partsL 46 ((partsL 59 l).headD [])).headD []).isEmpty && ((partsL 46 ((partsL 59 l).headD [])).tail).all numL && (decide (0 < p) || !((partsL 46 ((partsL 59 l).headD [])).tail).isEmpty) && ((partsL 59 l).tail).all keysL
theorem acc_all (l : List Int) : (∀ p, scanL l 6 p = acc6 l) ∧ (∀ p, scanL l 1 p = acc6 l) ∧ (∀ p, scanL l 5 p = acc5 l) ∧ (∀ p : Int, 0 < p → scanL l 4 p = acc4 l) ∧ (∀ p : Int, 0 ≤ p → scanL l 3 p = acc3 p l) ∧ (∀ p : Int, 0 ≤ p → scanL l 2 p = acc2 p l) := by
  induction l with
  | nil =>
    refine ⟨fun p => by simp [scanL, acc6, partsL, wholeB], fun p => by simp [scanL, acc6, partsL, wholeB], fun p => by simp [scanL, acc5, partsL, wholeB, keysL], fun p hp => by simp [scanL, acc4, partsL, wholeB, numL], fun p hp => by simp [scanL, acc3, partsL, wholeB], fun p hp => by simp [scanL, acc2, partsL, wholeB]⟩
  | cons c l ih =>
    obtain ⟨i6, i1, i5, i4, i3, i2⟩ := ih
    obtain ⟨h, t, e⟩ := partsL_ne 59 l
    by_cases h59 : c = 59
    · subst h59
      refine ⟨fun p => ?_, fun p => ?_, fun p => ?_, fun p hp => ?_, fun p hp => ?_, fun p hp => ?_⟩
      · simp [scanL, nx, wholeB, i5, acc6, acc5, partsL_eq, e]
      · simp [scanL, nx, wholeB, i5, acc6, acc5, partsL_eq, e]
      · simp [scanL, nx, wholeB, acc5, partsL_eq, e, keysL]
      · simp [scanL, nx, wholeB, acc4, partsL_eq, e, partsL, numL]
      · by_cases h0 : 0 < p <;> simp [scanL, nx, wholeB, acc3, partsL_eq, e, partsL, i5, acc5, h0]
      · by_cases h0 : 0 < p <;> simp [scanL, nx, wholeB, acc2, partsL_eq, e, partsL, i5, acc5, h0]
    · have e2 := partsL_cons h59 e
      obtain ⟨h', t', e'⟩ := partsL_ne 46 h
      refine ⟨fun p => ?_, fun p => ?_, fun p => ?_, fun p hp => ?_, fun p hp => ?_, fun p hp => ?_⟩
      · cases hk : keyB c <;> simp [scanL, nx, h59, hk, i6, acc6, e2, e]
      · cases hk : keyB c <;> simp [scanL, nx, h59, hk, i1, acc6, e2, e]
      · cases hk : keyB c <;> simp [scanL, nx, h59, hk, i6, acc6, acc5, e2, e, keysL]
      · by_cases h46 : c = 46
        · subst h46
          simp [scanL, nx, acc4, e2, partsL_eq, dig46, numL]
        · have e3 := partsL_cons h46 e'
          cases hd : digB c
          · simp [scanL, nx, h59, hd, acc4, e2, e3, numL]
          · by_cases h48 : c = 48
            · subst h48
              have := i2 p (by omega)
              simp [scanL, nx, hd, acc4, e2, e3, numL, this, acc2, e, e', hp]
              cases h' <;> simp
            · have := i3 p (by omega)
              simp [scanL, nx, h59, hd, acc4, e2, e3, numL, this, acc3, e, e', hp, h48]
      · by_cases h46 : c = 46
        · subst h46
          have := i4 (p + 1) (by omega)
          simp [scanL, nx, acc3, e2, partsL_eq, dig46, this, acc4, e, e']
        · have e3 := partsL_cons h46 e'
          have := i3 p hp
          cases hd : digB c
          · simp [scanL, nx, h59, h46, hd, acc3, e2, e3]
          · simp [scanL, nx, h59, hd, acc3, e2, e3, this, e, e']
      · by_cases h46 : c = 46
        · subst h46
          have := i4 (p + 1) (by omega)
          simp [scanL, nx, acc2, e2, partsL_eq, this, acc4, e, e']
        · have e3 := partsL_cons h46 e'
          simp [scanL, nx, h59, h46, acc2, e2, e3]
theorem scanL_desc (l : List Int) : scanL l 0 0 = descL l := by
  cases l with
  | nil => simp [scanL, wholeB, descL, partsL, typeL]
  | cons c l =>
    obtain ⟨i6, i1, i5, i4, i3, i2⟩ := acc_all l
    obtain ⟨h, t, e⟩ := partsL_ne 59 l
    by_cases h59 : c = 59
    · subst h59
      simp [scanL, nx, wholeB, descL, partsL_eq, typeL]
    · have e2 := partsL_cons h59 e
      obtain ⟨h', t', e'⟩ := partsL_ne 46 h
      cases hl : letB c
      · cases hd : digB c
        · by_cases h46 : c = 46
          · subst h46
            simp [scanL, nx, descL, e2, typeL, hl, partsL_eq, hd, numL]
          · have e3 := partsL_cons h46 e'
            simp [scanL, nx, h59, hl, hd, descL, e2, typeL, e3, numL]
        · have h46 := dig_not46 hd
          have e3 := partsL_cons h46 e'
          by_cases h48 : c = 48
          · subst h48
            have := i2 0 (by omega)
            simp [scanL, nx, hl, hd, descL, e2, typeL, e3, numL, this, acc2, e, e']
            cases h' <;> cases t' <;> simp
          · have := i3 0 (by omega)
            simp [scanL, nx, h59, hl, hd, descL, e2, typeL, e3, numL, this, acc3, e, e', h48]
            cases t' <;> simp
      · simp [scanL, nx, h59, hl, descL, e2, typeL, i1, acc6, e, keysL, let_key hl]
end Go.Proofs.YtghjinhgloegaaaDoor

namespace Go.Proofs.YtghjinhgloegaaaDoor
open Go.RowKit Go.Proofs.YtghjinhgloegaaaDoorW.PrintWords
set_option linter.unusedVariables false
set_option linter.unusedSimpArgs false

theorem bytesOf_inj {s t : ByteArray} (h : bytesOf s = bytesOf t) : s = t := by
  obtain ⟨⟨l⟩⟩ := s
  obtain ⟨⟨m⟩⟩ := t
  have h' : l.map (fun b => ((b : UInt8).toNat : Int)) = m.map (fun b => ((b : UInt8).toNat : Int)) := h
  have : l = m := (List.map_inj_right (fun a b e => UInt8.toNat_inj.1 (by exact_mod_cast e))).1 h'
  rw [this]
theorem map_bytesOf_inj {l m : List ByteArray} (h : l.map bytesOf = m.map bytesOf) : l = m := (List.map_inj_right (fun a b e => bytesOf_inj e)).1 h
theorem bytesOf_mk (l : List UInt8) : bytesOf ⟨l.toArray⟩ = l.map fun b => (b.toNat : Int) := rfl
theorem bytesOf_extract (s : ByteArray) (a b : Nat) : bytesOf (s.extract a b) = ((bytesOf s).drop a).take (b - a) := by
  rw [Lib.extract_eq, bytesOf_mk, List.map_take, List.map_drop]; rfl
theorem bytesOf_drop (s : ByteArray) (k : Nat) (h : k < s.size) : (bytesOf s).drop k = bt s k :: (bytesOf s).drop (k + 1) := by
  have hl : k < (bytesOf s).length := by rw [bytesOf_length]; exact h
  rw [List.drop_eq_getElem_cons hl]
  congr 1
  have := rd_bytesOf s (k : Int)
  unfold rd at this
  rw [← this, Int.toNat_natCast, List.getD_eq_getElem?_getD, List.getElem?_eq_getElem hl]; rfl
theorem bytesOf_nil (s : ByteArray) : (s.toList = ([] : List UInt8)) ↔ bytesOf s = [] := by
  obtain ⟨⟨l⟩⟩ := s
  have : (⟨⟨l⟩⟩ : ByteArray).toList = l := by rw [ByteArray.toList_eq]
  rw [this, bytesOf_mk]
  simp

/-! The pieces that the program takes are the parts. -/
theorem parts_none {c : Int} : ∀ {l : List Int}, c ∉ l → partsL c l = [l]
  | [], _ => rfl
  | x :: l, h => by
    rw [partsL_cons (fun e => h (by simp [e])) (parts_none (fun e => h (by simp [e])))]
theorem parts_hit {c : Int} (b : List Int) : ∀ {a : List Int}, c ∉ a → partsL c (a ++ c :: b) = a :: partsL c b
  | [], _ => partsL_eq _ rfl
  | x :: a, h => by
    rw [List.cons_append, partsL_cons (fun e => h (by simp [e])) (parts_hit b (fun e => h (by simp [e])))]
theorem index_none {c : UInt8} : ∀ {l : List UInt8}, Lib.index l [c] = -1 → c ∉ l
  | [], _ => by simp
  | x :: l, h => by
    rw [Lib.index] at h
    by_cases hx : x = c
    · subst hx; simp [List.isPrefixOf] at h
    · have hp : ([c] : List UInt8).isPrefixOf (x :: l) = false := by simp [List.isPrefixOf, Ne.symm hx]
      rw [hp] at h
      by_cases hm : Lib.index l [c] = -1
      · have := index_none hm
        simp [this, Ne.symm hx]
      · have hge := Lib.index_ge l [c]
        simp [hm] at h
        omega
theorem index_some {c : UInt8} : ∀ {l : List UInt8} {i : Nat}, Lib.index l [c] = i → c ∉ l.take i ∧ l = l.take i ++ c :: l.drop (i + 1)
  | [], i, h => by simp [Lib.index] at h
  | x :: l, i, h => by
    rw [Lib.index] at h
    by_cases hx : x = c
    · subst hx
      simp [List.isPrefixOf] at h
      obtain rfl : i = 0 := by omega
      simp
    · have hp : ([c] : List UInt8).isPrefixOf (x :: l) = false := by simp [List.isPrefixOf, Ne.symm hx]
      rw [hp] at h
      by_cases hm : Lib.index l [c] = -1
      · simp [hm] at h
      · have hge := Lib.index_ge l [c]
        simp [hm] at h
        obtain ⟨j, rfl⟩ : ∃ j, i = j + 1 := ⟨i - 1, by omega⟩
        obtain ⟨h1, h2⟩ := index_some (c := c) (l := l) (i := j) (by omega)
        refine ⟨by simp [Ne.symm hx, h1], ?_⟩
        simp only [List.take_succ_cons, List.drop_succ_cons, List.cons_append]
        rw [← h2]
theorem not_mem_nums {c : UInt8} {l : List UInt8} (h : c ∉ l) : ((c.toNat : Nat) : Int) ∉ l.map fun b => (b.toNat : Int) := by
  intro h2
  obtain ⟨x, hx, e⟩ := List.mem_map.1 h2
  have : x = c := UInt8.toNat_inj.1 (by exact_mod_cast e)
  exact h (this ▸ hx)
theorem pieces_go : ∀ (k : Nat) (s : ByteArray), Lib.countB s semi = k → (Lib.splitB semi 0 k s).map bytesOf = partsL 59 (bytesOf s)
  | k, s, hk => by
    rcases Lib.indexB_cases s semi with hix | ⟨i, hix, hroom⟩
    · rw [Lib.splitB_miss semi 0 k s hix, parts_none (by have := not_mem_nums (index_none hix); exact this)]; rfl
    · have hc := Lib.countB_hit s semi i (by decide) hix
      obtain ⟨k, rfl⟩ : ∃ j, k = j + 1 := ⟨k - 1, by omega⟩
      rw [Lib.splitB_hit semi 0 k s i hix, List.map_cons, pieces_go k _ (by omega)]
      obtain ⟨h1, h2⟩ := index_some (c := 59) hix
      have e : bytesOf s = (s.data.toList.take i).map (fun b => (b.toNat : Int)) ++ 59 :: (s.data.toList.drop (i + 1)).map (fun b => (b.toNat : Int)) := by
        have := congrArg (List.map fun b => ((b : UInt8).toNat : Int)) h2
        rw [List.map_append, List.map_cons] at this
        exact this
      have e1 : bytesOf (s.extract 0 (i + 0)) = (s.data.toList.take i).map (fun b => (b.toNat : Int)) := by rw [bytesOf_extract, List.drop_zero, List.map_take]; rfl
      have e2 : bytesOf (s.extract (i + semi.size) s.size) = (s.data.toList.drop (i + 1)).map (fun b => (b.toNat : Int)) := by
        rw [bytesOf_extract, List.map_drop]
        exact List.take_of_length_le (by rw [List.length_drop, bytesOf_length]; exact Nat.le_refl _)
      have h3 : (59 : Int) ∉ (s.data.toList.take i).map (fun b => (b.toNat : Int)) := not_mem_nums h1
      rw [e1, e2, e, parts_hit _ h3]
theorem pieces_nums (s : ByteArray) : (pieces s).map bytesOf = partsL 59 (bytesOf s) := pieces_go _ s rfl

/-! The scanner accepts the descriptions. -/
theorem scanGo_L (s : ByteArray) : ∀ (n k : Nat) (a p : Int), n + k = s.size → (scanGo s false n k a p).1 = scanL ((bytesOf s).drop k) a p := by
  intro n
  induction n with
  | zero =>
    intro k a p h
    rw [List.drop_of_length_le (by rw [bytesOf_length]; omega)]
    rfl
  | succ n ih =>
    intro k a p h
    rw [bytesOf_drop s k (by omega), scanGo, scanL]
    cases hx : (nx a p (bt s k)).1
    · simp [hx]
    · simp only [hx, Bool.true_and]
      rw [if_neg (by simp), ih (k + 1) _ _ (by omega)]
theorem isDesc_L (s : ByteArray) : isDesc s = descL (bytesOf s) := by
  rw [← scanL_desc]
  exact scanGo_L s s.size 0 0 0 (by omega)

/-! The printed functions. -/
theorem wrap1 (j : Nat) (h : j ≤ 4000000000) : wrap64 ((j : Int) + 1) = ((j + 1 : Nat) : Int) := by unfold wrap64; omega
theorem parts_l0 (s : ByteArray) (c : Int) (hs : s.size ≤ 2000000000) : ∀ (n i lo k : Nat) (acc : List ByteArray), n + i = s.size → lo ≤ i → n < k → acc.length + n ≤ 3000000000 →
    ∃ r, rosterref04_parts.l0 k s c acc (lo : Int) (i : Int) = some (acc ++ r) ∧ r.map bytesOf = (((bytesOf s).drop lo).take (i - lo) ++ (partsL c ((bytesOf s).drop i)).headD []) :: (partsL c ((bytesOf s).drop i)).tail := by
  intro n
  induction n with
  | zero =>
    intro i lo k acc h1 h2 h3 h4
    obtain ⟨k, rfl⟩ : ∃ k', k = k' + 1 := ⟨k - 1, by omega⟩
    unfold rosterref04_parts.l0
    rw [if_neg (by omega), if_pos (by omega), if_pos (by omega), if_pos (by omega)]
    refine ⟨_, rfl, ?_⟩
    rw [List.drop_of_length_le (i := i) (by rw [bytesOf_length]; omega), List.map_cons, bytesOf_extract, Int.toNat_natCast]
    obtain rfl : i = s.size := by omega
    simp [partsL]
  | succ n ih =>
    intro i lo k acc h1 h2 h3 h4
    obtain ⟨k, rfl⟩ : ∃ k', k = k' + 1 := ⟨k - 1, by omega⟩
    unfold rosterref04_parts.l0
    rw [if_pos (by omega), if_pos (by omega)]
    rw [bytesOf_drop s i (by omega)]
    by_cases hc : bt s i = c
    · rw [if_pos hc, if_pos (by omega), if_pos (by omega), if_pos (by omega), if_pos (by omega), wrap1 i (by omega)]
      obtain ⟨r, e1, e2⟩ := ih (i + 1) (i + 1) k (acc ++ [s.extract (lo : Int).toNat (i : Int).toNat]) (by omega) (Nat.le_refl _) (by omega) (by rw [List.length_append, List.length_singleton]; omega)
      refine ⟨s.extract lo i :: r, ?_, ?_⟩
      · rw [e1, List.append_assoc]; rfl
      · obtain ⟨h, t, e⟩ := partsL_ne c ((bytesOf s).drop (i + 1))
        rw [List.map_cons, e2, bytesOf_extract, partsL_eq _ hc, e]
        simp
    · rw [if_neg hc, wrap1 i (by omega)]
      obtain ⟨r, e1, e2⟩ := ih (i + 1) lo k acc (by omega) (by omega) (by omega) (by omega)
      refine ⟨r, e1, ?_⟩
      obtain ⟨h, t, e⟩ := partsL_ne c ((bytesOf s).drop (i + 1))
      rw [e2, partsL_cons hc e, e]
      have hd : ((bytesOf s).drop lo).take (i + 1 - lo) = ((bytesOf s).drop lo).take (i - lo) ++ [bt s i] := by
        have h5 : i - lo < ((bytesOf s).drop lo).length := by rw [List.length_drop, bytesOf_length]; omega
        rw [show i + 1 - lo = (i - lo) + 1 by omega, List.take_succ_eq_append_getElem h5]
        congr 2
        have h6 := bytesOf_drop s i (by omega)
        rw [List.getElem_drop]
        have h7 : i < (bytesOf s).length := by rw [bytesOf_length]; omega
        have h8 := List.drop_eq_getElem_cons h7
        rw [h6] at h8
        have h9 := (List.cons.inj h8).1
        rw [h9]
        congr 1
        omega
      simp [hd]
theorem parts_f (s : ByteArray) (c : Int) (hs : s.size ≤ 2000000000) (k : Nat) (hk : s.size < k) : ∃ r, rosterref04_parts.f k s c = some r ∧ r.map bytesOf = partsL c (bytesOf s) := by
  obtain ⟨r, e1, e2⟩ := parts_l0 s c hs s.size 0 0 k [] (by omega) (Nat.le_refl _) hk (by simp; omega)
  refine ⟨r, by rw [List.nil_append] at e1; exact e1, ?_⟩
  obtain ⟨h, t, e⟩ := partsL_ne c (bytesOf s)
  rw [e2]
  simp [e]
theorem parts_semi (s : ByteArray) (hs : s.size ≤ 2000000000) (k : Nat) (hk : s.size < k) : rosterref04_parts.f k s 59 = some (pieces s) := by
  obtain ⟨r, e1, e2⟩ := parts_f s 59 hs k hk
  rw [e1, map_bytesOf_inj (e2.trans (pieces_nums s).symm)]
theorem key_f (c : Int) : rosterref04_key.f c = some (keyB c) := by
  unfold rosterref04_key.f keyB letB digB
  by_cases h1 : 97 ≤ c <;> by_cases h2 : c ≤ 122 <;> by_cases h3 : 65 ≤ c <;> by_cases h4 : c ≤ 90 <;> by_cases h5 : 48 ≤ c <;> by_cases h6 : c ≤ 57 <;> first | (exfalso; omega) | simp [h1, h2, h3, h4, h5, h6]
theorem keys_l0 (s : ByteArray) (hs : s.size ≤ 2000000000) : ∀ (n i k : Nat), n + i = s.size → n < k → rosterref04_keys.l0 k s (i : Int) = some (((bytesOf s).drop i).all keyB && !(bytesOf s).isEmpty) := by
  intro n
  induction n with
  | zero =>
    intro i k h1 h2
    obtain ⟨k, rfl⟩ : ∃ k', k = k' + 1 := ⟨k - 1, by omega⟩
    unfold rosterref04_keys.l0
    rw [if_neg (by omega), List.drop_of_length_le (by rw [bytesOf_length]; omega)]
    congr 1
    have := bytesOf_nil s
    by_cases h : s.toList = []
    · rw [h, this.1 h]; rfl
    · have h3 : ¬ bytesOf s = [] := fun e => h (this.2 e)
      have e1 : (s.toList != []) = true := by simpa using h
      have e2 : (bytesOf s).isEmpty = false := by simpa using h3
      rw [e1, e2]; rfl
  | succ n ih =>
    intro i k h1 h2
    obtain ⟨k, rfl⟩ : ∃ k', k = k' + 1 := ⟨k - 1, by omega⟩
    unfold rosterref04_keys.l0
    rw [if_pos (by omega), if_pos (by omega), key_f, Option.bind_some, wrap1 i (by omega), ih (i + 1) k (by omega) (by omega), bytesOf_drop s i (by omega), List.all_cons]
    cases keyB (bt s i) <;> simp
theorem keys_f (s : ByteArray) (hs : s.size ≤ 2000000000) (k : Nat) (hk : s.size < k) : rosterref04_keys.f k s = some (keysL (bytesOf s)) := by
  have := keys_l0 s hs s.size 0 k (by omega) hk
  rw [List.drop_zero] at this
  unfold rosterref04_keys.f keysL
  rw [Bool.and_comm]
  exact this
theorem bytes_48 (s : ByteArray) : (s.toList = ([48] : List UInt8)) ↔ bytesOf s = [48] := by
  obtain ⟨⟨l⟩⟩ := s
  have : (⟨⟨l⟩⟩ : ByteArray).toList = l := by rw [ByteArray.toList_eq]
  rw [this, bytesOf_mk]
  constructor
  · rintro rfl; rfl
  · intro h
    exact (List.map_inj_right (fun a b e => UInt8.toNat_inj.1 (by exact_mod_cast e))).1 (h.trans (by rfl : ([48] : List Int) = ([48] : List UInt8).map fun b => (b.toNat : Int)))
theorem number_l0 (s : ByteArray) (hs : s.size ≤ 2000000000) : ∀ (n i k : Nat), n + i = s.size → n < k → rosterref04_number.l0 k s (i : Int) = some (((bytesOf s).drop i).all digB && (decide (bytesOf s = [48]) || (!(bytesOf s).isEmpty && decide ((bytesOf s).head? ≠ some 48)))) := by
  intro n
  induction n with
  | zero =>
    intro i k h1 h2
    obtain ⟨k, rfl⟩ : ∃ k', k = k' + 1 := ⟨k - 1, by omega⟩
    unfold rosterref04_number.l0
    rw [if_neg (by omega), List.drop_of_length_le (by rw [bytesOf_length]; omega)]
    by_cases h : s.toList = [48]
    · rw [if_pos h, (bytes_48 s).1 h]; rfl
    · rw [if_neg h]
      have h3 : ¬ bytesOf s = [48] := fun e => h ((bytes_48 s).2 e)
      by_cases h4 : s.toList = []
      · rw [if_pos h4, (bytesOf_nil s).1 h4]; rfl
      · rw [if_neg h4]
        have h5 : ¬ bytesOf s = [] := fun e => h4 ((bytesOf_nil s).2 e)
        have h6 : 0 < s.size := by
          rw [← bytesOf_length]; exact List.length_pos_iff.2 h5
        rw [if_pos (by omega)]
        have h7 := bytesOf_drop s 0 h6
        rw [List.drop_zero] at h7
        rw [h7] at h3 ⊢
        simp at h3 ⊢
        by_cases h8 : bt s 0 = 48
        · simp [h8] at h3 ⊢; exact h3
        · simp [h8]
  | succ n ih =>
    intro i k h1 h2
    obtain ⟨k, rfl⟩ : ∃ k', k = k' + 1 := ⟨k - 1, by omega⟩
    unfold rosterref04_number.l0
    rw [if_pos (by omega), if_pos (by omega), bytesOf_drop s i (by omega), List.all_cons]
    by_cases h3 : bt s i < 48
    · rw [if_pos h3]
      have : digB (bt s i) = false := by simp [digB]; omega
      simp [this]
    · rw [if_neg h3]
      by_cases h4 : bt s i > 57
      · rw [if_pos h4]
        have : digB (bt s i) = false := by simp [digB]; omega
        simp [this]
      · rw [if_neg h4, wrap1 i (by omega), ih (i + 1) k (by omega) (by omega)]
        have : digB (bt s i) = true := by simp [digB]; omega
        simp [this]
theorem number_f (s : ByteArray) (hs : s.size ≤ 2000000000) (k : Nat) (hk : s.size < k) : rosterref04_number.f k s = some (numL (bytesOf s)) := by
  have := number_l0 s hs s.size 0 k (by omega) hk
  rw [List.drop_zero] at this
  exact this
end Go.Proofs.YtghjinhgloegaaaDoor

namespace Go.Proofs.YtghjinhgloegaaaDoor
open Go.RowKit Go.Sort Go.Proofs.YtghjinhgloegaaaDoorW.PrintWords
set_option linter.unusedVariables false
set_option linter.unusedSimpArgs false

theorem parts_len (c : Int) : ∀ l : List Int, (partsL c l).length ≤ l.length + 1
  | [] => by simp [partsL]
  | x :: l => by
    have ih := parts_len c l
    by_cases hx : x = c
    · rw [partsL_eq l hx, List.length_cons, List.length_cons]; omega
    · obtain ⟨h, t, e⟩ := partsL_ne c l
      rw [partsL_cons hx e, List.length_cons, List.length_cons]
      rw [e, List.length_cons] at ih; omega
theorem parts_each (c : Int) : ∀ (l : List Int), ∀ x ∈ partsL c l, x.length ≤ l.length
  | [] => fun x hx => by simp [partsL] at hx; subst hx; simp
  | y :: l => fun x hx => by
    have ih := parts_each c l
    by_cases hy : y = c
    · rw [partsL_eq l hy] at hx
      rcases List.mem_cons.1 hx with rfl | hx
      · simp
      · have := ih x hx; rw [List.length_cons]; omega
    · obtain ⟨h, t, e⟩ := partsL_ne c l
      rw [partsL_cons hy e] at hx
      rw [e] at ih
      rcases List.mem_cons.1 hx with rfl | hx
      · have := ih h (by simp); rw [List.length_cons, List.length_cons]; omega
      · have := ih x (by simp [hx]); rw [List.length_cons]; omega
theorem rdOf_nat (l : List ByteArray) (j : Nat) : rdOf ByteArray.empty l (j : Int) = l.getD j ByteArray.empty := by unfold rdOf; rw [Int.toNat_natCast]
theorem drop_getD (l : List ByteArray) (j : Nat) (h : j < l.length) : l.drop j = l.getD j ByteArray.empty :: l.drop (j + 1) := by
  rw [List.drop_eq_getElem_cons h, List.getD_eq_getElem?_getD, List.getElem?_eq_getElem h]; rfl
theorem getD_mem (l : List ByteArray) (j : Nat) (h : j < l.length) : l.getD j ByteArray.empty ∈ l := by
  rw [List.getD_eq_getElem?_getD, List.getElem?_eq_getElem h]; exact List.getElem_mem h
theorem IsType_l0 (l : List ByteArray) (hl : l.length ≤ 2000000000) (hs : ∀ x ∈ l, x.size ≤ 2000000000) : ∀ (n j k : Nat), n + j = l.length → n + 2000000001 < k → rosterref04_IsType.l0 k l (j : Int) = some ((l.drop j).all (fun x => numL (bytesOf x)) && decide (1 < l.length)) := by
  intro n
  induction n with
  | zero =>
    intro j k h1 h2
    obtain ⟨k, rfl⟩ : ∃ k', k = k' + 1 := ⟨k - 1, by omega⟩
    unfold rosterref04_IsType.l0
    rw [if_neg (by omega), List.drop_of_length_le (by omega)]
    simp
    omega
  | succ n ih =>
    intro j k h1 h2
    obtain ⟨k, rfl⟩ : ∃ k', k = k' + 1 := ⟨k - 1, by omega⟩
    unfold rosterref04_IsType.l0
    have hm := hs _ (getD_mem l j (by omega))
    rw [if_pos (by omega), if_pos (by omega), rdOf_nat, number_f _ hm k (by omega), Option.bind_some, wrap1 j (by omega), ih (j + 1) k (by omega) (by omega), drop_getD l j (by omega), List.all_cons]
    cases numL (bytesOf (l.getD j ByteArray.empty)) <;> simp
theorem let_bt (s : ByteArray) (h : bytesOf s ≠ []) : (bytesOf s).headD 0 = bt s 0 ∧ 0 < s.size := by
  have h6 : 0 < s.size := by rw [← bytesOf_length]; exact List.length_pos_iff.2 h
  have h7 := bytesOf_drop s 0 h6
  rw [List.drop_zero] at h7
  rw [h7]; exact ⟨rfl, h6⟩
theorem IsType_j0 (s : ByteArray) (hs : s.size ≤ 1000000000) (k : Nat) (hk : 3100000000 < k) (b : Bool) : rosterref04_IsType.j0 k s b = some (if b = true then keysL (bytesOf s) else (partsL 46 (bytesOf s)).all numL && decide (1 < (partsL 46 (bytesOf s)).length)) := by
  obtain ⟨k, rfl⟩ : ∃ k', k = k' + 1 := ⟨k - 1, by omega⟩
  rw [rosterref04_IsType.j0]
  cases b
  · rw [if_neg (by decide), if_neg (by decide)]
    obtain ⟨r, e1, e2⟩ := parts_f s 46 (by omega) k (by omega)
    have hl : r.length = (partsL 46 (bytesOf s)).length := by rw [← e2, List.length_map]
    have h1 := parts_len 46 (bytesOf s)
    rw [bytesOf_length] at h1
    rw [e1, Option.bind_some]
    have := IsType_l0 r (by omega) (fun x hx => by
      have h3 : bytesOf x ∈ partsL 46 (bytesOf s) := e2 ▸ List.mem_map_of_mem hx
      have h4 := parts_each 46 _ _ h3
      rw [bytesOf_length, bytesOf_length] at h4; omega) r.length 0 k (by omega) (by omega)
    rw [List.drop_zero, hl] at this
    rw [← e2, List.all_map, List.length_map, hl]
    exact this
  · rw [if_pos rfl, if_pos rfl, keys_f s (by omega) k (by omega)]; rfl
theorem IsType_f (s : ByteArray) (hs : s.size ≤ 1000000000) (k : Nat) (hk : 3100000000 < k) : rosterref04_IsType.f k s = some (typeL (bytesOf s)) := by
  unfold rosterref04_IsType.f typeL
  by_cases h : s.toList = []
  · rw [if_pos h, (bytesOf_nil s).1 h]; rfl
  · rw [if_neg h]
    have h5 : ¬ bytesOf s = [] := fun e => h ((bytesOf_nil s).2 e)
    obtain ⟨h7, h8⟩ := let_bt s h5
    have h6 : (bytesOf s).isEmpty = false := by simpa using h5
    rw [if_pos (by omega), h6, if_neg (show ¬ (false = true) by decide), h7]
    simp only [IsType_j0 s hs k hk]
    unfold letB
    by_cases h1 : 97 ≤ bt s 0 <;> by_cases h2 : bt s 0 ≤ 122 <;> by_cases h3 : 65 ≤ bt s 0 <;> by_cases h4 : bt s 0 ≤ 90 <;> first | (exfalso; omega) | simp [h1, h2, h3, h4]
theorem IsDesc_l0 (l : List ByteArray) (hl : l.length ≤ 2000000000) (h0 : 0 < l.length) (hs : ∀ x ∈ l, x.size ≤ 1000000000) : ∀ (n j k : Nat), n + j = l.length → n + 3100000001 < k → rosterref04_IsDesc.l0 k l (j : Int) = some ((l.drop j).all (fun x => keysL (bytesOf x)) && typeL (bytesOf (l.getD 0 ByteArray.empty))) := by
  intro n
  induction n with
  | zero =>
    intro j k h1 h2
    obtain ⟨k, rfl⟩ : ∃ k', k = k' + 1 := ⟨k - 1, by omega⟩
    unfold rosterref04_IsDesc.l0
    rw [if_neg (by omega), if_pos (by omega), List.drop_of_length_le (by omega)]
    have := rdOf_nat l 0
    rw [Int.natCast_zero] at this
    rw [this, IsType_f _ (hs _ (getD_mem l 0 h0)) k (by omega)]
    simp
  | succ n ih =>
    intro j k h1 h2
    obtain ⟨k, rfl⟩ : ∃ k', k = k' + 1 := ⟨k - 1, by omega⟩
    unfold rosterref04_IsDesc.l0
    have hm := hs _ (getD_mem l j (by omega))
    rw [if_pos (by omega), if_pos (by omega), rdOf_nat, keys_f _ (by omega) k (by omega), Option.bind_some, wrap1 j (by omega), ih (j + 1) k (by omega) (by omega), drop_getD l j (by omega), List.all_cons]
    cases keysL (bytesOf (l.getD j ByteArray.empty)) <;> simp
theorem pieces_small (s : ByteArray) : ∀ x ∈ pieces s, x.size ≤ s.size := fun x hx => by
  have h3 : bytesOf x ∈ partsL 59 (bytesOf s) := pieces_nums s ▸ List.mem_map_of_mem hx
  have h4 := parts_each 59 _ _ h3
  rw [bytesOf_length, bytesOf_length] at h4; exact h4
theorem pieces_many (s : ByteArray) : (pieces s).length ≤ s.size + 1 := by
  have := parts_len 59 (bytesOf s)
  rw [← pieces_nums, List.length_map, bytesOf_length] at this; exact this
theorem pieces_pos (s : ByteArray) : 0 < (pieces s).length := by rw [pieces_length]; omega
theorem IsDesc_f (s : ByteArray) (hs : s.size ≤ 1000000000) : rosterref04_IsDesc.f 5000000000 s = some (isDesc s) := by
  unfold rosterref04_IsDesc.f
  rw [parts_semi s (by omega) _ (by omega), Option.bind_some]
  have h1 := pieces_many s
  have h0 := pieces_pos s
  have := IsDesc_l0 (pieces s) (by omega) h0 (fun x hx => by have := pieces_small s x hx; omega) ((pieces s).length - 1) 1 5000000000 (by omega) (by omega)
  rw [show ((1 : Nat) : Int) = 1 from rfl] at this
  rw [this, isDesc_L]
  unfold descL
  rw [← pieces_nums]
  congr 1
  rw [Bool.and_comm]
  cases hp : pieces s with
  | nil => rw [hp] at h0; simp at h0
  | cons x t => simp [List.all_map]; rfl
theorem isDesc_calls (s : ByteArray) (hs : s.size ≤ 1000000000) (w : World) : Calls Tryd.prog 58 #[.string s] w fun e w' => e = .returned (.bool (isDesc s)) ∧ Below w.heap.size w w' :=
  rosterref04_IsDesc.calls _ s _ w (IsDesc_f s hs)
theorem parts_calls (s : ByteArray) (hs : s.size ≤ 1000000000) (w : World) : Calls Tryd.prog 60 #[.string s, .int .u8 59] w fun e w' => ∃ v, e = .returned v ∧ Kd.R Kd.string 9 w' w.heap.size (fun _ => True) v (pieces s) ∧ Below w.heap.size w w' :=
  rosterref04_parts.calls 1000000001 s 59 _ w (parts_semi s (by omega) _ (by omega))

/-! Fold. -/
theorem Fold_l0 (s : ByteArray) (hs : s.size ≤ 2000000000) : ∀ (n i k : Nat) (acc : List Int), n + i = s.size → n < k → acc.length = i → rosterref01_Fold.l0 k s acc (i : Int) = some (strOfNums (acc ++ ((bytesOf s).drop i).map lowN)) := by
  intro n
  induction n with
  | zero =>
    intro i k acc h1 h2 h3
    obtain ⟨k, rfl⟩ : ∃ k', k = k' + 1 := ⟨k - 1, by omega⟩
    unfold rosterref01_Fold.l0
    rw [if_neg (by omega), List.drop_of_length_le (by rw [bytesOf_length]; omega)]
    simp
  | succ n ih =>
    intro i k acc h1 h2 h3
    obtain ⟨k, rfl⟩ : ∃ k', k = k' + 1 := ⟨k - 1, by omega⟩
    unfold rosterref01_Fold.l0
    have hr := bt_range s (i : Int)
    rw [if_pos (by omega), if_pos (by omega), bytesOf_drop s i (by omega), List.map_cons, wrap1 i (by omega)]
    by_cases h4 : bt s i ≥ 65
    · by_cases h5 : bt s i ≤ 90
      · rw [if_pos h4, if_pos h5, if_pos (by omega), ih (i + 1) k _ (by omega) (by omega) (by simp [h3])]
        have : lowN (bt s i) = (bt s i + 32) % 256 := by unfold lowN; rw [if_pos ⟨h4, h5⟩]; omega
        rw [this, List.append_assoc]; rfl
      · rw [if_pos h4, if_neg h5, if_pos (by omega), ih (i + 1) k _ (by omega) (by omega) (by simp [h3])]
        have : lowN (bt s i) = bt s i := by unfold lowN; rw [if_neg (by omega)]
        rw [this, List.append_assoc]; rfl
    · rw [if_neg h4, if_pos (by omega), ih (i + 1) k _ (by omega) (by omega) (by simp [h3])]
      have : lowN (bt s i) = bt s i := by unfold lowN; rw [if_neg (by omega)]
      rw [this, List.append_assoc]; rfl
theorem refFold_calls (s : ByteArray) (hs : s.size ≤ 1000000000) (w : World) : Calls Tryd.prog 62 #[.string s] w fun e w' => e = .returned (.string (foldB s)) ∧ Below w.heap.size w w' := by
  refine rosterref01_Fold.calls 1000000001 s _ w ?_
  have := Fold_l0 s (by omega) s.size 0 1000000001 [] (by omega) (by omega) rfl
  unfold rosterref01_Fold.f foldB
  rw [Int.natCast_zero] at this
  rw [this]; rfl

/-! in. -/
theorem in_l0 (s : ByteArray) (l : List ByteArray) (hl : l.length ≤ 2000000000) : ∀ (n j k : Nat), n + j = l.length → n < k → rosterref04_in.l0 k s l (j : Int) = some (hasB (l.drop j) s) := by
  intro n
  induction n with
  | zero =>
    intro j k h1 h2
    obtain ⟨k, rfl⟩ : ∃ k', k = k' + 1 := ⟨k - 1, by omega⟩
    unfold rosterref04_in.l0
    rw [if_neg (by omega), List.drop_of_length_le (by omega)]; rfl
  | succ n ih =>
    intro j k h1 h2
    obtain ⟨k, rfl⟩ : ∃ k', k = k' + 1 := ⟨k - 1, by omega⟩
    unfold rosterref04_in.l0
    rw [if_pos (by omega), if_pos (by omega), rdOf_nat, wrap1 j (by omega), ih (j + 1) k (by omega) (by omega), drop_getD l j (by omega)]
    unfold hasB
    rw [List.any_cons]
    generalize l.getD j ByteArray.empty = x
    by_cases h3 : x.toList = s.toList
    · rw [if_pos h3]; simp [h3]
    · rw [if_neg h3]; simp [h3]
theorem in_calls (s : ByteArray) (A : Option Addr) (n c : Nat) (l : List ByteArray) (w : World) (h : Kd.C Kd.string w A n l) (g : n ≤ c) (hl : l.length ≤ 1000000000) : Calls Tryd.prog 41 #[.string s, .slice A n c] w fun e w' => e = .returned (.bool (hasB l s)) ∧ Drawn0 w w' := by
  obtain rfl : l.length = n := h.1
  refine rosterref04_in.calls 1000000001 s A c l _ w h g ?_
  have := in_l0 s l (by omega) l.length 0 1000000001 (by omega) (by omega)
  exact this
end Go.Proofs.YtghjinhgloegaaaDoor

namespace Go.Proofs.YtghjinhgloegaaaDoor
open Go.RowKit Go.Proofs.YtghjinhgloegaaaDoorW.PrintWords
set_option linter.unusedVariables false
set_option linter.unusedSimpArgs false

def SomeBool (w : World) (e : Ending) (w' : World) : Prop := ∃ b : Bool, e = .returned (.bool b) ∧ Below w.heap.size w w'
theorem goes_end (s x : ByteArray) (hs : s.size ≤ 900000000) (hx : x.size ≤ 2) : (s ++ x).size ≤ 1000000000 ∧ s.size + x.size ≤ 900000002 := by
  rw [ByteArray.size_append]; omega
set_option maxHeartbeats 8000000 in
set_option maxRecDepth 100000 in
theorem goes_calls (s : ByteArray) (hs : s.size ≤ 900000000) (w : World) : Calls Tryd.prog 77 #[.string s, .bool false] w (SomeBool w) := by
  have HS := Aside0.mk hs
  clear hs
  go_enter Tryd.func77, Tryd.ntmps77
  go_wp2_with fail
  go_loopg [6] 4 (fun kq v6 wr => ∃ k : Nat, k ≤ 4 ∧ v6 = .int .i64 k ∧ Aside0 (kq + k = 4) ∧ Aside0 (Below w.heap.size w wr) ∧ Aside0 (wr.heap[w.heap.size]? = some (.cells #[.string ⟨#[]⟩, .string ⟨#[97]⟩, .string ⟨#[49]⟩, .string ⟨#[46, 49]⟩] 113 (0, 0))))
  case atStart => exact ⟨0, by omega, rfl, ⟨rfl⟩, ⟨(Below.refl _ _).alloc (Nat.le_refl _) _⟩, ⟨blk_new _ _⟩⟩
  case round =>
    obtain ⟨k, hk, rfl, hq, hw, hb⟩ := hrel
    obtain ⟨q0, q1, q2, q3⟩ := cells4 hb.out
    have main : ∀ x : ByteArray, wr.cell? ⟨w.heap.size, k, none⟩ = some (.string x) → x.size ≤ 2 → k < 4 → True := fun _ _ _ _ => trivial
    by_cases hlt : k < 4
    · have hx : ∃ x : ByteArray, x.size ≤ 2 ∧ wr.cell? ⟨w.heap.size, k, none⟩ = some (.string x) := by
        rcases (by omega : k = 0 ∨ k = 1 ∨ k = 2 ∨ k = 3) with rfl | rfl | rfl | rfl
        · exact ⟨_, by decide, q0⟩
        · exact ⟨_, by decide, q1⟩
        · exact ⟨_, by decide, q2⟩
        · exact ⟨_, by decide, q3⟩
      obtain ⟨x, hx2, qx⟩ := hx
      clear q0 q1 q2 q3 main
      have hsz := goes_end s x HS.out hx2
      have hsz2 := hsz.2
      go_wp2_with fail
      refine (isDesc_calls _ hsz.1 _).mono ?_
      rintro e w2 ⟨rfl, hb2⟩
      have HB := Aside0.mk (hw.out.trans (hb2.mono hw.out.size))
      have HK := Aside0.mk (blk_below hb.out hb2)
      clear qx hb2
      cases isDesc (s ++ x)
      · go_wp2
        go_roundg (gk - 1)
        case rel => exact ⟨k + 1, hlt, by push_cast; rfl, ⟨by have := hq.out; omega⟩, ⟨HB.out⟩, ⟨HK.out⟩⟩
        case measure => have := hq.out; omega
      · go_wp2
        go_ret
        exact ⟨_, rfl, HB.out⟩
    · obtain rfl : k = 4 := by omega
      go_wp2
      go_ret
      exact ⟨_, rfl, hw.out⟩
def SomeInt (w : World) (e : Ending) (w' : World) : Prop := ∃ p : Int, e = .returned (.int .i64 p) ∧ Below w.heap.size w w'
set_option maxHeartbeats 8000000 in
set_option maxRecDepth 100000 in
theorem place_calls (s : ByteArray) (hs : s.size ≤ 900000000) (w : World) : Calls Tryd.prog 59 #[.string s, .bool false] w (SomeInt w) := by
  have HS := Aside0.mk hs
  clear hs
  go_enter Tryd.func59, Tryd.ntmps59
  go_wp2_with fail
  go_loopg [5, 6] s.size (fun kq v5 v6 wr => ∃ lo hi : Nat, lo ≤ hi ∧ v5 = .int .i64 lo ∧ v6 = .int .i64 hi ∧ Aside0 (kq + lo = hi) ∧ hi ≤ s.size ∧ Aside0 (Below w.heap.size w wr))
  case atStart => exact ⟨0, s.size, by omega, rfl, rfl, ⟨rfl⟩, Nat.le_refl _, ⟨Below.refl _ _⟩⟩
  case round =>
    obtain ⟨lo, hi, hlh, rfl, rfl, hq, hhs, hw⟩ := hrel
    have hsz := HS.out
    by_cases hlt : lo < hi
    · go_wp2_with fail
      have hm1 : lo < (lo + hi + 1) / 2 := by omega
      have hm2 : (lo + hi + 1) / 2 ≤ hi := by omega
      have hms : (s.extract 0 ((lo + hi + 1) / 2)).size ≤ 900000000 := by rw [ByteArray.size_extract]; omega
      refine (goes_calls _ hms _).mono ?_
      rintro e w2 ⟨b, rfl, hb2⟩
      have HB := Aside0.mk (hw.out.trans (hb2.mono hw.out.size))
      clear hb2 hms
      cases b
      · go_wp2
        go_roundg ((lo + hi + 1) / 2 - 1 - lo)
        case rel => exact ⟨lo, (lo + hi + 1) / 2 - 1, by omega, rfl, by congr 1; omega, ⟨by omega⟩, by omega, ⟨HB.out⟩⟩
        case measure => have := hq.out; omega
      · go_wp2
        go_roundg (hi - (lo + hi + 1) / 2)
        case rel => exact ⟨(lo + hi + 1) / 2, hi, by omega, by congr 1, rfl, ⟨by omega⟩, by omega, ⟨HB.out⟩⟩
        case measure => have := hq.out; omega
    · obtain rfl : lo = hi := by omega
      go_wp2
      go_ret
      exact ⟨_, rfl, hw.out⟩
end Go.Proofs.YtghjinhgloegaaaDoor

namespace Go.Proofs.YtghjinhgloegaaaDoor
open Go.RowKit Go.Proofs.YtghjinhgloegaaaDoorW.PrintWords
set_option linter.unusedVariables false
set_option linter.unusedSimpArgs false

def nameRow (r : RowT) : List ByteArray := [r.nm, r.al.headD ⟨#[]⟩, r.oid]
def namesC : Array Value := ((rowTab.flatMap nameRow).map Value.string).toArray
theorem results_cell {fn : Func} {a : Tmp} {t : TypeId} {tmps : Array Value} {P : Program} {w : World} {ad : Addr} {v : Value} (h : fn.results = #[.cell a t]) (ha : tmps.getD a undef = .pointer (some ad)) (hv : (loadVar t ad).run P w = .ok v w) : (results fn tmps).run P w = .ok v w := by
  have ha2 := ha
  rw [Array.getD_eq_getD_getElem?] at ha2
  simp [results, h, ha2, asAddr, hv]
theorem below_setRow {B g : Nat} {w0 w : World} (hb : Below B w0 w) (hBg : B ≤ g) (cs : Array Value) : Below B w0 (w.setRow g cs) :=
  hb.trans ⟨rfl, rfl, rfl, by simp, fun k hk => setRow_other _ _ _ _ (by omega)⟩
theorem flat3 {α β : Type} (f : α → List β) (hf : ∀ x, (f x).length = 3) : ∀ (l : List α) (k : Nat) (hk : k < l.length) (j : Nat), j < 3 → (l.flatMap f)[k * 3 + j]? = (f l[k])[j]?
  | x :: l, 0, hk, j, hj => by
    rw [List.flatMap_cons, Nat.zero_mul, Nat.zero_add, List.getElem?_append_left (by rw [hf]; exact hj)]; rfl
  | x :: l, k + 1, hk, j, hj => by
    rw [List.flatMap_cons, List.getElem?_append_right (by rw [hf]; omega), hf, show (k + 1) * 3 + j - 3 = k * 3 + j by omega, flat3 f hf l k (by simpa using hk) j hj]; rfl
set_option maxHeartbeats 8000000 in
set_option maxRecDepth 100000 in
theorem names_calls (w : World) : Calls Tryd.prog 65 #[] w fun e w' => e = .returned (.agg namesC) ∧ Below w.heap.size w w' := by
  go_enter Tryd.func65, Tryd.ntmps65
  go_wp2_with (first
    | ((with_reducible refine gate_dst (N := 63) rfl ?_); refine Kd.event_run (v := .agg namesC) (w1 := w.alloc (Obj.cells Tryd.zeroCells90 90)) rfl (by kernel_rfl) ?_)
    | ((with_reducible refine gate_store (t := 90) (p := 0) rfl ?_); refine wpList_store_row rfl 90 (.tmp 0) (.tmp 63) rfl w.heap.size namesC rfl rfl 90 Tryd.zeroCells90 (blk_new _ _) (by kernel_rfl) (by kernel_rfl) (by kernel_rfl) ?_))
  refine ⟨rfl, _, results_cell (ad := ⟨w.heap.size, 0, none⟩) rfl rfl (run_loadVar_row _ w.heap.size 90 90 namesC (0, 0) _ (setRow_heap _ _ _ _ _ _ (blk_new _ _)) Tryd.underlying90 rfl (by kernel_rfl)), rfl, below_setRow ((Below.refl _ _).alloc (Nat.le_refl _) _) (Nat.le_refl _) _⟩
theorem names_at {w : World} {g : Nat} (h : w.heap[g]? = some (.cells namesC 90 (0, 0))) (k : Nat) (hk : k < 62) : w.cell? ⟨g, k * 3, none⟩ = some (.string (rowAt k).nm) ∧ w.cell? ⟨g, k * 3 + 1, none⟩ = some (.string ((rowAt k).al.headD ⟨#[]⟩)) ∧ w.cell? ⟨g, k * 3 + 2, none⟩ = some (.string (rowAt k).oid) := by
  have hn : ∀ j : Nat, j < 3 → namesC[k * 3 + j]? = ((nameRow (rowAt k))[j]?).map Value.string := by
    intro j hj
    unfold namesC
    rw [List.getElem?_toArray, List.getElem?_map, flat3 nameRow (fun _ => rfl) rowTab k (by exact hk) j hj]
    have : rowTab[k]'hk = rowAt k := by unfold rowAt; rw [List.getD_eq_getElem?_getD, List.getElem?_eq_getElem hk]; rfl
    rw [this]
  exact ⟨by rw [blk_cell h, ← Nat.add_zero (k * 3), hn 0 (by omega)]; rfl, by rw [blk_cell h, hn 1 (by omega)]; rfl, by rw [blk_cell h, hn 2 (by omega)]; rfl⟩
end Go.Proofs.YtghjinhgloegaaaDoor

namespace Go.Proofs.YtghjinhgloegaaaDoor
open Go.RowKit Go.Proofs.YtghjinhgloegaaaDoorW.PrintWords
set_option linter.unusedVariables false
set_option linter.unusedSimpArgs false

/-- Does the row bear this name? -/
def hitR (t : List UInt8) (r : RowT) : Bool := (t == r.nm.data.toList) || ((t == (r.al.headD ⟨#[]⟩).data.toList) && !t.isEmpty) || (t == r.oid.data.toList)
def tabAll : List (List UInt8 × Nat) := nameTab1 ++ nameTab2
theorem tab_hits : tabAll.all (fun e => decide (e.2 < 62) && hitR e.1 (rowAt e.2)) = true := by decide +kernel
def nameL (t : List UInt8) : Option Nat := (tabAll.find? fun e => e.1 == t).map (·.2)
theorem row_hits : (List.range 62).all (fun i => (nameL (rowAt i).nm.data.toList == some i) && (((rowAt i).al.headD ⟨#[]⟩).data.toList.isEmpty || nameL ((rowAt i).al.headD ⟨#[]⟩).data.toList == some i) && (nameL (rowAt i).oid.data.toList == some i)) = true := by decide +kernel
theorem nameIdx_L (s : ByteArray) : nameIdx s = nameL s.data.toList := rfl
theorem hit_idx {s : ByteArray} {i : Nat} (hi : i < 62) (h : hitR s.data.toList (rowAt i) = true) : nameIdx s = some i := by
  have h2 := List.all_eq_true.1 row_hits i (List.mem_range.2 hi)
  simp only [Bool.and_eq_true, Bool.or_eq_true, beq_iff_eq] at h2
  obtain ⟨⟨a1, a2⟩, a3⟩ := h2
  unfold hitR at h
  simp only [Bool.and_eq_true, Bool.or_eq_true, beq_iff_eq, Bool.not_eq_true'] at h
  rw [nameIdx_L]
  rcases h with (h | ⟨h, hn⟩) | h
  · rw [h]; exact a1
  · rcases a2 with a2 | a2
    · rw [← h, hn] at a2; exact absurd a2 (by decide)
    · rw [h]; exact a2
  · rw [h]; exact a3
theorem idx_hit {s : ByteArray} {i : Nat} (h : nameIdx s = some i) : i < 62 ∧ hitR s.data.toList (rowAt i) = true := by
  rw [nameIdx_L] at h
  unfold nameL at h
  obtain ⟨e, he, rfl⟩ := Option.map_eq_some_iff.1 h
  have h1 := List.all_eq_true.1 tab_hits e (List.mem_of_find?_eq_some he)
  have h2 := List.find?_some he
  simp only [Bool.and_eq_true, decide_eq_true_eq, beq_iff_eq] at h1 h2
  rw [← h2]; exact h1
def idxInt (o : Option Nat) : Int := match o with
  | some i => (i : Int)
  | none => -1
def RowIs (s : ByteArray) (w : World) (e : Ending) (w' : World) : Prop := e = .returned (.int .i64 (idxInt (nameIdx (foldB s)))) ∧ Below w.heap.size w w'
set_option maxHeartbeats 16000000 in
set_option maxRecDepth 100000 in
theorem row_calls (s : ByteArray) (hs : s.size ≤ 1000000000) (w : World) : Calls Tryd.prog 64 #[.string s] w (RowIs s w) := by
  go_enter Tryd.func64, Tryd.ntmps64
  go_wp2_with fail
  refine (refFold_calls _ hs _).mono ?_
  rintro e w1 ⟨rfl, hb1⟩
  obtain ⟨t, ht⟩ : ∃ t, t = foldB s := ⟨_, rfl⟩
  rw [← ht]
  have HT := Aside0.mk ht
  have HB1 := Aside0.mk hb1
  clear ht hb1
  go_wp2_with fail
  refine (names_calls _).mono ?_
  rintro e w2 ⟨rfl, hb2⟩
  have HB2 := Aside0.mk (HB1.out.trans (hb2.mono HB1.out.size))
  clear hb2 HB1
  go_wp2_with ((with_reducible refine gate_store (t := 90) (p := 4) rfl ?_); refine wpList_store_row rfl 90 (.tmp 4) (.tmp 8) rfl w2.heap.size namesC rfl rfl 90 Tryd.zeroCells90 (blk_new _ _) (by kernel_rfl) (by kernel_rfl) (by kernel_rfl) ?_)
  have hblk := setRow_heap (w2.alloc (Obj.cells Tryd.zeroCells90 90)) w2.heap.size _ namesC _ _ (blk_new w2 (Obj.cells Tryd.zeroCells90 90))
  have hbelow : Below w.heap.size w ((w2.alloc (Obj.cells Tryd.zeroCells90 90)).setRow w2.heap.size namesC) := below_setRow (HB2.out.alloc HB2.out.size _) HB2.out.size _
  generalize (w2.alloc (Obj.cells Tryd.zeroCells90 90)).setRow w2.heap.size namesC = W at hblk hbelow ⊢
  have HK := Aside0.mk hblk
  have HB := Aside0.mk hbelow
  clear hblk hbelow HB2
  go_loopg [5] 62 (fun kq v5 wr => ∃ k : Nat, k ≤ 62 ∧ v5 = .int .i64 k ∧ Aside0 (kq + k = 62) ∧ Aside0 (∀ i, i < k → hitR t.data.toList (rowAt i) = false) ∧ wr = W)
  case atStart => exact ⟨0, by omega, rfl, ⟨rfl⟩, ⟨fun i hi => by omega⟩, rfl⟩
  case round =>
    obtain ⟨k, hk, rfl, hq, hno, rfl⟩ := hrel
    by_cases hlt : k < 62
    · obtain ⟨q0, q1, q2⟩ := names_at HK.out k hlt
      obtain ⟨r, hr⟩ : ∃ r, r = rowAt k := ⟨_, rfl⟩
      rw [← hr] at q0 q1 q2
      have HR := Aside0.mk hr
      clear hr
      generalize hnm : r.nm = nm at q0
      generalize hal : r.al.headD ⟨#[]⟩ = al at q1
      generalize hoid : r.oid = oid at q2
      have HH := Aside0.mk (show hitR t.data.toList (rowAt k) = ((t.toList == nm.toList) || ((t.toList == al.toList) && !t.toList.isEmpty) || (t.toList == oid.toList)) by
        rw [← HR.out, ← hnm, ← hal, ← hoid]; unfold hitR; simp only [ByteArray.toList_eq])
      clear hnm hal hoid HR
      have stop : (hitR t.data.toList (rowAt k) = true) → (idxInt (nameIdx (foldB s)) = (k : Int)) := fun h => by rw [← HT.out, hit_idx hlt h]; rfl
      have STOP := Aside0.mk stop
      clear stop
      have go1 : ∀ wx, wx = wr → hitR t.data.toList (rowAt k) = false → ∀ i, i < k + 1 → hitR t.data.toList (rowAt i) = false := fun _ _ h i hi => by
        by_cases e : i = k
        · rw [e]; exact h
        · exact hno.out i (by omega)
      have GO := Aside0.mk go1
      clear go1
      cases h1 : (t.toList == nm.toList) <;> cases h2 : (t.toList == al.toList) <;> cases h3 : t.toList.isEmpty <;> cases h4 : (t.toList == oid.toList) <;> (
        have HX := HH
        rw [h1, h2, h3, h4] at HX
        go_wp2
        first
          | (go_ret; exact ⟨by rw [STOP.out HX.out]; rfl, HB.out⟩)
          | (go_roundg (gk - 1)
             case rel => exact ⟨k + 1, hlt, by push_cast; rfl, ⟨by have := hq.out; omega⟩, ⟨GO.out _ rfl HX.out⟩, rfl⟩
             case measure => have := hq.out; omega))
    · obtain rfl : k = 62 := by omega
      have HN := Aside0.mk (show idxInt (nameIdx (foldB s)) = -1 by
        rw [← HT.out]
        cases hx : nameIdx t with
        | none => rfl
        | some i => obtain ⟨a1, a2⟩ := idx_hit hx; rw [hno.out i a1] at a2; exact absurd a2 (by decide))
      go_wp2
      go_ret
      exact ⟨by rw [HN.out]; rfl, HB.out⟩
set_option maxHeartbeats 8000000 in
set_option maxRecDepth 100000 in
theorem canon_calls (s : ByteArray) (hs : s.size ≤ 1000000000) (w : World) : Calls Tryd.prog 61 #[.string s] w fun e w' => e = .returned (.string (canonT s)) ∧ Below w.heap.size w w' := by
  have HS := Aside0.mk hs
  clear hs
  go_enter Tryd.func61, Tryd.ntmps61
  go_wp2_with fail
  refine (row_calls _ HS.out _).mono ?_
  rintro e w1 ⟨rfl, hb1⟩
  have HB1 := Aside0.mk hb1
  clear hb1
  cases hi : nameIdx (foldB s) with
  | none =>
    have HC := Aside0.mk (show canonT s = foldB s by simp [canonT, hi])
    simp only [idxInt]
    clear hi
    go_wp2_with fail
    refine (refFold_calls _ HS.out _).mono ?_
    rintro e w2 ⟨rfl, hb2⟩
    have HB2 := Aside0.mk (HB1.out.trans (hb2.mono HB1.out.size))
    clear hb2
    go_wp2
    go_ret
    exact ⟨by rw [HC.out]; rfl, HB2.out⟩
  | some i =>
    have HC := Aside0.mk (show canonT s = (rowAt i).nm by simp [canonT, hi])
    have hlt := nameIdx_lt hi
    simp only [idxInt]
    clear hi
    have hi0 : ¬ ((i : Int) < 0) := by omega
    go_wp2_with fail
    refine (names_calls _).mono ?_
    rintro e w2 ⟨rfl, hb2⟩
    have HB2 := Aside0.mk (HB1.out.trans (hb2.mono HB1.out.size))
    clear hb2
    have hblk := setRow_heap (w2.alloc (Obj.cells Tryd.zeroCells90 90)) w2.heap.size _ namesC _ _ (blk_new w2 (Obj.cells Tryd.zeroCells90 90))
    obtain ⟨q0, _, _⟩ := names_at hblk i hlt
    generalize (rowAt i).nm = nm at q0 HC
    go_wp2_with ((with_reducible refine gate_store (t := 90) (p := 4) rfl ?_); refine wpList_store_row rfl 90 (.tmp 4) (.tmp 11) rfl w2.heap.size namesC rfl rfl 90 Tryd.zeroCells90 (blk_new _ _) (by kernel_rfl) (by kernel_rfl) (by kernel_rfl) ?_)
    go_ret
    exact ⟨by rw [HC.out]; rfl, below_setRow (HB2.out.alloc HB2.out.size _) HB2.out.size _⟩
end Go.Proofs.YtghjinhgloegaaaDoor

