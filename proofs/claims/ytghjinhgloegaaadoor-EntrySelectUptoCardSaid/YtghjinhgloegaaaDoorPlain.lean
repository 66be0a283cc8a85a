/- The law's own functions: what they answer, plainly. -/
import Derived.Test.YtghjinhgloegaaaDoorSel
namespace Go.Proofs.YtghjinhgloegaaaDoor
open Go.RowKit Go.Proofs.YtghjinhgloegaaaDoorW.PrintWords
set_option linter.unusedVariables false
set_option linter.unusedSimpArgs false

theorem roomy_f (l : List ByteArray) (h : l.length ≤ 1000000000) : rosterlaw08_roomy.f l = some l := by
  unfold rosterlaw08_roomy.f
  simp only [Option.bind_some, List.nil_append, List.length_nil, Nat.zero_add, Int.toNat_natCast]
  rw [if_pos (by omega), if_pos (by omega), if_pos (by omega), if_pos (by simp; omega), List.take_left]
theorem rdT (xs : List S39) (j : Nat) (hj : j < xs.length) : rd_T39 xs (j : Int) = xs[j] := by
  unfold rd_T39
  rw [Int.toNat_natCast, List.getD_eq_getElem?_getD, List.getElem?_eq_getElem hj]; rfl
theorem wrap_succ (j : Nat) (h : j ≤ 1000000000) : wrap64 ((j : Int) + 1) = ((j + 1 : Nat) : Int) := by unfold wrap64; omega
theorem copyAttrs_l0 (x0 : List S39) (hs : Small x0) : ∀ (m j k : Nat), m + j = x0.length → m < k → rosterlaw08_copyAttrs.l0 k x0 (x0.take j) (j : Int) = some x0 := by
  have hl := hs.len
  intro m
  induction m with
  | zero =>
    intro j k hj hk
    obtain ⟨k, rfl⟩ : ∃ k', k = k' + 1 := ⟨k - 1, by omega⟩
    obtain rfl : j = x0.length := by omega
    unfold rosterlaw08_copyAttrs.l0
    rw [if_neg (by omega), List.take_length, if_pos (by omega)]
    simp only [Option.bind_some, Int.toNat_natCast]
    rw [if_pos (by omega), if_pos (by simp; omega), List.take_left]
  | succ m ih =>
    intro j k hj hk
    obtain ⟨k, rfl⟩ : ∃ k', k = k' + 1 := ⟨k - 1, by omega⟩
    have hjl : j < x0.length := by omega
    unfold rosterlaw08_copyAttrs.l0
    rw [if_pos (by omega), if_pos (by omega), rdT _ _ hjl, roomy_f _ (hs.each _ (List.getElem_mem hjl)).2]
    simp only [Option.bind_some]
    rw [if_pos (by rw [List.length_take]; omega), wrap_succ _ (by omega)]
    have := ih (j + 1) k (by omega) (by omega)
    rw [List.take_succ_eq_append_getElem hjl] at this
    exact this
theorem copyAttrs_f (x0 : List S39) (hs : Small x0) (k : Nat) (hk : x0.length < k) : rosterlaw08_copyAttrs.f k x0 = some x0 := by
  unfold rosterlaw08_copyAttrs.f
  simpa using copyAttrs_l0 x0 hs x0.length 0 k rfl hk
theorem sameTexts_l0 (a b : List ByteArray) (hl : a.length ≤ 1000000000) (hab : a.length = b.length) : ∀ (m j k : Nat), m + j = a.length → m < k → ∃ r, rosterlaw08_sameTexts.l0 k a b (j : Int) = some r ∧ (a = b → r = true) := by
  intro m
  induction m with
  | zero =>
    intro j k hj hk
    obtain ⟨k, rfl⟩ : ∃ k', k = k' + 1 := ⟨k - 1, by omega⟩
    refine ⟨true, ?_, fun _ => rfl⟩
    unfold rosterlaw08_sameTexts.l0
    rw [if_neg (by omega)]
  | succ m ih =>
    intro j k hj hk
    obtain ⟨k, rfl⟩ : ∃ k', k = k' + 1 := ⟨k - 1, by omega⟩
    unfold rosterlaw08_sameTexts.l0
    rw [if_pos (by omega), if_pos (by omega), if_pos (by omega), wrap_succ _ (by omega)]
    by_cases h : (rdOf ByteArray.empty a (j : Int)).toList = (rdOf ByteArray.empty b (j : Int)).toList
    · rw [if_pos h]; exact ih (j + 1) k (by omega) (by omega)
    · rw [if_neg h]; exact ⟨false, rfl, fun e => absurd (by rw [e]) h⟩
theorem sameTexts_f (a b : List ByteArray) (hl : a.length ≤ 1000000000) (k : Nat) (hk : a.length < k) : ∃ r, rosterlaw08_sameTexts.f k a b = some r ∧ (a = b → r = true) := by
  unfold rosterlaw08_sameTexts.f
  by_cases h : (a.length : Int) = (b.length : Int)
  · rw [if_pos h]; exact sameTexts_l0 a b hl (by omega) a.length 0 k rfl hk
  · rw [if_neg h]; exact ⟨false, rfl, fun e => absurd (by rw [e]) h⟩
theorem sameAttrs_l0 (a : List S39) (hs : Small a) : ∀ (m j k : Nat), m + j = a.length → m + 1000000000 < k → rosterlaw08_sameAttrs.l0 k a a (j : Int) = some true := by
  have hl := hs.len
  intro m
  induction m with
  | zero =>
    intro j k hj hk
    obtain ⟨k, rfl⟩ : ∃ k', k = k' + 1 := ⟨k - 1, by omega⟩
    unfold rosterlaw08_sameAttrs.l0
    rw [if_neg (by omega)]
  | succ m ih =>
    intro j k hj hk
    obtain ⟨k, rfl⟩ : ∃ k', k = k' + 1 := ⟨k - 1, by omega⟩
    have hjl : j < a.length := by omega
    have hv := (hs.each _ (List.getElem_mem hjl)).2
    obtain ⟨r, h1, h2⟩ := sameTexts_f a[j].f2 a[j].f2 hv k (by omega)
    unfold rosterlaw08_sameAttrs.l0
    rw [if_pos (by omega), if_pos (by omega), if_pos (by omega), if_pos rfl, if_pos rfl, wrap_succ _ (by omega), rdT _ _ hjl, h1, h2 rfl]
    simp only [Option.bind_some, if_true]
    exact ih (j + 1) k (by omega) (by omega)
theorem sameAttrs_f (a : List S39) (hs : Small a) : rosterlaw08_sameAttrs.f 2000000000 a a = some true := by
  unfold rosterlaw08_sameAttrs.f
  rw [if_pos rfl]
  exact sameAttrs_l0 a hs a.length 0 _ rfl (by have := hs.len; omega)
theorem has_l0 (a : List S39) (hs : Small a) (x : S39) : ∀ (m j k : Nat), m + j = a.length → m + 1000000000 < k → ∃ r, rosterlaw08_has.l0 k a (j : Int) x.f0 x.f1 x.f2 = some r ∧ (x ∈ a.drop j → r = true) := by
  have hl := hs.len
  intro m
  induction m with
  | zero =>
    intro j k hj hk
    obtain ⟨k, rfl⟩ : ∃ k', k = k' + 1 := ⟨k - 1, by omega⟩
    refine ⟨false, ?_, fun h => ?_⟩
    · unfold rosterlaw08_has.l0
      rw [if_neg (by omega)]
    · rw [List.drop_eq_nil_of_le (by omega)] at h; cases h
  | succ m ih =>
    intro j k hj hk
    obtain ⟨k, rfl⟩ : ∃ k', k = k' + 1 := ⟨k - 1, by omega⟩
    have hjl : j < a.length := by omega
    have hv := (hs.each _ (List.getElem_mem hjl)).2
    obtain ⟨r, h1, h2⟩ := sameTexts_f a[j].f2 x.f2 hv k (by omega)
    obtain ⟨r3, h3, h4⟩ := ih (j + 1) k (by omega) (by omega)
    unfold rosterlaw08_has.l0
    rw [if_pos (by omega), if_pos (by omega), wrap_succ _ (by omega), rdT _ _ hjl, h1, h3]
    simp only [Option.bind_some]
    have hd : x ∈ a.drop j → x = a[j] ∨ x ∈ a.drop (j + 1) := fun h => by rw [List.drop_eq_getElem_cons hjl] at h; exact List.mem_cons.1 h
    by_cases e0 : a[j].f0.toList = x.f0.toList
    · rw [if_pos e0]
      by_cases e1 : a[j].f1.toList = x.f1.toList
      · rw [if_pos e1]
        cases r with
        | true => exact ⟨true, rfl, fun _ => rfl⟩
        | false => exact ⟨r3, rfl, fun h => (hd h).elim (fun e => by subst e; simp at h2) h4⟩
      · rw [if_neg e1]; exact ⟨r3, rfl, fun h => (hd h).elim (fun e => by subst e; exact absurd rfl e1) h4⟩
    · rw [if_neg e0]; exact ⟨r3, rfl, fun h => (hd h).elim (fun e => by subst e; exact absurd rfl e0) h4⟩
theorem has_f (a : List S39) (hs : Small a) (x : S39) : ∃ r, rosterlaw08_has.f 2000000000 a x.f0 x.f1 x.f2 = some r ∧ (x ∈ a → r = true) := by
  unfold rosterlaw08_has.f
  obtain ⟨r, h1, h2⟩ := has_l0 a hs x a.length 0 2000000000 rfl (by have := hs.len; omega)
  exact ⟨r, h1, by simpa using h2⟩
theorem stripped_l0 (ty : Bool) (x0 : List S39) (hl : x0.length ≤ 100000000) : ∀ (m j k : Nat), m + j = x0.length → m < k → rosterlaw08_stripped.l0 k ty ((x0.take j).map (sent ty) ++ x0.drop j) (j : Int) = some (x0.map (sent ty)) := by
  intro m
  induction m with
  | zero =>
    intro j k hj hk
    obtain ⟨k, rfl⟩ : ∃ k', k = k' + 1 := ⟨k - 1, by omega⟩
    obtain rfl : j = x0.length := by omega
    unfold rosterlaw08_stripped.l0
    rw [if_neg (by simp), List.take_length, List.drop_length, List.append_nil]
  | succ m ih =>
    intro j k hj hk
    obtain ⟨k, rfl⟩ : ∃ k', k = k' + 1 := ⟨k - 1, by omega⟩
    have hjl : j < x0.length := by omega
    have hlen : ((x0.take j).map (sent ty)).length = j := by rw [List.length_map, List.length_take]; omega
    have hset : ∀ (u v : S39), ((x0.take j).map (sent ty) ++ u :: x0.drop (j + 1)).set j v = (x0.take j).map (sent ty) ++ v :: x0.drop (j + 1) := fun u v => by
      rw [List.set_append_right _ _ (by omega), hlen, Nat.sub_self]; rfl
    have hget : ∀ u : S39, rd_T39 ((x0.take j).map (sent ty) ++ u :: x0.drop (j + 1)) (j : Int) = u := fun u => by
      unfold rd_T39
      rw [Int.toNat_natCast, List.getD_eq_getElem?_getD, List.getElem?_append_right (by omega), hlen, Nat.sub_self]; rfl
    have hnext := ih (j + 1) k (by omega) (by omega)
    rw [List.take_succ_eq_append_getElem hjl, List.map_append, List.append_assoc] at hnext
    unfold rosterlaw08_stripped.l0
    rw [if_pos (by rw [List.length_append, hlen, List.length_drop]; omega), if_pos (by omega), wrap_succ _ (by omega), List.drop_eq_getElem_cons hjl, Int.toNat_natCast, hset, hget]
    simp only [Option.bind_some]
    cases ty with
    | true =>
      rw [if_pos rfl, hset, hget]
      exact hnext
    | false =>
      rw [if_neg (by decide)]
      exact hnext
theorem stripped_f (x0 : List S39) (hs : Small x0) (ty : Bool) : rosterlaw08_stripped.f 2000000000 x0 ty = some (x0.map (sent ty)) := by
  have hl := hs.len
  unfold rosterlaw08_stripped.f
  rw [copyAttrs_f x0 hs _ (by omega)]
  simpa using stripped_l0 ty x0 hl x0.length 0 2000000000 rfl (by omega)
theorem copyEntry_f (line : Int) (name : ByteArray) (key : List ByteArray) (x0 : List S39) (hk : key.length ≤ 1000000000) (hs : Small x0) : rosterlaw08_copyEntry.f 2000000000 line name key x0 = some (line, name, key, x0) := by
  have hl := hs.len
  unfold rosterlaw08_copyEntry.f
  rw [roomy_f _ hk, copyAttrs_f x0 hs _ (by omega)]; rfl
theorem Small.sel {attrs : List S39} (h : Small attrs) (wanted : List ByteArray) (ty : Bool) : Small (selF attrs wanted ty) := by
  refine ⟨?_, fun a ha => ?_⟩
  · unfold selF; rw [List.length_map]; exact Nat.le_trans (List.length_filter_le _ _) h.len
  · obtain ⟨b, hb, rfl⟩ := List.mem_map.1 ha
    have := h.each b (List.mem_filter.1 hb).1
    refine ⟨show (⟨#[]⟩ : ByteArray).size ≤ _ by decide, ?_⟩
    simp only [sent]; split
    · simp
    · exact this.2
theorem Small.sent {attrs : List S39} (h : Small attrs) (ty : Bool) : Small (attrs.map (sent ty)) := by
  refine ⟨by rw [List.length_map]; exact h.len, fun a ha => ?_⟩
  obtain ⟨b, hb, rfl⟩ := List.mem_map.1 ha
  have := h.each b hb
  refine ⟨show (⟨#[]⟩ : ByteArray).size ≤ _ by decide, ?_⟩
  simp only [YtghjinhgloegaaaDoor.sent]; split
  · simp
  · exact this.2
end Go.Proofs.YtghjinhgloegaaaDoor
