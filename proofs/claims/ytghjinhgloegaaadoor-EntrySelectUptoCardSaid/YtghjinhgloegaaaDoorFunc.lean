/- slices.ContainsFunc over a list of questions, slices.Clone: what they answer. -/
import Derived.Test.YtghjinhgloegaaaDoorAsked
namespace Go.Proofs.YtghjinhgloegaaaDoor
open Go.RowKit Go.Proofs.YtghjinhgloegaaaDoorW.PrintWords
set_option linter.unusedVariables false
set_option linter.unusedSimpArgs false

theorem ask_call (want desc canon : ByteArray) (v : Value) (A : Option Addr) (n c b : Nat) (w : World) (hv : FnOf w want v) (hs : canon.size ≤ 1000000000) (hm : MaxAt w) (hb : w.heap[b]? = some (.cells #[.string desc, .string canon, .slice A n c] 39 (0, 0))) :
    Calls Tryd.prog 31 #[v, .pointer (some ⟨b, 0, none⟩)] w (CovPost w (askedF want canon)) := by
  obtain ⟨g, lb, rfl, he, ob, hc0, hc⟩ := hv
  have HC := Aside0.mk (hc desc canon A n c w hc0 hs hm)
  have q0 : w.cell? ⟨b, 0, none⟩ = some (.string desc) := blk_cell hb 0
  have q1 : w.cell? ⟨b, 1, none⟩ = some (.string canon) := blk_cell hb 1
  have q2 : w.cell? ⟨b, 2, none⟩ = some (.slice A n c) := blk_cell hb 2
  have hu := Tryd.underlying39
  have e := he
  unfold Enters at e
  clear hb hm hc hc0 he
  go_enter Tryd.func31, Tryd.ntmps31
  go_wp2_with fail
  refine HC.out.mono ?_; rintro ee w2 ⟨rfl, hb2⟩
  have HB := Aside0.mk hb2
  clear hb2
  go_wp2_with fail
  go_ret
  exact ⟨rfl, HB.out⟩

/-- The list of questions. -/
structure AsksAt (w : World) (base : Nat) (wants : List ByteArray) (v : Value) (vs : List Value) : Prop where
  own : w.ownsRow base 48 1 v vs.length vs
  len : vs.length = wants.length
  fn : ∀ (j : Nat) (want : ByteArray) (u : Value), wants[j]? = some want → vs[j]? = some u → FnOf w want u
theorem AsksAt.below {w w1 : World} {base : Nat} {wants : List ByteArray} {v : Value} {vs : List Value} (h : AsksAt w base wants v vs) (hb : Below w.heap.size w w1) : AsksAt w1 base wants v vs :=
  ⟨pw_own_below h.own hb, h.len, fun j want v h1 h2 => (h.fn j want v h1 h2).below hb⟩
theorem AsksAt.at_ {w : World} {base : Nat} {wants : List ByteArray} {A : Option Addr} {c n : Nat} {vs : List Value} (h : AsksAt w base wants (.slice A n c) vs) (j : Nat) (hj : j < vs.length) :
    ∃ ad v, A = some ad ∧ w.cell? (ad.add j) = some v ∧ FnOf w (wants.getD j ByteArray.empty) v := by
  have hl := h.len
  rcases h.own.2 with ⟨h1, h2⟩ | ⟨g, cap, cur, hv, _⟩
  · omega
  · simp only [Value.slice.injEq] at hv
    obtain ⟨rfl, rfl, rfl⟩ := hv
    refine ⟨_, vs[j], rfl, h.own.cells (g := g) rfl j _ (by simp [hj]), ?_⟩
    exact h.fn j _ _ (by simp [List.getD_eq_getElem?_getD, List.getElem?_eq_getElem (show j < wants.length by omega)]) (by simp [hj])
def IdxPost (w : World) (b : Bool) (e : Ending) (w' : World) : Prop := ∃ i : Int, e = .returned (.int .i64 i) ∧ decide (0 ≤ i) = b ∧ Below w.heap.size w w'
theorem any_one {wants : List ByteArray} {canon : ByteArray} {k : Nat} (hk : k < wants.length) (h : askedF (wants.getD k ByteArray.empty) canon = true) : wants.any (askedF · canon) = true := by
  refine List.any_eq_true.2 ⟨wants[k], List.getElem_mem _, ?_⟩
  simpa [List.getD_eq_getElem?_getD, List.getElem?_eq_getElem hk] using h
theorem any_more {wants : List ByteArray} {canon : ByteArray} {k : Nat} (hk : k < wants.length) (h : (wants.take k).any (askedF · canon) = false) (h2 : askedF (wants.getD k ByteArray.empty) canon = false) : (wants.take (k + 1)).any (askedF · canon) = false := by
  rw [List.take_succ_eq_append_getElem hk, List.any_append, h]
  simpa [List.getD_eq_getElem?_getD, List.getElem?_eq_getElem hk] using h2

set_option maxHeartbeats 1000000 in
set_option maxRecDepth 100000 in
theorem fn_Index (wants : List ByteArray) (vs : List Value) (base : Nat) (A : Option Addr) (c : Nat) (desc canon : ByteArray) (A1 : Option Addr) (n1 c1 b : Nat) (w : World) (ha : AsksAt w base wants (.slice A vs.length c) vs) (hmx : vs.length ≤ 1000000000) (hs : canon.size ≤ 1000000000) (hm : MaxAt w)
    (hb : w.heap[b]? = some (.cells #[.string desc, .string canon, .slice A1 n1 c1] 39 (0, 0))) :
    Calls Tryd.prog 47 #[.slice A vs.length c, .func (.func 31) #[] #[.pointer (some ⟨b, 0, none⟩)]] w (IdxPost w (wants.any (askedF · canon))) := by
  obtain ⟨n, hn⟩ : ∃ n, n = vs.length := ⟨_, rfl⟩
  rw [← hn] at hmx ⊢
  have HN := Aside0.mk hn
  have HA := Aside0.mk (hn ▸ ha)
  have HM := Aside0.mk hm
  have HB := Aside0.mk hb
  have hl := blk_lt hb
  clear ha hm hb hn
  have e31 : Enters Tryd.prog 31 := enters_of Tryd.func31 (by kernel_rfl) rfl
  unfold Enters at e31
  go_enter Tryd.func47, Tryd.ntmps47
  go_wp2_with fail
  go_loopg [8] n (fun kq v wr => ∃ k : Nat, k ≤ n ∧ v = .int .i64 k ∧ Aside0 (kq + k = n) ∧ Aside0 ((wants.take k).any (askedF · canon) = false) ∧ Aside0 (Below w.heap.size w wr))
  case atStart => exact ⟨0, Nat.zero_le _, rfl, ⟨rfl⟩, ⟨rfl⟩, ⟨Below.refl _ _⟩⟩
  case round =>
    obtain ⟨k, hk, rfl, hq, hf, hw⟩ := hrel
    by_cases hlt : k < n
    · obtain ⟨ad, v, rfl, hcell, hfn⟩ := (HA.out.below hw.out).at_ k (HN.out ▸ hlt)
      have HF := Aside0.mk hfn
      clear hfn
      go_wp2_with fail
      have hkw : k < wants.length := by have := HN.out; have := HA.out.len; omega
      have hbl := Aside0.mk hkw
      refine (ask_call _ desc canon v A1 n1 c1 b wr HF.out hs (HM.out.below hw.out) (blk_below HB.out hw.out)).mono ?_
      rintro ee w2 ⟨rfl, hb2⟩
      have HB2 := Aside0.mk (hw.out.trans (hb2.mono hw.out.size))
      clear hb2 hkw
      cases hb3 : askedF (wants.getD k ByteArray.empty) canon with
      | true =>
        have HT := Aside0.mk (any_one hbl.out hb3)
        go_wp2
        go_ret
        rw [HT.out]
        exact ⟨_, rfl, by simp, HB2.out⟩
      | false =>
        have HT := Aside0.mk (any_more hbl.out hf.out hb3)
        go_wp2
        go_roundg (gk - 1)
        case measure => have := hq.out; omega
        case rel => exact ⟨k + 1, by omega, by go_num, ⟨by have := hq.out; omega⟩, HT, HB2⟩
    · obtain rfl : k = n := by omega
      have HT := Aside0.mk (show wants.any (askedF · canon) = false by have := hf.out; rwa [List.take_of_length_le (by have := HN.out; have := HA.out.len; omega)] at this)
      go_wp2
      go_ret
      rw [HT.out]
      exact ⟨_, rfl, by decide, hw.out⟩

theorem fn_Contains (wants : List ByteArray) (vs : List Value) (base : Nat) (A : Option Addr) (c : Nat) (desc canon : ByteArray) (A1 : Option Addr) (n1 c1 b : Nat) (w : World) (ha : AsksAt w base wants (.slice A vs.length c) vs) (hmx : vs.length ≤ 1000000000) (hs : canon.size ≤ 1000000000) (hm : MaxAt w)
    (hb : w.heap[b]? = some (.cells #[.string desc, .string canon, .slice A1 n1 c1] 39 (0, 0))) :
    Calls Tryd.prog 30 #[.slice A vs.length c, .func (.func 31) #[] #[.pointer (some ⟨b, 0, none⟩)]] w (CovPost w (wants.any (askedF · canon))) := by
  have HA := Aside0.mk ha
  have HM := Aside0.mk hm
  have HB := Aside0.mk hb
  obtain ⟨r, hr⟩ : ∃ r, r = wants.any (askedF · canon) := ⟨_, rfl⟩
  have HR := Aside0.mk hr
  rw [← hr]
  clear ha hm hb hr
  go_enter Tryd.func30, Tryd.ntmps30
  go_wp2_with fail
  refine (fn_Index wants vs base A c desc canon A1 n1 c1 b _ HA.out hmx hs HM.out HB.out).mono ?_
  rintro ee w2 ⟨i, rfl, hi, hb2⟩
  rw [← HR.out] at hi
  have HB2 := Aside0.mk hb2
  have HI := Aside0.mk hi
  clear hb2 hi
  go_wp2_with fail
  go_ret
  rw [← HI.out]
  exact ⟨rfl, HB2.out⟩

theorem R_empty (w : World) (base : Nat) (hb : base ≤ w.heap.size) : Kd.string.R 9 (w.alloc (.cells #[] 9)) base (fun _ => True) (.slice (some ⟨w.heap.size, 0, none⟩) 0 0) [] :=
  ⟨fun _ _ => trivial, [], ⟨rfl, .inr ⟨w.heap.size, 0, #[], rfl, hb, heap_alloc_new w _, by simp, by simp [maxLen], rfl, rfl⟩⟩, Reps.none _ _⟩
set_option maxRecDepth 100000 in
theorem str_Clone (l : List ByteArray) (A : Option Addr) (c : Nat) (w : World) (hr : Kd.C Kd.string w A l.length l) (hl : l.length ≤ 1000000000) : Calls Tryd.prog 32 #[.slice A l.length c] w (SupPost w l) := by
  have hq : ∀ (w : World) (a : Option Addr) (n c n' c' : Nat), (binOp .eql 22 (.slice a n c) (.slice none n' c')).run Tryd.prog w = .ok (.bool a.isNone) w := fun w a n c n' c' => Lib.run_eql_slice_nil w _ _ a n c n' c' Tryd.underlying22
  have HR := Aside0.mk hr
  cases A with
  | none =>
    have h0 : l.length = 0 := by
      rcases Nat.eq_zero_or_pos l.length with h | h
      · exact h
      · obtain ⟨ad, e, _⟩ := hr.2.2 h; cases e
    have h1 : l = [] := List.eq_nil_of_length_eq_zero h0
    subst h1
    clear hr h0
    go_enter Tryd.func32, Tryd.ntmps32
    go_wp2
    go_ret
    exact ⟨_, rfl, Kd.R_nil _ _ _ _ _, Below.refl _ _⟩
  | some ad =>
    clear hr
    go_enter Tryd.func32, Tryd.ntmps32
    go_wp2_with (at_builtin; refine Kd.R_append_rows Kd.string (w0 := w) w.heap.size rfl (.tmp 5) (.tmp 6) 22 9 (.string ⟨#[]⟩) 16 rfl Tryd.underlying22 inf9 rfl (by decide) (by omega) (.slice (some ⟨w.heap.size, 0, none⟩) 0 0) [] l _ _ _ (fun _ => True) (fun _ => False) rfl rfl (R_empty w w.heap.size (Nat.le_refl _)) (Kd.C_alloc HR.out _) (fun _ _ h => h) (fun _ h => h.elim) (fun _ _ => trivial) ((Below.refl _ _).alloc (Nat.le_refl _) _) (by simp) (by simp; omega) ?_; intro v1 w1 ho hb hg hat; have HO := Aside0.mk ho; have HB := Aside0.mk hb; clear ho hb hg hat)
    go_ret
    exact ⟨_, rfl, by simpa using HO.out, HB.out⟩
end Go.Proofs.YtghjinhgloegaaaDoor
