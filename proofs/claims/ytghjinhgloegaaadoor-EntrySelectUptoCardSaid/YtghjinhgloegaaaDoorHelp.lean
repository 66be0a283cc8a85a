/- The law's own functions and Select: contracts in one plain form. -/
import Derived.Test.YtghjinhgloegaaaDoorPlain
namespace Go.Proofs.YtghjinhgloegaaaDoor
open Go.RowKit Go.Proofs.YtghjinhgloegaaaDoorW.PrintWords
set_option linter.unusedVariables false
set_option linter.unusedSimpArgs false

/-- A slice of attributes that reads l. -/
def AtPost (w : World) (l : List S39) (e : Ending) (w' : World) : Prop := ∃ A n c, e = .returned (.slice A n c) ∧ n ≤ c ∧ Kd.C k39 w' A n l ∧ Below w.heap.size w w'
def EnPost (w : World) (line : Int) (name : ByteArray) (n2 n : Nat) (l : List S39) (e : Ending) (w' : World) : Prop := ∃ A2 c2 A3 c3, e = .returned (.agg #[.int .i64 line, .string name, .slice A2 n2 c2, .slice A3 n c3]) ∧ n ≤ c3 ∧ Kd.C k39 w' A3 n l ∧ Below w.heap.size w w'

theorem ce_calls (line : Int) (name : ByteArray) (A2 : Option Addr) (n2 c2 : Nat) (key : List ByteArray) (A3 : Option Addr) (n3 c3 : Nat) (l : List S39) (w : World) (h2 : Kd.C Kd.string w A2 n2 key) (g2 : n2 ≤ c2) (h3 : Kd.C k39 w A3 n3 l) (g3 : n3 ≤ c3) (hk : key.length ≤ 1000000000) (hs : Small l) :
    Calls Tryd.prog 7 #[.agg #[.int .i64 line, .string name, .slice A2 n2 c2, .slice A3 n3 c3]] w (EnPost w line name n2 n3 l) := by
  obtain rfl : key.length = n2 := h2.1
  obtain rfl : l.length = n3 := h3.1
  refine (rosterlaw08_copyEntry.calls 2000000000 line name A2 c2 key A3 c3 l line name key l w h2 g2 h3 g3 (copyEntry_f line name key l hk hs)).mono ?_
  rintro e w' ⟨v2, v3, rfl, hr2, hr3, hb⟩
  obtain ⟨A, c, rfl, _, _⟩ := Kd.R_reads hr2
  obtain ⟨A', c', rfl, hc', hC'⟩ := Kd.S_reads hr3
  exact ⟨A, c, A', c', rfl, hc', hC', hb⟩
theorem sel_calls (line : Int) (name : ByteArray) (K1 : Option Addr) (n1 c1 : Nat) (attrs : List S39) (AA : Option Addr) (n ca : Nat) (wanted : List ByteArray) (AW : Option Addr) (nw cw : Nat) (ty : Bool) (w : World)
    (hr : Kd.C k39 w AA n attrs) (hw : Kd.C Kd.string w AW nw wanted) (hs : Small attrs) (hsw : SmallW wanted) (hm : MaxAt w) :
    Calls Tryd.prog 15 #[.agg #[.int .i64 line, .string name, .slice K1 n1 c1, .slice AA n ca], .slice AW nw cw, .bool ty] w (AtPost w (selF attrs wanted ty)) := by
  obtain rfl : attrs.length = n := hr.1
  obtain rfl : wanted.length = nw := hw.1
  refine (entry_Select line name K1 n1 c1 attrs AA ca wanted AW cw ty w hr hw hs hsw hm).mono ?_
  rintro e w' ⟨v, rfl, hr, hb⟩
  obtain ⟨A, c, rfl, hc, hC⟩ := Kd.R_reads hr
  exact ⟨A, _, c, rfl, hc, hC, hb⟩
theorem strip_calls (A : Option Addr) (n c : Nat) (l : List S39) (ty : Bool) (w : World) (h : Kd.C k39 w A n l) (g : n ≤ c) (hs : Small l) : Calls Tryd.prog 19 #[.slice A n c, .bool ty] w (AtPost w (l.map (sent ty))) := by
  obtain rfl : l.length = n := h.1
  refine (rosterlaw08_stripped.calls 2000000000 A c l ty (l.map (sent ty)) w h g (stripped_f l hs ty)).mono ?_
  rintro e w' ⟨v, rfl, hr, hb⟩
  obtain ⟨A, c, rfl, hc, hC⟩ := Kd.S_reads hr
  exact ⟨A, _, c, rfl, hc, hC, hb⟩
theorem same_calls (A : Option Addr) (n c : Nat) (A1 : Option Addr) (n1 c1 : Nat) (l l1 : List S39) (w : World) (h : Kd.C k39 w A n l) (g : n ≤ c) (h1 : Kd.C k39 w A1 n1 l1) (g1 : n1 ≤ c1) (he : l = l1) (hs : Small l) : Calls Tryd.prog 17 #[.slice A n c, .slice A1 n1 c1] w (CovPost w true) := by
  subst he
  obtain rfl : l.length = n := h.1
  obtain rfl : l.length = n1 := h1.1
  exact rosterlaw08_sameAttrs.calls 2000000000 A c l A1 c1 l true w h g h1 g1 (sameAttrs_f l hs)
theorem has_calls (A : Option Addr) (n c : Nat) (l : List S39) (x : S39) (A1 : Option Addr) (n1 c1 : Nat) (w : World) (h : Kd.C k39 w A n l) (g : n ≤ c) (h1 : Kd.C Kd.string w A1 n1 x.f2) (g1 : n1 ≤ c1) (hs : Small l) : Calls Tryd.prog 20 #[.slice A n c, .agg #[.string x.f0, .string x.f1, .slice A1 n1 c1]] w (fun e w' => ∃ r, e = .returned (.bool r) ∧ (x ∈ l → r = true) ∧ Below w.heap.size w w') := by
  obtain rfl : l.length = n := h.1
  obtain rfl : x.f2.length = n1 := h1.1
  obtain ⟨r, h2, h3⟩ := has_f l hs x
  refine (rosterlaw08_has.calls 2000000000 A c l x.f0 x.f1 A1 c1 x.f2 r w h g h1 g1 h2).mono ?_
  rintro e w' ⟨rfl, hb⟩
  exact ⟨r, rfl, h3, hb⟩

/-! ### append([]string{}, x...), append(.., y...) -/
def OwnL (w0 w : World) (v : Value) (l : List ByteArray) : Prop := Kd.R Kd.string 9 w w0.heap.size (fun _ => True) v l ∧ Below w0.heap.size w0 w
theorem OwnL.c {w0 w : World} {A : Option Addr} {n c : Nat} {l : List ByteArray} (h : OwnL w0 w (.slice A n c) l) : Kd.C Kd.string w A n l := by
  obtain ⟨h1, _, h2⟩ := Kd.R_reads' h.1
  rw [h1]; exact h2
section
variable {ops : Array Oper} {rest : List Oper} {o : Oper} {a : Act} {Q : Exit → Act → World → Prop}
theorem app_first (w0 : World) (s x : Operand) (hgd : o.guard = none) (ho : o.op = .call { callee := .builtin .append, args := #[s, x], argTypes := #[22, 22] }) (A : Option Addr) (m c : Nat) (ys : List ByteArray)
    (hs : a.eval s = .slice (some ⟨w0.heap.size, 0, none⟩) 0 0) (hx : a.eval x = .slice A m c) (HR : Kd.C Kd.string w0 A m ys) (hl : m ≤ 1000000000)
    (h : ∀ A' c' w1, OwnL w0 w1 (.slice A' m c') ys → wpList Tryd.prog ops Q rest (a.put o.dst (.slice A' m c')) w1) : wpList Tryd.prog ops Q (o :: rest) a (w0.alloc (.cells #[] 9)) := by
  refine Kd.R_append_rows Kd.string (w0 := w0) w0.heap.size hgd s x 22 9 (.string ⟨#[]⟩) 16 ho Tryd.underlying22 inf9 rfl (by decide) (by omega) (.slice (some ⟨w0.heap.size, 0, none⟩) 0 0) [] ys A m c (fun _ => True) (fun _ => False) hs hx (R_empty w0 w0.heap.size (Nat.le_refl _)) (Kd.C_alloc HR _) (fun _ _ h => h) (fun _ h => h.elim) (fun _ _ => trivial) ((Below.refl _ _).alloc (Nat.le_refl _) _) (by simp) (by simp; omega) ?_
  intro v1 w1 ho hb hg hat
  obtain ⟨A', c', rfl⟩ := Kd.R_slice ho
  obtain rfl : ys.length = m := HR.1
  exact h A' c' w1 ⟨by simpa using ho, hb⟩
theorem app_more (w0 W : World) (s x : Operand) (hgd : o.guard = none) (ho : o.op = .call { callee := .builtin .append, args := #[s, x], argTypes := #[22, 22] }) (A0 : Option Addr) (n0 c0 : Nat) (xs : List ByteArray) (A : Option Addr) (m c : Nat) (ys : List ByteArray)
    (hs : a.eval s = .slice A0 n0 c0) (hx : a.eval x = .slice A m c) (HO : OwnL w0 W (.slice A0 n0 c0) xs) (HR : Kd.C Kd.string w0 A m ys) (hl : n0 + m ≤ 1000000000)
    (h : ∀ A' c' w1, OwnL w0 w1 (.slice A' (n0 + m) c') (xs ++ ys) → wpList Tryd.prog ops Q rest (a.put o.dst (.slice A' (n0 + m) c')) w1) : wpList Tryd.prog ops Q (o :: rest) a W := by
  obtain rfl : xs.length = n0 := HO.c.1
  refine Kd.R_append_rows Kd.string (w0 := w0) w0.heap.size hgd s x 22 9 (.string ⟨#[]⟩) 16 ho Tryd.underlying22 inf9 rfl (by decide) (by omega) (.slice A0 xs.length c0) xs ys A m c (fun _ => True) (fun _ => False) hs hx HO.1 (Kd.C_below HR HO.2) (fun _ _ h => h) (fun _ h => h.elim) (fun _ _ => trivial) HO.2 HO.2.size (by omega) ?_
  intro v1 w1 ho hb hg hat
  obtain ⟨A', c', rfl⟩ := Kd.R_slice ho
  obtain rfl : ys.length = m := HR.1
  simp only [List.length_append] at ho ⊢
  exact h A' c' w1 ⟨ho, hb⟩
end
/-- What is carried from call to call: what lies below, and one block. -/
theorem carry {w w1 w2 : World} {g : Nat} {cs : Array Value} {t : TypeId} (h : Below w.heap.size w w1) (hk : w1.heap[g]? = some (.cells cs t (0, 0))) (hb : Below w1.heap.size w1 w2) : Below w.heap.size w w2 ∧ w2.heap[g]? = some (.cells cs t (0, 0)) := ⟨h.trans (hb.mono h.size), blk_below hk hb⟩
/-- What is carried through a round: what lies below two worlds, and two blocks. -/
structure Carry (w w0 : World) (g g' : Nat) (o o' : Obj) (u : World) : Prop where
  a : Below w.heap.size w u
  b : u.heap[g]? = some o
  c : Below w0.heap.size w0 u
  d : u.heap[g']? = some o'
theorem Carry.step {w w0 : World} {g g' : Nat} {cs cs' : Array Value} {t t' : TypeId} {u u' : World} (h : Carry w w0 g g' (.cells cs t (0, 0)) (.cells cs' t' (0, 0)) u) (hb : Below u.heap.size u u') : Carry w w0 g g' (.cells cs t (0, 0)) (.cells cs' t' (0, 0)) u' :=
  ⟨h.a.trans (hb.mono h.a.size), blk_below h.b hb, h.c.trans (hb.mono h.c.size), blk_below h.d hb⟩
theorem at_x {w : World} {A : Option Addr} {n : Nat} {l : List S39} (h : Kd.C k39 w A n l) (k : Nat) (x : S39) (hx : l[k]? = some x) : k < n ∧ ∃ ad A2 n2 c2, A = some ad ∧ w.cell? (ad.add (k * 3)) = some (.string x.f0) ∧ w.cell? ⟨(ad.add (k * 3)).block, (ad.add (k * 3)).off + 1, none⟩ = some (.string x.f1) ∧ w.cell? ⟨(ad.add (k * 3)).block, (ad.add (k * 3)).off + 2, none⟩ = some (.slice A2 n2 c2) ∧ n2 ≤ c2 ∧ Kd.C Kd.string w A2 n2 x.f2 := by
  have hk := (List.getElem?_eq_some_iff.1 hx).1
  have hn := h.1
  obtain ⟨ad, A2, c2, e, h0, h1, h2, h3, h4⟩ := at_T39 h (k : Int) (by omega) (by omega)
  rw [rdT l k hk, (List.getElem?_eq_some_iff.1 hx).2] at h0 h1 h2 h3 h4
  rw [Int.toNat_natCast] at h0 h1 h2
  exact ⟨by omega, ad, A2, _, c2, e, h0, h1, h2, h3, h4⟩
theorem cells4 {w : World} {g : Nat} {t : TypeId} {x0 x1 x2 x3 : Value} (h : w.heap[g]? = some (.cells #[x0, x1, x2, x3] t (0, 0))) : w.cell? ⟨g, 0, none⟩ = some x0 ∧ w.cell? ⟨g, 1, none⟩ = some x1 ∧ w.cell? ⟨g, 2, none⟩ = some x2 ∧ w.cell? ⟨g, 3, none⟩ = some x3 := ⟨blk_cell h 0, blk_cell h 1, blk_cell h 2, blk_cell h 3⟩
theorem C_two (w : World) (x y : ByteArray) : Kd.C Kd.string (w.alloc (.cells #[.string x, .string y] 9)) (some ⟨w.heap.size, 0, none⟩) 2 [x, y] := by
  simpa using C_cells w [x, y] 2 rfl (by omega)
theorem C_single (w : World) (x : ByteArray) : Kd.C Kd.string (w.alloc (.cells #[.string x] 9)) (some ⟨w.heap.size, 0, none⟩) 1 [x] := by
  simpa using C_cells w [x] 1 rfl (by omega)
theorem SmallW.two {x y : ByteArray} (hx : x.size ≤ 1000000000) (hy : y.size ≤ 1000000000) : SmallW [x, y] := ⟨by simp, fun z hz => by simp at hz; rcases hz with rfl | rfl <;> assumption⟩
theorem SmallW.one {x : ByteArray} (hx : x.size ≤ 1000000000) : SmallW [x] := ⟨by simp, fun z hz => by simp at hz; subst hz; exact hx⟩
theorem SmallW.app {l m : List ByteArray} (h1 : SmallW l) (h2 : SmallW m) (h : l.length + m.length ≤ 100000000) : SmallW (l ++ m) := ⟨by rw [List.length_append]; exact h, fun z hz => (List.mem_append.1 hz).elim (h1.each z) (h2.each z)⟩

/-- One element's part of a row. -/
theorem C_one {w : World} {ad : Addr} {n : Nat} {l : List S39} (h : Kd.C k39 w (some ad) n l) (k : Nat) (hk : k < l.length) : Kd.C k39 w (some (ad.add (k * 3))) 1 [l[k]] := by
  refine ⟨rfl, by omega, fun _ => ⟨_, rfl, fun j p hp => ?_⟩⟩
  have hj : j = 0 ∧ p = l[k] := by
    cases j with
    | zero => simpa using hp.symm
    | succ j => simp at hp
  obtain ⟨rfl, rfl⟩ := hj
  have h0 : 0 < n := by have := h.1; omega
  obtain ⟨ad', e, hc⟩ := h.2.2 h0
  obtain rfl := Option.some.inj e
  obtain ⟨c, h1, h2, h3⟩ := hc k l[k] (List.getElem?_eq_getElem hk)
  refine ⟨c, h1, h2, fun i u hi => ?_⟩
  have := h3 i u hi
  have e3 : k39.sz = 3 := rfl
  rw [e3] at this
  rw [Nat.zero_mul, Nat.zero_add, Addr.add_add]
  exact this

theorem C_x {w u : World} {ad : Addr} {n ca : Nat} {l : List S39} (h : Kd.C k39 w (some ad) n l) (hb : Below w.heap.size w u) (k : Nat) (x : S39) (hx : l[k]? = some x) : Kd.C k39 u (some (ad.add (k * 3))) 1 [x] := by
  have hk := (List.getElem?_eq_some_iff.1 hx).1
  have := C_one (Kd.C_below h hb) k hk
  rwa [(List.getElem?_eq_some_iff.1 hx).2] at this

/-! ### What is asked for, plainly -/
theorem effW_ne {l : List ByteArray} (h : l.length ≠ 0) : effW l = l := by unfold effW; rw [if_neg h]
theorem selF_star_plus (attrs : List S39) (ty : Bool) : selF attrs [⟨#[42]⟩, ⟨#[43]⟩] ty = attrs.map (sent ty) := by
  unfold selF
  rw [effW_ne (by simp)]
  congr 1
  refine List.filter_eq_self.2 fun a _ => ?_
  have h1 : ∀ c, askedF ⟨#[42]⟩ c = !ownF c := fun c => by
    unfold askedF
    rw [if_neg (by decide +kernel), if_pos (by decide +kernel)]
  have h2 : ∀ c, askedF ⟨#[43]⟩ c = ownF c := fun c => by
    unfold askedF
    rw [if_neg (by decide +kernel), if_neg (by decide +kernel), if_pos (by decide +kernel)]
  simp [h1, h2]
theorem selF_turned (attrs : List S39) (a b : List ByteArray) (ha : a.length ≠ 0) (ty : Bool) : selF attrs (a ++ b) ty = selF attrs (b ++ a ++ b) ty := by
  unfold selF
  rw [effW_ne (by rw [List.length_append]; omega), effW_ne (by simp only [List.length_append]; omega)]
  congr 1
  refine List.filter_congr fun x _ => ?_
  simp only [List.any_append]
  cases a.any (askedF · x.f1) <;> cases b.any (askedF · x.f1) <;> rfl
theorem selF_one (x : S39) (l : List ByteArray) (hl : l.length ≠ 0) (ty : Bool) : selF [x] l ty = if l.any (askedF · x.f1) then [sent ty x] else [] := by
  unfold selF
  rw [effW_ne hl]
  by_cases h : l.any (askedF · x.f1) <;> simp [h]
theorem selF_step (attrs : List S39) (k : Nat) (hk : k < attrs.length) (l : List ByteArray) (hl : l.length ≠ 0) (ty : Bool) : selF (attrs.take (k + 1)) l ty = selF (attrs.take k) l ty ++ selF [attrs[k]] l ty := by
  unfold selF
  rw [List.take_succ_eq_append_getElem hk, List.filter_append, List.map_append]
theorem mem_selF {attrs : List S39} {x : S39} (hx : x ∈ attrs) {l : List ByteArray} (hl : l.length ≠ 0) (ty : Bool) (h : l.any (askedF · x.f1) = true) : sent ty x ∈ selF attrs l ty := by
  unfold selF
  rw [effW_ne hl]
  exact List.mem_map.2 ⟨x, List.mem_filter.2 ⟨hx, h⟩, rfl⟩
end Go.Proofs.YtghjinhgloegaaaDoor
