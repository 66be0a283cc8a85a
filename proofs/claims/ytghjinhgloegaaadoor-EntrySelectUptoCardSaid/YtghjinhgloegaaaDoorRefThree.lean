/- entry.Values, entry.Has, the reference's Values and Has; the law's copies with marks behind their lists: what each answers. -/
import Derived.Test.YtghjinhgloegaaaDoorRefTwo
namespace Go.Proofs.YtghjinhgloegaaaDoor
open Go.RowKit Go.Proofs.YtghjinhgloegaaaDoorW.PrintWords
set_option linter.unusedVariables false
set_option linter.unusedSimpArgs false

def valsF (attrs : List S39) (d : ByteArray) : List ByteArray := attrs.flatMap fun a => if coversF d a.f1 = true then a.f2 else []
def tot (l : List S39) : Nat := (l.map fun a => a.f2.length).sum
theorem tot_take (l : List S39) (k : Nat) (x : S39) (h : l[k]? = some x) : tot (l.take k) + x.f2.length ≤ tot l := by
  obtain ⟨hk, rfl⟩ := List.getElem?_eq_some_iff.1 h
  have e : l = l.take k ++ l[k] :: l.drop (k + 1) := by rw [← List.drop_eq_getElem_cons hk, List.take_append_drop]
  have : tot l = tot (l.take k) + (l[k].f2.length + tot (l.drop (k + 1))) := by
    conv => lhs; rw [e]
    unfold tot
    rw [List.map_append, List.map_cons, List.sum_append, List.sum_cons]
  omega
theorem vals_len (d : ByteArray) : ∀ l : List S39, (valsF l d).length ≤ tot l
  | [] => Nat.le_refl _
  | x :: l => by
    have ih := vals_len d l
    unfold valsF tot at *
    rw [List.flatMap_cons, List.length_append, List.map_cons, List.sum_cons]
    by_cases hc : coversF d x.f1 = true
    · rw [if_pos hc]; omega
    · rw [if_neg hc, List.length_nil]; omega
theorem vals_step (l : List S39) (d : ByteArray) (k : Nat) (x : S39) (h : l[k]? = some x) : valsF (l.take (k + 1)) d = valsF (l.take k) d ++ (if coversF d x.f1 = true then x.f2 else []) := by
  obtain ⟨hk, rfl⟩ := List.getElem?_eq_some_iff.1 h
  unfold valsF
  rw [List.take_succ_eq_append_getElem hk, List.flatMap_append]
  simp
set_option maxHeartbeats 8000000 in
set_option maxRecDepth 100000 in
theorem values_calls (line : Int) (name : ByteArray) (K1 : Option Addr) (n1 c1 : Nat) (attrs : List S39) (AA : Option Addr) (n ca : Nat) (d : ByteArray) (w : World)
    (hr : Kd.C k39 w AA n attrs) (hs : Small attrs) (hd : d.size ≤ 900000000) (ht : tot attrs ≤ 1000000000) (hm : MaxAt w) :
    Calls Tryd.prog 8 #[.agg #[.int .i64 line, .string name, .slice K1 n1 c1, .slice AA n ca], .string d] w (ListPost w (valsF attrs d)) := by
  have hu39 := Tryd.underlying39
  have hu25 := Tryd.underlying25
  have hnn : n ≤ 100000000 := hr.1 ▸ hs.len
  have NN := Aside0.mk hr.1
  have HR := Aside0.mk hr
  have HS := Aside0.mk hs
  have HD := Aside0.mk hd
  have HT := Aside0.mk ht
  have HM := Aside0.mk hm
  clear hr hs hd ht hm
  go_enter Tryd.func8, Tryd.ntmps8
  go_wp2_with fail
  have hbW : Below w.heap.size w (w.alloc (.cells #[.int .i64 line, .string name, .slice K1 n1 c1, .slice AA n ca] 25)) := (Below.refl _ _).alloc (Nat.le_refl _) _
  generalize w.alloc (.cells #[.int .i64 line, .string name, .slice K1 n1 c1, .slice AA n ca] 25) = W at hbW ⊢
  have HBW := Aside0.mk hbW
  clear hbW
  go_loopg [5, 11] n (fun kq v5 v11 wr => ∃ (k : Nat) (A5 : Option Addr) (n5 c5 : Nat), k ≤ n ∧ v5 = .slice A5 n5 c5 ∧ v11 = .int .i64 k ∧ Aside0 (kq + k = n) ∧ Aside0 (OwnL W wr (.slice A5 n5 c5) (valsF (attrs.take k) d)))
  case atStart => exact ⟨0, none, 0, 0, Nat.zero_le _, rfl, rfl, ⟨rfl⟩, ⟨OwnL.nil (Below.refl _ _)⟩⟩
  case round =>
    obtain ⟨k, A5, n5, c5, hk, rfl, rfl, hq, hown⟩ := hrel
    by_cases hlt : k < n
    · have hka : k < attrs.length := by have := NN.out; omega
      obtain ⟨x, hx⟩ : ∃ x, attrs[k]? = some x := ⟨_, List.getElem?_eq_getElem hka⟩
      have hbr : Below w.heap.size w wr := HBW.out.trans (hown.out.2.mono HBW.out.size)
      obtain ⟨_, ad, A2, n2, c2, rfl, t0, t1, t2, t3, t4⟩ := at_x (Kd.C_below HR.out hbr) k x hx
      have HT4 := Aside0.mk t4
      have HXS := Aside0.mk (HS.out.each x (List.mem_of_getElem? hx))
      have HST := Aside0.mk (vals_step attrs d k x hx)
      have HLE := Aside0.mk (show n5 + n2 ≤ 1000000000 by
        have h1 := hown.out.c.1
        have h2 := vals_len d (attrs.take k)
        have h3 := tot_take attrs k x hx
        have h4 := t4.1
        have := HT.out
        omega)
      have HBR := Aside0.mk hbr
      clear t4 hbr hka hx
      go_wp2_with fail
      refine (attr_Covers d x.f1 _ (by have := HD.out; omega) HXS.out.1 ((HM.out.below HBR.out).alloc _)).mono ?_
      rintro ee w3 ⟨rfl, hb3⟩
      have hk7 := block_kept hb3
      have q0 := blk_cell hk7 0; have q1 := blk_cell hk7 1; have q2 := blk_cell hk7 2
      have hz : Below wr.heap.size wr w3 := ((Below.refl _ _).alloc (Nat.le_refl _) _).trans (hb3.mono (by simp))
      have OW := Aside0.mk (OwnL.keep hown.out hz)
      have HT4' := Aside0.mk (Kd.C_below HT4.out hz)
      clear hk7 hb3 hz hown HT4 t0 t1 t2
      cases hc : coversF d x.f1 with
      | false =>
        have HST2 := Aside0.mk (show valsF (attrs.take (k + 1)) d = valsF (attrs.take k) d by rw [HST.out, hc]; simp)
        clear hc
        go_wp2
        go_roundg (gk - 1)
        case rel => exact ⟨k + 1, A5, n5, c5, hlt, rfl, by push_cast; rfl, ⟨by have := hq.out; omega⟩, ⟨by rw [HST2.out]; exact OW.out⟩⟩
        case measure => have := hq.out; omega
      | true =>
        have HST2 := Aside0.mk (show valsF (attrs.take (k + 1)) d = valsF (attrs.take k) d ++ x.f2 by rw [HST.out, hc]; simp)
        clear hc
        go_wp2_with (at_builtin; refine app_row W w3 (.tmp 19) (.tmp 21) rfl rfl A5 n5 c5 _ A2 n2 c2 x.f2 rfl rfl OW.out HT4'.out (by have := HLE.out; omega) ?_; intro A6 c6 w6 ho; have HO := Aside0.mk ho; clear ho)
        go_roundg (gk - 1)
        case rel => exact ⟨k + 1, A6, n5 + n2, c6, hlt, rfl, by push_cast; rfl, ⟨by have := hq.out; omega⟩, ⟨by rw [HST2.out]; exact HO.out⟩⟩
        case measure => have := hq.out; omega
    · obtain rfl : k = n := by omega
      have HA := Aside0.mk (show attrs.take k = attrs from List.take_of_length_le (by have := NN.out; omega))
      rw [HA.out] at hown
      go_wp2
      go_ret
      exact ⟨_, _, _, rfl, hown.out.cap, hown.out.c, HBW.out.trans (hown.out.2.mono HBW.out.size)⟩
set_option maxHeartbeats 8000000 in
set_option maxRecDepth 100000 in
theorem refValues_calls (line : Int) (name : ByteArray) (K1 : Option Addr) (n1 c1 : Nat) (attrs : List S39) (AA : Option Addr) (n ca : Nat) (d : ByteArray) (w : World)
    (hr : Kd.C k39 w AA n attrs) (hs : Small attrs) (hs9 : ∀ x ∈ attrs, x.f1.size ≤ 900000000) (hd : d.size ≤ 900000000) (ht : tot attrs ≤ 1000000000) (hm : KindsAt w) :
    Calls Tryd.prog 10 #[.agg #[.int .i64 line, .string name, .slice K1 n1 c1, .slice AA n ca], .string d] w (ListPost w (valsF attrs d)) := by
  have hu39 := Tryd.underlying39
  have hu25 := Tryd.underlying25
  have hnn : n ≤ 100000000 := hr.1 ▸ hs.len
  have NN := Aside0.mk hr.1
  have HR := Aside0.mk hr
  have HS := Aside0.mk hs9
  have HD := Aside0.mk hd
  have HT := Aside0.mk ht
  have HM := Aside0.mk hm
  clear hr hs hs9 hd ht hm
  go_enter Tryd.func10, Tryd.ntmps10
  go_wp2_with fail
  have hbW : Below w.heap.size w (w.alloc (.cells #[.int .i64 line, .string name, .slice K1 n1 c1, .slice AA n ca] 25)) := (Below.refl _ _).alloc (Nat.le_refl _) _
  have hkW := blk_new w (.cells #[.int .i64 line, .string name, .slice K1 n1 c1, .slice AA n ca] 25)
  generalize w.alloc (.cells #[.int .i64 line, .string name, .slice K1 n1 c1, .slice AA n ca] 25) = W at hbW hkW ⊢
  have HBW := Aside0.mk hbW
  have HKW := Aside0.mk hkW
  clear hbW hkW
  go_loopg [5, 6] n (fun kq v5 v11 wr => ∃ (k : Nat) (A5 : Option Addr) (n5 c5 : Nat), k ≤ n ∧ v5 = .slice A5 n5 c5 ∧ v11 = .int .i64 k ∧ Aside0 (kq + k = n) ∧ Aside0 (OwnL W wr (.slice A5 n5 c5) (valsF (attrs.take k) d)))
  case atStart => exact ⟨0, none, 0, 0, Nat.zero_le _, rfl, rfl, ⟨rfl⟩, ⟨OwnL.nil (Below.refl _ _)⟩⟩
  case round =>
    obtain ⟨k, A5, n5, c5, hk, rfl, rfl, hq, hown⟩ := hrel
    obtain ⟨_, _, _, q3⟩ := cells4 (blk_below HKW.out hown.out.2)
    by_cases hlt : k < n
    · have hka : k < attrs.length := by have := NN.out; omega
      obtain ⟨x, hx⟩ : ∃ x, attrs[k]? = some x := ⟨_, List.getElem?_eq_getElem hka⟩
      have hbr : Below w.heap.size w wr := HBW.out.trans (hown.out.2.mono HBW.out.size)
      have HXK := Aside0.mk hx
      obtain ⟨_, ad, A2, n2, c2, rfl, t0, t1, t2, t3, t4⟩ := at_x (Kd.C_below HR.out hbr) k x hx
      have HXS := Aside0.mk (HS.out x (List.mem_of_getElem? hx))
      have HST := Aside0.mk (vals_step attrs d k x hx)
      have HLE := Aside0.mk (show n5 + x.f2.length ≤ 1000000000 by
        have h1 := hown.out.c.1
        have h2 := vals_len d (attrs.take k)
        have h3 := tot_take attrs k x hx
        have := HT.out
        omega)
      have HBR := Aside0.mk hbr
      clear t4 hbr hka hx
      go_wp2_with fail
      refine (refCovers_calls d x.f1 HD.out HXS.out _ (HM.out.below HBR.out)).mono ?_
      rintro ee w3 ⟨rfl, hb3⟩
      have OW := Aside0.mk (OwnL.keep hown.out hb3)
      clear hown hb3 t0 t1 t2 t3 q3
      obtain ⟨_, _, _, q3⟩ := cells4 (blk_below HKW.out OW.out.2)
      obtain ⟨_, ad', A2', n2', c2', had', t0, t1, t2, t3, t4⟩ := at_x (Kd.C_below HR.out (HBW.out.trans (OW.out.2.mono HBW.out.size))) k x HXK.out
      obtain rfl := Option.some.inj had'
      have HT4 := Aside0.mk t4
      have hn2' := t4.1
      clear t4 had'
      cases hc : coversF d x.f1 with
      | false =>
        have HST2 := Aside0.mk (show valsF (attrs.take (k + 1)) d = valsF (attrs.take k) d by rw [HST.out, hc]; simp)
        clear hc
        go_wp2
        go_roundg (gk - 1)
        case rel => exact ⟨k + 1, A5, n5, c5, hlt, rfl, by push_cast; rfl, ⟨by have := hq.out; omega⟩, ⟨by rw [HST2.out]; exact OW.out⟩⟩
        case measure => have := hq.out; omega
      | true =>
        have HST2 := Aside0.mk (show valsF (attrs.take (k + 1)) d = valsF (attrs.take k) d ++ x.f2 by rw [HST.out, hc]; simp)
        clear hc
        go_wp2_with (at_builtin; refine app_row W w3 (.tmp 24) (.tmp 30) rfl rfl A5 n5 c5 _ A2' n2' c2' x.f2 rfl rfl OW.out HT4.out (by have := HLE.out; omega) ?_; intro A6 c6 w6 ho; have HO := Aside0.mk ho; clear ho)
        go_roundg (gk - 1)
        case rel => exact ⟨k + 1, A6, n5 + n2', c6, hlt, rfl, by push_cast; rfl, ⟨by have := hq.out; omega⟩, ⟨by rw [HST2.out]; exact HO.out⟩⟩
        case measure => have := hq.out; omega
    · obtain rfl : k = n := by omega
      have HA := Aside0.mk (show attrs.take k = attrs from List.take_of_length_le (by have := NN.out; omega))
      rw [HA.out] at hown
      go_wp2
      go_ret
      exact ⟨_, _, _, rfl, hown.out.cap, hown.out.c, HBW.out.trans (hown.out.2.mono HBW.out.size)⟩
set_option maxHeartbeats 8000000 in
set_option maxRecDepth 100000 in
theorem refHas_calls (line : Int) (name : ByteArray) (K1 : Option Addr) (n1 c1 : Nat) (attrs : List S39) (AA : Option Addr) (n ca : Nat) (d : ByteArray) (w : World)
    (hr : Kd.C k39 w AA n attrs) (hs : Small attrs) (hs9 : ∀ x ∈ attrs, x.f1.size ≤ 900000000) (hd : d.size ≤ 900000000) (ht : tot attrs ≤ 1000000000) (hm : KindsAt w) :
    Calls Tryd.prog 11 #[.agg #[.int .i64 line, .string name, .slice K1 n1 c1, .slice AA n ca], .string d] w (CovPost w (!(valsF attrs d).isEmpty)) := by
  have hu25 := Tryd.underlying25
  have HR := Aside0.mk hr
  have HS := Aside0.mk hs
  have HS9 := Aside0.mk hs9
  have HD := Aside0.mk hd
  have HT := Aside0.mk ht
  have HM := Aside0.mk hm
  clear hr hs hs9 hd ht hm
  go_enter Tryd.func11, Tryd.ntmps11
  go_wp2_with fail
  refine (refValues_calls line name K1 n1 c1 attrs AA n ca d _ (Kd.C_alloc HR.out _) HS.out HS9.out HD.out HT.out (HM.out.alloc _)).mono ?_
  rintro ee w2 ⟨A, m, c, rfl, g, h, hb⟩
  have hB : Below w.heap.size w w2 := ((Below.refl _ _).alloc (Nat.le_refl _) _).trans (hb.mono (by simp))
  have hm2 : m ≤ 9223372036854775807 := h.2.1
  have HL := Aside0.mk (show (!(valsF attrs d).isEmpty) = decide (0 < m) by
    rw [← h.1]
    cases valsF attrs d with
    | nil => rfl
    | cons x l => simp)
  have HB := Aside0.mk hB
  clear hb hB h
  go_wp2
  go_ret
  exact ⟨by rw [HL.out]; rfl, HB.out⟩
end Go.Proofs.YtghjinhgloegaaaDoor

namespace Go.Proofs.YtghjinhgloegaaaDoor
open Go.RowKit Go.Proofs.YtghjinhgloegaaaDoorW.PrintWords
set_option linter.unusedVariables false
set_option linter.unusedSimpArgs false

def hitsF (d : ByteArray) (a : S39) : Bool := decide (0 < a.f2.length) && coversF d a.f1
theorem hits_vals (d : ByteArray) : ∀ l : List S39, l.any (hitsF d) = !(valsF l d).isEmpty
  | [] => rfl
  | x :: l => by
    have ih := hits_vals d l
    unfold valsF at *
    rw [List.any_cons, ih, List.flatMap_cons]
    generalize (List.flatMap (fun a => if coversF d a.f1 = true then a.f2 else []) l) = R
    unfold hitsF
    cases hc : coversF d x.f1
    · simp
    · cases hx : x.f2 <;> simp
set_option maxHeartbeats 8000000 in
set_option maxRecDepth 100000 in
theorem has1_calls (d : ByteArray) (x : S39) (A : Option Addr) (n c b : Nat) (w : World) (hd : d.size ≤ 1000000000) (hx : x.f1.size ≤ 1000000000) (hn : n = x.f2.length) (hn2 : n ≤ 1000000000) (hm : MaxAt w) (hb : w.heap[b]? = some (.cells #[.string d] 9 (0, 0))) :
    Calls Tryd.prog 25 #[.agg #[.string x.f0, .string x.f1, .slice A n c], .pointer (some ⟨b, 0, none⟩)] w (CovPost w (hitsF d x)) := by
  have HD := Aside0.mk hd
  have HX := Aside0.mk hx
  have HM := Aside0.mk hm
  have HN := Aside0.mk hn
  have q0 := pw_cell_below ((Below.refl _ _).alloc (Nat.le_refl _) (Obj.cells #[.string x.f0, .string x.f1, .slice A n c] 39)) (show w.cell? ⟨b, 0, none⟩ = some (.string d) from blk_cell hb 0)
  have hu39 := Tryd.underlying39
  clear hd hx hm hb hn
  by_cases h0 : 0 < n
  · have HC := Aside0.mk (show hitsF d x = coversF d x.f1 by unfold hitsF; rw [← HN.out, decide_eq_true h0]; rfl)
    go_enter Tryd.func25, Tryd.ntmps25
    go_wp2_with fail
    refine (attr_Covers d x.f1 _ HD.out HX.out (HM.out.alloc _)).mono ?_
    rintro ee w3 ⟨rfl, hb3⟩
    have HB := Aside0.mk (((Below.refl w.heap.size w).alloc (Nat.le_refl _) _).trans (hb3.mono (by simp)))
    clear hb3
    go_wp2
    go_ret
    rw [HC.out]
    exact ⟨rfl, HB.out⟩
  · have HC := Aside0.mk (show hitsF d x = false by unfold hitsF; rw [← HN.out, decide_eq_false h0]; rfl)
    obtain rfl : n = 0 := by omega
    go_enter Tryd.func25, Tryd.ntmps25
    go_wp2
    go_ret
    rw [HC.out]
    exact ⟨rfl, (Below.refl _ _).alloc (Nat.le_refl _) _⟩
theorem hits_one {d : ByteArray} {l : List S39} {k : Nat} {x : S39} (hx : l[k]? = some x) (h : hitsF d x = true) : l.any (hitsF d) = true := List.any_eq_true.2 ⟨x, List.mem_of_getElem? hx, h⟩
theorem hits_more {d : ByteArray} {l : List S39} {k : Nat} {x : S39} (hx : l[k]? = some x) (h : (l.take k).any (hitsF d) = false) (h2 : hitsF d x = false) : (l.take (k + 1)).any (hitsF d) = false := by
  obtain ⟨hk, rfl⟩ := List.getElem?_eq_some_iff.1 hx
  rw [List.take_succ_eq_append_getElem hk, List.any_append, h]
  simpa using h2
set_option maxHeartbeats 8000000 in
set_option maxRecDepth 100000 in
theorem hasIndex (d : ByteArray) (l : List S39) (A : Option Addr) (n c b : Nat) (w : World) (hr : Kd.C k39 w A n l) (hs : Small l) (hd : d.size ≤ 1000000000) (hm : MaxAt w) (hb : w.heap[b]? = some (.cells #[.string d] 9 (0, 0))) :
    Calls Tryd.prog 38 #[.slice A n c, .func (.func 25) #[] #[.pointer (some ⟨b, 0, none⟩)]] w (IdxPost w (l.any (hitsF d))) := by
  have hnn : n ≤ 100000000 := hr.1 ▸ hs.len
  have NN := Aside0.mk hr.1
  have HR := Aside0.mk hr
  have HS := Aside0.mk hs
  have HD := Aside0.mk hd
  have HM := Aside0.mk hm
  have HB := Aside0.mk hb
  clear hr hs hd hm hb
  have e25 : Enters Tryd.prog 25 := enters_of Tryd.func25 (by kernel_rfl) rfl
  have hu39 := Tryd.underlying39
  unfold Enters at e25
  go_enter Tryd.func38, Tryd.ntmps38
  go_wp2_with fail
  go_loopg [8] n (fun kq v wr => ∃ k : Nat, k ≤ n ∧ v = .int .i64 k ∧ Aside0 (kq + k = n) ∧ Aside0 ((l.take k).any (hitsF d) = false) ∧ Aside0 (Below w.heap.size w wr))
  case atStart => exact ⟨0, Nat.zero_le _, rfl, ⟨rfl⟩, ⟨rfl⟩, ⟨Below.refl _ _⟩⟩
  case round =>
    obtain ⟨k, hk, rfl, hq, hf, hw⟩ := hrel
    by_cases hlt : k < n
    · have hka : k < l.length := by have := NN.out; omega
      obtain ⟨x, hx⟩ : ∃ x, l[k]? = some x := ⟨_, List.getElem?_eq_getElem hka⟩
      obtain ⟨_, ad, A2, n2, c2, rfl, t0, t1, t2, t3, t4⟩ := at_x (Kd.C_below HR.out hw.out) k x hx
      have HX := Aside0.mk hx
      have HXS := Aside0.mk (HS.out.each x (List.mem_of_getElem? hx))
      have HN2 := Aside0.mk t4.1.symm
      clear hka hx t4
      go_wp2_with fail
      refine (has1_calls d x A2 n2 c2 b wr HD.out HXS.out.1 HN2.out (HN2.out ▸ HXS.out.2) (HM.out.below hw.out) (blk_below HB.out hw.out)).mono ?_
      rintro ee w2 ⟨rfl, hb2⟩
      have HB2 := Aside0.mk (hw.out.trans (hb2.mono hw.out.size))
      clear hb2 t0 t1 t2
      cases hb3 : hitsF d x with
      | true =>
        have HT := Aside0.mk (hits_one HX.out hb3)
        go_wp2
        go_ret
        rw [HT.out]
        exact ⟨_, rfl, by simp, HB2.out⟩
      | false =>
        have HT := Aside0.mk (hits_more HX.out hf.out hb3)
        go_wp2
        go_roundg (gk - 1)
        case measure => have := hq.out; omega
        case rel => exact ⟨k + 1, by omega, by go_num, ⟨by have := hq.out; omega⟩, HT, HB2⟩
    · obtain rfl : k = n := by omega
      have HT := Aside0.mk (show l.any (hitsF d) = false by have := hf.out; rwa [List.take_of_length_le (by have := NN.out; omega)] at this)
      go_wp2
      go_ret
      rw [HT.out]
      exact ⟨_, rfl, by decide, hw.out⟩
theorem hasContains (d : ByteArray) (l : List S39) (A : Option Addr) (n c b : Nat) (w : World) (hr : Kd.C k39 w A n l) (hs : Small l) (hd : d.size ≤ 1000000000) (hm : MaxAt w) (hb : w.heap[b]? = some (.cells #[.string d] 9 (0, 0))) :
    Calls Tryd.prog 24 #[.slice A n c, .func (.func 25) #[] #[.pointer (some ⟨b, 0, none⟩)]] w (CovPost w (l.any (hitsF d))) := by
  have HA := Aside0.mk hr
  have HS := Aside0.mk hs
  have HM := Aside0.mk hm
  have HB := Aside0.mk hb
  obtain ⟨r, hr⟩ : ∃ r, r = l.any (hitsF d) := ⟨_, rfl⟩
  have HR := Aside0.mk hr
  rw [← hr]
  clear hs hm hb hr
  go_enter Tryd.func24, Tryd.ntmps24
  go_wp2_with fail
  refine (hasIndex d l A n c b _ HA.out HS.out hd HM.out HB.out).mono ?_
  rintro ee w2 ⟨i, rfl, hi, hb2⟩
  rw [← HR.out] at hi
  have HB2 := Aside0.mk hb2
  have HI := Aside0.mk hi
  clear hb2 hi
  go_wp2_with fail
  go_ret
  rw [← HI.out]
  exact ⟨rfl, HB2.out⟩
set_option maxHeartbeats 8000000 in
set_option maxRecDepth 100000 in
theorem has_entry_calls (line : Int) (name : ByteArray) (K1 : Option Addr) (n1 c1 : Nat) (attrs : List S39) (AA : Option Addr) (n ca : Nat) (d : ByteArray) (w : World)
    (hr : Kd.C k39 w AA n attrs) (hs : Small attrs) (hd : d.size ≤ 1000000000) (hm : MaxAt w) :
    Calls Tryd.prog 9 #[.agg #[.int .i64 line, .string name, .slice K1 n1 c1, .slice AA n ca], .string d] w (CovPost w (!(valsF attrs d).isEmpty)) := by
  have HA := Aside0.mk hr
  have HS := Aside0.mk hs
  have HM := Aside0.mk hm
  have hu25 := Tryd.underlying25
  have HR := Aside0.mk (hits_vals d attrs)
  clear hr hs hm
  go_enter Tryd.func9, Tryd.ntmps9
  go_wp2_with fail
  have hb : Below w.heap.size w ((w.alloc (.cells #[.int .i64 line, .string name, .slice K1 n1 c1, .slice AA n ca] 25)).alloc (.cells #[.string d] 9)) := ((Below.refl w.heap.size w).alloc (Nat.le_refl _) _).alloc (by simp) _
  have hk := (two_new w (.cells #[.int .i64 line, .string name, .slice K1 n1 c1, .slice AA n ca] 25) (.cells #[.string d] 9)).2
  refine (hasContains d attrs AA n ca (w.heap.size + 1) _ (Kd.C_below HA.out hb) HS.out hd (HM.out.below hb) hk).mono ?_
  rintro ee w2 ⟨rfl, hb2⟩
  have HB := Aside0.mk (hb.trans (hb2.mono hb.size))
  clear hb hk hb2
  go_wp2
  go_ret
  rw [← HR.out]
  exact ⟨rfl, HB.out⟩
end Go.Proofs.YtghjinhgloegaaaDoor

namespace Go.Proofs.YtghjinhgloegaaaDoor
open Go.RowKit Go.Proofs.YtghjinhgloegaaaDoorW.PrintWords
set_option linter.unusedVariables false
set_option linter.unusedSimpArgs false

def spareB : ByteArray := ⟨#[115, 112, 97, 114, 101, 32, 114, 111, 111, 109]⟩
set_option maxHeartbeats 8000000 in
set_option maxRecDepth 100000 in
theorem roomy2_calls (l : List ByteArray) (A : Option Addr) (n c : Nat) (w : World) (h : Kd.C Kd.string w A n l) (hl : n ≤ 1000000000) :
    Calls Tryd.prog 14 #[.slice A n c] w fun e w' => ∃ A' c', e = .returned (.slice A' n c') ∧ OwnL w w' (.slice A' (n + 1) c') (l ++ [spareB]) := by
  have H := Aside0.mk h
  clear h
  go_enter Tryd.func14, Tryd.ntmps14
  go_wp2_with (first
    | (at_builtin; refine app_first w (.tmp 4) (.tmp 5) rfl rfl A n c l rfl rfl H.out hl ?_; intro A2 c2 w2 ho; have HO := Aside0.mk ho; clear ho)
    | (at_builtin; refine app_one w w2 (.tmp 6) (.tmp 7) rfl rfl A2 n c2 l spareB rfl rfl HO.out (by omega) ?_; intro A3 c3 w3 ho; have HO3 := Aside0.mk ho; have hcap := ho.cap; clear ho))
  go_ret
  exact ⟨A3, c3, rfl, HO3.out⟩
/-- A list with a mark behind it. -/
def kSp : Kd (List ByteArray) where
  sz := 1
  E := [9]
  K := fun w xs cs => ∃ A c, cs = [.slice A xs.length c] ∧ xs.length + 1 ≤ c ∧ Kd.string.C w A (xs.length + 1) (xs ++ [spareB])
  M := fun w base ok xs cs => ∃ A c, cs = [.slice A xs.length c] ∧ Kd.string.R 9 w base ok (.slice A (xs.length + 1) c) (xs ++ [spareB])
  K_len := by
    rintro w x cs ⟨A, c, rfl, _⟩
    rfl
  K_one := by
    rintro w x cs ⟨A, c, rfl, _⟩ u hu
    rw [List.mem_singleton.1 hu]
    rfl
  K_below := by
    rintro w w1 x cs hb ⟨A, c, rfl, hl, hr⟩
    exact ⟨A, c, rfl, hl, Kd.C_below hr hb⟩
  K_of_M := by
    rintro w base ok x cs ⟨A, c, rfl, h⟩
    obtain ⟨h1, h2, h3⟩ := Kd.R_reads' h
    rw [← h1] at h3
    exact ⟨A, c, rfl, h2, h3⟩
  M_mono := by
    rintro w base ok ok' x cs hok ⟨A, c, rfl, h⟩
    exact ⟨A, c, rfl, Kd.R_mono h hok⟩
  M_bound := by
    rintro w base ok x cs ⟨A, c, rfl, h⟩
    exact ⟨A, c, rfl, Kd.R_bound h⟩
  M_move := by
    rintro w w1 base ok x cs hm ⟨A, c, rfl, h⟩
    exact ⟨A, c, rfl, Kd.R_move h hm⟩
  M_lower := by
    rintro w base base' ok x cs hb ⟨A, c, rfl, h⟩
    exact ⟨A, c, rfl, Kd.R_lower h hb⟩
def k39s : Kd S39 := Kd.iso (Kd.pair Kd.string (Kd.pair Kd.string kSp)) (fun x : S39 => (x.f0, x.f1, x.f2))
def markC : List Value := [.string spareB, .string ⟨#[]⟩, .slice none 0 0]
/-- An attribute whose values have a mark behind them, or the mark behind the attributes. -/
def kM : Kd (Option S39) where
  sz := 3
  E := [9]
  K := fun w x cs => match x with
    | some a => k39s.K w a cs
    | none => cs = markC
  M := fun w base ok x cs => match x with
    | some a => k39s.M w base ok a cs
    | none => cs = markC
  K_len := by
    rintro w (_ | a) cs h
    · subst h; rfl
    · exact k39s.K_len h
  K_one := by
    rintro w (_ | a) cs h
    · subst h; intro u hu; simp [markC] at hu; rcases hu with rfl | rfl | rfl <;> rfl
    · exact k39s.K_one h
  K_below := by
    rintro w w1 (_ | a) cs hb h
    · exact h
    · exact k39s.K_below hb h
  K_of_M := by
    rintro w base ok (_ | a) cs h
    · exact h
    · exact k39s.K_of_M h
  M_mono := by
    rintro w base ok ok' (_ | a) cs hok h
    · exact h
    · exact k39s.M_mono hok h
  M_bound := by
    rintro w base ok (_ | a) cs h
    · exact h
    · exact k39s.M_bound h
  M_move := by
    rintro w w1 base ok (_ | a) cs hm h
    · exact h
    · exact k39s.M_move hm h
  M_lower := by
    rintro w base base' ok (_ | a) cs hb h
    · exact h
    · exact k39s.M_lower hb h
theorem k39s_open {w : World} {x : S39} {cs : List Value} (h : k39s.K w x cs) : ∃ A2 c2, cs = [.string x.f0, .string x.f1, .slice A2 x.f2.length c2] ∧ x.f2.length + 1 ≤ c2 ∧ Kd.string.C w A2 (x.f2.length + 1) (x.f2 ++ [spareB]) := by
  obtain ⟨_, _, rfl, rfl, ⟨_, _, rfl, rfl, ⟨A2, c2, rfl, l2, g2⟩⟩⟩ := h
  exact ⟨A2, c2, rfl, l2, g2⟩
theorem k39s_mkM (w : World) (base : Nat) (ok : Nat → Prop) (x : S39) {A2 : Option Addr} {c2 : Nat} (g2 : Kd.string.R 9 w base ok (.slice A2 (x.f2.length + 1) c2) (x.f2 ++ [spareB])) : k39s.M w base ok x [.string x.f0, .string x.f1, .slice A2 x.f2.length c2] := ⟨[.string x.f0], [.string x.f1, .slice A2 x.f2.length c2], rfl, rfl, ⟨[.string x.f1], [.slice A2 x.f2.length c2], rfl, rfl, ⟨A2, c2, rfl, g2⟩⟩⟩
def CopyPost (w : World) (n : Nat) (l : List S39) (e : Ending) (w' : World) : Prop := ∃ A c, e = .returned (.slice A n c) ∧ Kd.R kM 39 w' w.heap.size (fun _ => True) (.slice A (n + 1) c) (l.map some ++ [none]) ∧ Below w.heap.size w w'
set_option maxHeartbeats 8000000 in
set_option maxRecDepth 100000 in
theorem copyAttrs2_calls (l : List S39) (A : Option Addr) (n c : Nat) (w : World) (h : Kd.C k39 w A n l) (hs : Small l) : Calls Tryd.prog 21 #[.slice A n c] w (CopyPost w n l) := by
  have hnn : n ≤ 100000000 := h.1 ▸ hs.len
  have NN := Aside0.mk h.1
  have HR := Aside0.mk h
  have HS := Aside0.mk hs
  have hu39 := Tryd.underlying39
  clear h hs
  go_enter Tryd.func21, Tryd.ntmps21
  go_wp2_with fail
  go_loopg [3, 4] n (fun kq v3 v4 wr => ∃ (k : Nat), k ≤ n ∧ v4 = .int .i64 k ∧ Aside0 (kq + k = n) ∧ Aside0 (Kd.R kM 39 wr w.heap.size (fun _ => True) v3 ((l.take k).map some)) ∧ Aside0 (Below w.heap.size w wr))
  case atStart => exact ⟨0, Nat.zero_le _, rfl, ⟨rfl⟩, ⟨Kd.R_nil _ _ _ _ _⟩, ⟨Below.refl _ _⟩⟩
  case round =>
    obtain ⟨k, hk, rfl, hq, hA, hb⟩ := hrel
    obtain ⟨A5, c5, rfl⟩ := Kd.R_slice hA.out
    have hlen : ((l.take k).map some).length = k := by rw [List.length_map, List.length_take]; have := NN.out; omega
    by_cases hlt : k < n
    · have hka : k < l.length := by have := NN.out; omega
      obtain ⟨x, hx⟩ : ∃ x, l[k]? = some x := ⟨_, List.getElem?_eq_getElem hka⟩
      obtain ⟨_, ad, A2, n2, c2, rfl, t0, t1, t2, t3, t4⟩ := at_x (Kd.C_below HR.out hb.out) k x hx
      have HXS := Aside0.mk (HS.out.each x (List.mem_of_getElem? hx))
      have HF := Aside0.mk (show (l.take (k + 1)).map some = (l.take k).map some ++ [some x] by
        obtain ⟨hk2, rfl⟩ := List.getElem?_eq_some_iff.1 hx
        rw [List.take_succ_eq_append_getElem hk2, List.map_append]; rfl)
      have HT4 := Aside0.mk t4
      have hn2 := t4.1
      clear t4 hx hka
      generalize hL : (l.take k).map some = L at hA hlen HF
      have HLL := Aside0.mk hlen
      clear hL hlen
      go_wp2_with fail
      refine (roomy2_calls x.f2 A2 n2 c2 _ (Kd.C_alloc HT4.out _) (by have := HXS.out.2; omega)).mono ?_
      rintro ee w4 ⟨A4, c4, rfl, ho⟩
      have hR4 := ho.1
      have hb4 := ho.2
      have h13 := blk_below (blk_new wr (.cells #[.string x.f0, .string x.f1, .slice A2 n2 c2] 39)) hb4
      have H13 := Aside0.mk h13
      have hwl4 := blk_lt h13
      have hb5 : Below wr.heap.size wr w4 := ((Below.refl _ _).alloc (Nat.le_refl _) _).trans (hb4.mono (by simp))
      have HR4 := Aside0.mk (Kd.R_mono (Kd.R_bound hR4) (ok' := fun k => wr.heap.size < k) (fun k hk => by have := hk.2.1; simp at this; omega))
      have hlt5 := Aside0.mk (Kd.R_lt hA.out)
      have HL3 := Aside0.mk (Kd.R_mono (Kd.R_bound hA.out) (ok' := fun k => k < wr.heap.size) (fun k hk => hk.2.2.1))
      have HB5 := Aside0.mk (hb.out.trans (hb5.mono hb.out.size))
      have hws5 := hb5.size
      have hbk : w.heap.size ≤ wr.heap.size := hb.out.size
      have p0 : w4.cell? ⟨wr.heap.size, 0, none⟩ = some (.string x.f0) := blk_cell h13 0
      have p1 : w4.cell? ⟨wr.heap.size, 1, none⟩ = some (.string x.f1) := blk_cell h13 1
      have p2 : w4.cell? ⟨wr.heap.size, 2, none⟩ = some (.slice A2 n2 c2) := blk_cell h13 2
      have pf : w4.frozen? ⟨wr.heap.size, 2, none⟩ = false := blk_frozen h13 2
      have hset : ∀ k, k ≠ wr.heap.size → (w4.setCell ⟨wr.heap.size, 2, none⟩ (.slice A4 n2 c4)).heap[k]? = w4.heap[k]? := fun k hk => Below.heap_setCell _ _ _ _ hk
      have HA6 := Aside0.mk (Kd.R_mono (Kd.R_step (Kd.R_below HL3.out hb5) (w1 := w4.setCell ⟨wr.heap.size, 2, none⟩ (.slice A4 n2 c4)) (fun k hk _ => hset k (by omega))) (ok' := fun _ => True) (fun _ _ => trivial))
      have HR6 := Aside0.mk (Kd.R_lower (Kd.R_step HR4.out (w1 := w4.setCell ⟨wr.heap.size, 2, none⟩ (.slice A4 n2 c4)) (fun k hk _ => hset k (by omega))) (base' := w.heap.size) (by simp; omega))
      have HB6 := Aside0.mk (HB5.out.setCell (p := ⟨wr.heap.size, 2, none⟩) hbk (.slice A4 n2 c4))
      clear hR4 hb4 hb5 h13 hset ho hA t0 t1 t2 HT4
      have HM := Aside0.mk (show kM.M (w4.setCell ⟨wr.heap.size, 2, none⟩ (.slice A4 n2 c4)) w.heap.size (fun k => wr.heap.size < k) (some x) [.string x.f0, .string x.f1, .slice A4 n2 c4] from hn2 ▸ k39s_mkM _ _ _ x (hn2 ▸ HR6.out))
      go_wp2_with (at_builtin; refine Kd.R_append kM (w0 := w) (W := w4.setCell ⟨wr.heap.size, 2, none⟩ (.slice A4 n2 c4)) w.heap.size rfl (.tmp 20) (.tmp 22) 23 39 (.agg #[.string ⟨#[]⟩, .string ⟨#[]⟩, .slice none 0 0]) 56 rfl Tryd.underlying23 info39 rfl (by decide) (by decide) (.slice A5 L.length c5) L (some x) [.string x.f0, .string x.f1, .slice A4 n2 c4] (fun _ => True) (fun k => wr.heap.size < k) rfl (show Value.slice (some ⟨w4.heap.size, 0, none⟩) 1 1 = _ by simp) HM.out (fun k hk => ⟨trivial, fun h => by have := hlt5.out k h.symm; omega⟩) (fun _ _ => trivial) HA6.out HB6.out (by simp; omega) (by have := HLL.out; omega) ?_; intro v3 w3 ho hb3 hg3 hat3; have HO3 := Aside0.mk ho; have HB7 := Aside0.mk hb3; clear ho hb3 hg3 hat3)
      go_roundg (gk - 1)
      case measure => have := hq.out; omega
      case rel => exact ⟨k + 1, by omega, by go_num, ⟨by have := hq.out; omega⟩, ⟨by rw [HF.out]; exact HO3.out⟩, HB7⟩
    · obtain rfl : k = n := by omega
      have HTK := Aside0.mk (show l.take k = l from List.take_of_length_le (by have := NN.out; omega))
      rw [HTK.out] at hA hlen
      rw [HTK.out]
      have hA2 := Aside0.mk (hlen ▸ hA.out : Kd.R kM 39 wr w.heap.size (fun _ => True) (.slice A5 k c5) (l.map some))
      rw [hlen]
      have HLL := Aside0.mk hlen
      clear hA hlen
      go_wp2_with (at_builtin; refine Kd.R_append kM (w0 := w) (W := wr) w.heap.size rfl (.tmp 24) (.tmp 26) 23 39 (.agg #[.string ⟨#[]⟩, .string ⟨#[]⟩, .slice none 0 0]) 56 rfl Tryd.underlying23 info39 rfl (by decide) (by decide) (.slice A5 k c5) (l.map some) none markC (fun _ => True) (fun _ => False) rfl rfl rfl (fun _ h => h.elim) (fun _ _ => trivial) hA2.out hb.out hb.out.size (by have := HLL.out; omega) ?_; intro v3 w3 ho hb3 hg3 hat3; obtain ⟨A6, c6, rfl⟩ := Kd.R_slice ho; rw [List.length_append, HLL.out, List.length_singleton] at ho ⊢; have hz2 := (Kd.R_reads' ho).2.1; have HO3 := Aside0.mk ho; have HB7 := Aside0.mk hb3; clear ho hb3 hg3 hat3)
      go_ret
      exact ⟨A6, c6, rfl, HO3.out, HB7.out⟩
end Go.Proofs.YtghjinhgloegaaaDoor

namespace Go.Proofs.YtghjinhgloegaaaDoor
open Go.RowKit Go.Proofs.YtghjinhgloegaaaDoorW.PrintWords
set_option linter.unusedVariables false
set_option linter.unusedSimpArgs false

/-- The entry copied: its key and its attributes, each list with a mark behind it. -/
structure Mine (w : World) (A2 : Option Addr) (n2 c2 : Nat) (key : List ByteArray) (A3 : Option Addr) (n3 c3 : Nat) (l : List S39) : Prop where
  key : Kd.C Kd.string w A2 (n2 + 1) (key ++ [spareB])
  kcap : n2 + 1 ≤ c2
  attrs : Kd.C kM w A3 (n3 + 1) (l.map some ++ [none])
  acap : n3 + 1 ≤ c3
theorem Mine.below {w w1 : World} {A2 : Option Addr} {n2 c2 : Nat} {key : List ByteArray} {A3 : Option Addr} {n3 c3 : Nat} {l : List S39} (h : Mine w A2 n2 c2 key A3 n3 c3 l) (hb : Below w.heap.size w w1) : Mine w1 A2 n2 c2 key A3 n3 c3 l := ⟨Kd.C_below h.key hb, h.kcap, Kd.C_below h.attrs hb, h.acap⟩
theorem Mine.alloc {w : World} {A2 : Option Addr} {n2 c2 : Nat} {key : List ByteArray} {A3 : Option Addr} {n3 c3 : Nat} {l : List S39} (h : Mine w A2 n2 c2 key A3 n3 c3 l) (o : Obj) : Mine (w.alloc o) A2 n2 c2 key A3 n3 c3 l := h.below ((Below.refl _ _).alloc (Nat.le_refl _) _)
/-- A row with its last element left off. -/
theorem C_front {α : Type} {d : Kd α} {w : World} {A : Option Addr} {n : Nat} {l : List α} {z : α} (h : d.C w A (n + 1) (l ++ [z])) : d.C w A n l := by
  have hl : l.length = n := by have := h.1; simp at this; exact this
  have h2 := Kd.C_take (m := n) (k := d) (w := w) (A := A) (xs := l ++ [z]) (by rw [h.1]; exact h) (by rw [h.1]; omega)
  rw [show (l ++ [z]).take n = l by rw [← hl]; exact List.take_left, hl] at h2
  exact h2
theorem C_some {w : World} {A : Option Addr} {n : Nat} {l : List S39} (h : Kd.C kM w A n (l.map some)) : Kd.C k39 w A n l := by
  refine ⟨by rw [← h.1, List.length_map], h.2.1, fun hn => ?_⟩
  obtain ⟨ad, e, hc⟩ := h.2.2 hn
  refine ⟨ad, e, fun j q hj => ?_⟩
  obtain ⟨c, h1, h2, h3⟩ := hc j (some q) (by rw [List.getElem?_map, hj]; rfl)
  obtain ⟨A2, c2, rfl, hl, hC⟩ := k39s_open h2
  exact ⟨_, rfl, k39_mk w q (by omega) (C_front hC), h3⟩
theorem Mine.plain {w : World} {A2 : Option Addr} {n2 c2 : Nat} {key : List ByteArray} {A3 : Option Addr} {n3 c3 : Nat} {l : List S39} (h : Mine w A2 n2 c2 key A3 n3 c3 l) : Kd.C k39 w A3 n3 l := C_some (C_front h.attrs)
def MinePost (w : World) (line : Int) (name : ByteArray) (n2 n3 : Nat) (key : List ByteArray) (l : List S39) (e : Ending) (w' : World) : Prop := ∃ A2 c2 A3 c3, e = .returned (.agg #[.int .i64 line, .string name, .slice A2 n2 c2, .slice A3 n3 c3]) ∧ Mine w' A2 n2 c2 key A3 n3 c3 l ∧ Below w.heap.size w w'
set_option maxHeartbeats 8000000 in
set_option maxRecDepth 100000 in
theorem copyEntry2_calls (line : Int) (name : ByteArray) (K1 : Option Addr) (n1 c1 : Nat) (key : List ByteArray) (AA : Option Addr) (n c : Nat) (l : List S39) (w : World) (h2 : Kd.C Kd.string w K1 n1 key) (h3 : Kd.C k39 w AA n l) (hk : n1 ≤ 1000000000) (hs : Small l) :
    Calls Tryd.prog 7 #[.agg #[.int .i64 line, .string name, .slice K1 n1 c1, .slice AA n c]] w (MinePost w line name n1 n key l) := by
  have hu25 := Tryd.underlying25
  have HK := Aside0.mk h2
  have HA := Aside0.mk h3
  have HS := Aside0.mk hs
  clear h2 h3 hs
  go_enter Tryd.func7, Tryd.ntmps7
  go_wp2_with fail
  obtain ⟨hz0, hz1⟩ := two_new w (.cells #[.int .i64 line, .string name, .slice K1 n1 c1, .slice AA n c] 25) (.cells #[.int .i64 0, .string ⟨#[]⟩, .slice none 0 0, .slice none 0 0] 25)
  have hb0 : Below w.heap.size w ((w.alloc (.cells #[.int .i64 line, .string name, .slice K1 n1 c1, .slice AA n c] 25)).alloc (.cells #[.int .i64 0, .string ⟨#[]⟩, .slice none 0 0, .slice none 0 0] 25)) := ((Below.refl w.heap.size w).alloc (Nat.le_refl _) _).alloc (by simp) _
  have hsz : ((w.alloc (.cells #[.int .i64 line, .string name, .slice K1 n1 c1, .slice AA n c] 25)).alloc (.cells #[.int .i64 0, .string ⟨#[]⟩, .slice none 0 0, .slice none 0 0] 25)).heap.size = w.heap.size + 2 := by simp
  refine (roomy2_calls key K1 n1 c1 _ (Kd.C_below HK.out hb0) hk).mono ?_
  rintro ee w3 ⟨A2, c2, rfl, ho⟩
  have hr3 := ho.1
  rw [hsz] at hr3
  have hcap2 := ho.cap
  have h0 : w.heap.size < w.heap.size + 2 := by omega
  have h1 : w.heap.size + 1 < w.heap.size + 2 := by omega
  have k0 := blk_below hz0 ho.2
  have k1 := blk_below hz1 ho.2
  have q2 := blk_cell k0 2
  have qf := blk_frozen k0 2
  have hb3 := hb0.trans (ho.2.mono hb0.size)
  have hr4 := Aside0.mk (R_setLow hr3 h0 2 (.slice A2 n1 c2))
  have k0' := blk_set k0 2 (.slice A2 n1 c2)
  have k1' := blk_far k1 (p := ⟨w.heap.size, 2, none⟩) (by simp) (.slice A2 n1 c2)
  have hb4 := hb3.setCell (p := ⟨w.heap.size, 2, none⟩) (Nat.le_refl _) (.slice A2 n1 c2)
  have hsz4 : w.heap.size + 2 ≤ (w3.setCell ⟨w.heap.size, 2, none⟩ (.slice A2 n1 c2)).heap.size := by have := ho.2.size; rw [hsz] at this; simpa using this
  have q3 : w3.cell? ⟨w.heap.size, 3, none⟩ = some (.slice AA n c) := blk_cell k0 3
  clear hz0 hz1 hb0 hsz hr3 hb3 ho k0 k1
  go_wp2_with fail
  clear q2 qf q3
  generalize w3.setCell ⟨w.heap.size, 2, none⟩ (.slice A2 n1 c2) = W at hr4 k0' k1' hb4 hsz4 ⊢
  refine (copyAttrs2_calls l AA n c W (Kd.C_below HA.out hb4) HS.out).mono ?_
  rintro ee w5 ⟨A3, c3, rfl, hr5, hb5⟩
  have hr4b := Kd.R_below hr4.out hb5
  have j0 := blk_below k0' hb5
  have j1 := blk_below k1' hb5
  have hb6 := hb4.trans (hb5.mono (by omega))
  have q0 : w5.cell? ⟨w.heap.size, 0, none⟩ = some (.int .i64 line) := blk_cell j0 0
  have q1 : w5.cell? ⟨w.heap.size, 1, none⟩ = some (.string name) := blk_cell j0 1
  have q2 : w5.cell? ⟨w.heap.size, 2, none⟩ = some (.slice A2 n1 c2) := blk_cell j0 2
  have q3 : w5.cell? ⟨w.heap.size, 3, none⟩ = some (.slice AA n c) := blk_cell j0 3
  have qf := blk_frozen j0
  have p0 := blk_cell j1 0; have p1 := blk_cell j1 1; have p2 := blk_cell j1 2; have p3 := blk_cell j1 3
  have pf := blk_frozen j1
  have hcap3 := (Kd.R_reads' hr5).2.1
  have HR4 := Aside0.mk hr4b
  have HR5 := Aside0.mk hr5
  have J0 := Aside0.mk j0
  have J1 := Aside0.mk j1
  have HB6 := Aside0.mk hb6
  have HSZ4 := Aside0.mk hsz4
  have HH0 := Aside0.mk h0
  have HH1 := Aside0.mk h1
  clear hr4 hr5 hr4b j0 j1 hb6 k0' k1' hb4 hb5 hsz4 h0 h1
  go_wp2_with fail
  have h0 := HH0.out
  have h1 := HH1.out
  have h0' : w.heap.size < W.heap.size := by have := HSZ4.out; omega
  have h1' : w.heap.size + 1 < W.heap.size := by have := HSZ4.out; omega
  have hB := blk_set (blk_set (blk_set (blk_set (blk_far J1.out (p := ⟨w.heap.size, 3, none⟩) (by simp) (.slice A3 n c3)) 0 (.int .i64 line)) 1 (.string name)) 2 (.slice A2 n1 c2)) 3 (.slice A3 n c3)
  refine bodyPost_ret (results_cell_row rfl _ _ (w.heap.size + 1) 25 _ (0, 0) _ rfl hB hu25 rfl (by kernel_rfl)) rfl ?_
  have e1 := R_setLow (R_setLow (R_setLow (R_setLow (R_setLow HR4.out h0 3 (.slice A3 n c3)) h1 0 (.int .i64 line)) h1 1 (.string name)) h1 2 (.slice A2 n1 c2)) h1 3 (.slice A3 n c3)
  have e2 := R_setLow (R_setLow (R_setLow (R_setLow (R_setLow HR5.out h0' 3 (.slice A3 n c3)) h1' 0 (.int .i64 line)) h1' 1 (.string name)) h1' 2 (.slice A2 n1 c2)) h1' 3 (.slice A3 n c3)
  obtain ⟨e11, e12, e13⟩ := Kd.R_reads' e1
  obtain ⟨e21, e22, e23⟩ := Kd.R_reads' e2
  have hl : w.heap.size ≤ w.heap.size + 1 := by omega
  exact ⟨A2, c2, A3, c3, rfl, ⟨by rw [e11]; exact e13, e12, by rw [e21]; exact e23, e22⟩, ((((HB6.out.setCell (Nat.le_refl _) _).setCell hl _).setCell hl _).setCell hl _).setCell hl _⟩
/-! spared -/
set_option maxHeartbeats 8000000 in
set_option maxRecDepth 100000 in
theorem spared_calls (l : List ByteArray) (A : Option Addr) (n c : Nat) (w : World) (h : Kd.C Kd.string w A (n + 1) (l ++ [spareB])) (hc : n + 1 ≤ c) (hn : n ≤ 1000000000) : Calls Tryd.prog 18 #[.slice A n c] w fun e w' => e = .returned (.bool true) ∧ w' = w := by
  obtain ⟨ad, rfl, q⟩ := str_at h n (by omega)
  have hl : l.length = n := by have := h.1; simp at this; exact this
  have q2 : w.cell? (ad.add n) = some (.string spareB) := by
    rw [q]
    congr 2
    rw [List.getD_eq_getElem?_getD, List.getElem?_append_right (by omega), hl, Nat.sub_self]; rfl
  have hsp : (spareB.toList == [115, 112, 97, 114, 101, 32, 114, 111, 111, 109]) = true := by rw [ByteArray.toList_eq]; rfl
  clear h q hl
  go_enter Tryd.func18, Tryd.ntmps18
  go_wp2_with fail
  go_ret
  exact ⟨rfl, rfl⟩
/-! attrsSpared -/
theorem at_m {w : World} {A : Option Addr} {n : Nat} {l : List S39} (h : Kd.C kM w A (n + 1) (l.map some ++ [none])) (k : Nat) (x : S39) (hx : l[k]? = some x) :
    ∃ ad A2 n2 c2, A = some ad ∧ w.cell? ⟨(ad.add (k * 3)).block, (ad.add (k * 3)).off + 2, none⟩ = some (.slice A2 n2 c2) ∧ n2 = x.f2.length ∧ n2 + 1 ≤ c2 ∧ Kd.C Kd.string w A2 (n2 + 1) (x.f2 ++ [spareB]) := by
  obtain ⟨ad, e, hc⟩ := h.2.2 (by omega)
  obtain ⟨hk, rfl⟩ := List.getElem?_eq_some_iff.1 hx
  obtain ⟨c, h1, h2, h3⟩ := hc k (some l[k]) (by rw [List.getElem?_append_left (by rw [List.length_map]; exact hk), List.getElem?_map, hx]; rfl)
  obtain ⟨A2, c2, rfl, hl, hC⟩ := k39s_open h2
  exact ⟨ad, A2, _, c2, e, by rw [← add_field _ _ 2 (by omega)]; exact h3 2 _ rfl, rfl, hl, hC⟩
theorem at_mark {w : World} {A : Option Addr} {n : Nat} {l : List S39} (h : Kd.C kM w A (n + 1) (l.map some ++ [none])) :
    ∃ ad, A = some ad ∧ w.cell? (ad.add (n * 3)) = some (.string spareB) := by
  obtain ⟨ad, e, hc⟩ := h.2.2 (by omega)
  have hl : (l.map some).length = n := by have := h.1; rw [List.length_append, List.length_singleton] at this; omega
  obtain ⟨c, h1, h2, h3⟩ := hc n none (by rw [List.getElem?_append_right (by omega), hl, Nat.sub_self]; rfl)
  have h2' : c = markC := h2
  subst h2'
  exact ⟨ad, e, h3 0 _ rfl⟩
set_option maxHeartbeats 8000000 in
set_option maxRecDepth 100000 in
theorem attrsSpared_calls (l : List S39) (A : Option Addr) (n c : Nat) (B : Option Addr) (d : Nat) (w : World) (h : Kd.C kM w A (n + 1) (l.map some ++ [none])) (hc : n + 1 ≤ c) (hB : Kd.C k39 w B n l) (hd : n ≤ d) (hs : Small l) :
    Calls Tryd.prog 27 #[.slice A n c, .slice B n d] w (CovPost w true) := by
  have hnn : n ≤ 100000000 := hB.1 ▸ hs.len
  have NN := Aside0.mk hB.1
  have HM := Aside0.mk h
  have HB := Aside0.mk hB
  have HS := Aside0.mk hs
  have hu39 := Tryd.underlying39
  have hsp : (spareB.toList == [115, 112, 97, 114, 101, 32, 114, 111, 111, 109]) = true := by rw [ByteArray.toList_eq]; rfl
  clear h hB hs
  go_enter Tryd.func27, Tryd.ntmps27
  go_wp2_with fail
  refine (same_calls A n c B n d l l w (C_some (C_front HM.out)) (by omega) HB.out hd rfl HS.out).mono ?_
  rintro ee w2 ⟨rfl, hb2⟩
  have HM2 := Aside0.mk (Kd.C_below HM.out hb2)
  have HB2 := Aside0.mk hb2
  clear hb2
  go_wp2_with fail
  go_loopg [5] n (fun kq v wr => ∃ k : Nat, k ≤ n ∧ v = .int .i64 k ∧ Aside0 (kq + k = n) ∧ wr = w2)
  case atStart => exact ⟨0, Nat.zero_le _, rfl, ⟨rfl⟩, rfl⟩
  case round =>
    obtain ⟨k, hk, rfl, hq, rfl⟩ := hrel
    by_cases hlt : k < n
    · have hka : k < l.length := by have := NN.out; omega
      obtain ⟨x, hx⟩ : ∃ x, l[k]? = some x := ⟨_, List.getElem?_eq_getElem hka⟩
      obtain ⟨ad, A2, n2, c2, rfl, t2, hn2, hc2, hC⟩ := at_m HM2.out k x hx
      have HC := Aside0.mk hC
      have HX := Aside0.mk (HS.out.each x (List.mem_of_getElem? hx))
      have HN2 := Aside0.mk hn2
      clear hC hka hx hn2
      go_wp2_with fail
      refine (spared_calls x.f2 A2 n2 c2 _ HC.out hc2 (by have := HX.out.2; have := HN2.out; omega)).mono ?_
      rintro ee w3 ⟨rfl, rfl⟩
      go_wp2
      go_roundg (gk - 1)
      case measure => have := hq.out; omega
      case rel => exact ⟨k + 1, by omega, by go_num, ⟨by have := hq.out; omega⟩, rfl⟩
    · obtain rfl : k = n := by omega
      obtain ⟨ad, rfl, q⟩ := at_mark HM2.out
      go_wp2
      go_ret
      exact ⟨rfl, HB2.out⟩
/-! sameEntry, entrySpared -/
theorem sameEntry_calls (line : Int) (name : ByteArray) (key : List ByteArray) (l : List S39) (A2 : Option Addr) (n2 c2 : Nat) (A3 : Option Addr) (n3 c3 : Nat) (B2 : Option Addr) (d2 : Nat) (B3 : Option Addr) (d3 : Nat) (w : World)
    (h2 : Kd.C Kd.string w A2 n2 key) (g2 : n2 ≤ c2) (h3 : Kd.C k39 w A3 n3 l) (g3 : n3 ≤ c3) (k2 : Kd.C Kd.string w B2 n2 key) (e2 : n2 ≤ d2) (k3 : Kd.C k39 w B3 n3 l) (e3 : n3 ≤ d3) (hk : n2 ≤ 1000000000) (hs : Small l) :
    Calls Tryd.prog 28 #[.agg #[.int .i64 line, .string name, .slice A2 n2 c2, .slice A3 n3 c3], .agg #[.int .i64 line, .string name, .slice B2 n2 d2, .slice B3 n3 d3]] w (CovPost w true) := by
  obtain rfl : key.length = n2 := h2.1
  obtain rfl : l.length = n3 := h3.1
  refine rosterlaw08_sameEntry.calls 2000000000 line name A2 c2 key A3 c3 l line name B2 d2 key B3 d3 l true w h2 g2 h3 g3 k2 e2 k3 e3 ?_
  unfold rosterlaw08_sameEntry.f
  obtain ⟨r, h1, h4⟩ := sameTexts_f key key hk 2000000000 (by omega)
  rw [if_pos rfl, if_pos rfl, h1, h4 rfl, Option.bind_some, if_pos rfl, sameAttrs_f l hs]; rfl
set_option maxHeartbeats 8000000 in
set_option maxRecDepth 100000 in
theorem entrySpared_calls (line : Int) (name : ByteArray) (key : List ByteArray) (l : List S39) (A2 : Option Addr) (n2 c2 : Nat) (A3 : Option Addr) (n3 c3 : Nat) (B2 : Option Addr) (d2 : Nat) (B3 : Option Addr) (d3 : Nat) (w : World)
    (hm : Mine w A2 n2 c2 key A3 n3 c3 l) (k2 : Kd.C Kd.string w B2 n2 key) (e2 : n2 ≤ d2) (k3 : Kd.C k39 w B3 n3 l) (e3 : n3 ≤ d3) (hk : n2 ≤ 1000000000) (hs : Small l) :
    Calls Tryd.prog 13 #[.agg #[.int .i64 line, .string name, .slice A2 n2 c2, .slice A3 n3 c3], .agg #[.int .i64 line, .string name, .slice B2 n2 d2, .slice B3 n3 d3]] w (CovPost w true) := by
  have hu25 := Tryd.underlying25
  have HM := Aside0.mk hm
  have HK2 := Aside0.mk k2
  have HK3 := Aside0.mk k3
  have HS := Aside0.mk hs
  have hc3 := hm.acap
  have hc2 := hm.kcap
  clear hm k2 k3 hs
  go_enter Tryd.func13, Tryd.ntmps13
  go_wp2_with fail
  have hb := ((Below.refl w.heap.size w).alloc (Nat.le_refl _) (.cells #[.int .i64 line, .string name, .slice A2 n2 c2, .slice A3 n3 c3] 25)).alloc (by simp) (.cells #[.int .i64 line, .string name, .slice B2 n2 d2, .slice B3 n3 d3] 25)
  obtain ⟨hz0, hz1⟩ := two_new w (.cells #[.int .i64 line, .string name, .slice A2 n2 c2, .slice A3 n3 c3] 25) (.cells #[.int .i64 line, .string name, .slice B2 n2 d2, .slice B3 n3 d3] 25)
  generalize (w.alloc (.cells #[.int .i64 line, .string name, .slice A2 n2 c2, .slice A3 n3 c3] 25)).alloc (.cells #[.int .i64 line, .string name, .slice B2 n2 d2, .slice B3 n3 d3] 25) = W at hb hz0 hz1 ⊢
  refine (attrsSpared_calls l A3 n3 c3 B3 d3 W (HM.out.below hb).attrs hc3 (Kd.C_below HK3.out hb) e3 HS.out).mono ?_
  rintro ee w2 ⟨rfl, hb2⟩
  have j0 := blk_below hz0 hb2
  have j1 := blk_below hz1 hb2
  have HB2 := Aside0.mk (hb.trans (hb2.mono hb.size))
  have J0 := Aside0.mk j0
  have J1 := Aside0.mk j1
  obtain ⟨q0, q1, q2, q3⟩ := cells4 j0
  obtain ⟨p0, p1, p2, p3⟩ := cells4 j1
  clear hz0 hz1 hb2 hb j0 j1
  go_wp2_with fail
  refine (sameEntry_calls line name key l A2 n2 c2 A3 n3 c3 B2 d2 B3 d3 w2 (C_front (HM.out.below HB2.out).key) (by omega) (HM.out.below HB2.out).plain (by omega) (Kd.C_below HK2.out HB2.out) e2 (Kd.C_below HK3.out HB2.out) e3 hk HS.out).mono ?_
  rintro ee w3 ⟨rfl, hb3⟩
  have HB3 := Aside0.mk (HB2.out.trans (hb3.mono HB2.out.size))
  clear q0 q1 q2 q3 p0 p1 p2 p3
  obtain ⟨q0, q1, q2, q3⟩ := cells4 (blk_below J0.out hb3)
  clear hb3
  go_wp2_with fail
  refine (spared_calls key A2 n2 c2 w3 (HM.out.below HB3.out).key hc2 hk).mono ?_
  rintro ee w4 ⟨rfl, rfl⟩
  go_wp2
  go_ret
  exact ⟨rfl, HB3.out⟩
end Go.Proofs.YtghjinhgloegaaaDoor

