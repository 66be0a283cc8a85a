/- EntryAll: the walk: the Go statement answers true for every entry within its bounds, from every world that holds the entry. -/
import Derived.Test.YtghjinhgloegaaaDoorSelf
namespace Go.Proofs.YtghjinhgloegaaaDoor
open Go.RowKit Go.Proofs.YtghjinhgloegaaaDoorW.PrintWords Go.Proofs.YtghjinhgloegaaaDoorW.PrintLast
set_option linter.unusedVariables false
set_option linter.unusedSimpArgs false

theorem ca_calls (A : Option Addr) (n c : Nat) (l : List S39) (w : World) (h : Kd.C k39 w A n l) (g : n ≤ c) (hs : Small l) : Calls Tryd.prog 21 #[.slice A n c] w (AtPost w l) := by
  obtain rfl : l.length = n := h.1
  refine (rosterlaw08_copyAttrs.calls 2000000000 A c l l w h g (copyAttrs_f l hs _ (by have := hs.len; omega))).mono ?_
  rintro e w' ⟨v, rfl, hr, hb⟩
  obtain ⟨A, c, rfl, hc, hC⟩ := Kd.S_reads hr
  exact ⟨A, _, c, rfl, hc, hC, hb⟩

set_option maxHeartbeats 16000000 in
set_option maxRecDepth 100000 in
theorem law_All (line : Int) (name : ByteArray) (K1 : Option Addr) (nk c1 : Nat) (key : List ByteArray) (AA : Option Addr) (n ca : Nat) (attrs : List S39) (ty : Bool) (w : World)
    (hK : Kd.C Kd.string w K1 nk key) (gK : nk ≤ c1) (sK : key.length ≤ 1000000000) (hA : Kd.C k39 w AA n attrs) (gA : n ≤ ca) (sA : Small attrs) (sC : ∀ x ∈ attrs, x.f1.size ≤ 2000000) (hm : MaxAt w) :
    Calls Tryd.prog 6 #[.agg #[.int .i64 line, .string name, .slice K1 nk c1, .slice AA n ca], .bool ty] w (CovPost w true) := by
  have hu39 := Tryd.underlying39
  have hu25 := Tryd.underlying25
  have hal : n ≤ 100000000 := hA.1 ▸ sA.len
  have NN := Aside0.mk hA.1
  have HK := Aside0.mk hK
  have GK := Aside0.mk gK
  have SK := Aside0.mk sK
  have HA := Aside0.mk hA
  have SA := Aside0.mk sA
  have SC := Aside0.mk sC
  have HM := Aside0.mk hm
  clear hK gK sK hA sA sC hm
  go_enter Tryd.func6, Tryd.ntmps6
  go_wp2_with fail
  have C1 := Aside0.mk (show Below w.heap.size w (w.alloc (.cells #[.int .i64 line, .string name, .slice K1 nk c1, .slice AA n ca] 25)) ∧ (w.alloc (.cells #[.int .i64 line, .string name, .slice K1 nk c1, .slice AA n ca] 25)).heap[w.heap.size]? = some (.cells #[.int .i64 line, .string name, .slice K1 nk c1, .slice AA n ca] 25 (0, 0)) from ⟨(Below.refl _ _).alloc (Nat.le_refl _) _, blk_new _ _⟩)
  refine (ce_calls line name K1 nk c1 key AA n ca attrs _ (Kd.C_alloc HK.out _) GK.out (Kd.C_alloc HA.out _) gA SK.out SA.out).mono ?_
  rintro ee w2 ⟨A2, c2, A3, c3, rfl, g3, h3, hb3⟩
  have C2 := Aside0.mk (carry C1.out.1 C1.out.2 hb3)
  have H3 := Aside0.mk (Kd.C_alloc h3 (.cells #[.string ⟨#[42]⟩, .string ⟨#[43]⟩] 9))
  clear C1 h3 hb3
  go_wp2_with fail
  refine (sel_calls line name A2 nk c2 attrs A3 n c3 [⟨#[42]⟩, ⟨#[43]⟩] _ 2 2 ty _ H3.out (C_two _ _ _) SA.out (SmallW.two (by decide) (by decide)) ((HM.out.below C2.out.1).alloc _)).mono ?_
  rintro ee w4 ⟨A4, n4, c4, rfl, g4, h4, hb4⟩
  have C4 := Aside0.mk (carry C2.out.1 C2.out.2 (((Below.refl _ _).alloc (Nat.le_refl _) _).trans (hb4.mono (by simp))))
  have H4 := Aside0.mk h4
  have q3 : w4.cell? ⟨w.heap.size, 3, none⟩ = some (.slice AA n ca) := blk_cell C4.out.2 3
  clear H3 C2 h4 hb4
  go_wp2_with fail
  refine (strip_calls AA n ca attrs ty w4 (Kd.C_below HA.out C4.out.1) gA SA.out).mono ?_
  rintro ee w5 ⟨A5, n5, c5, rfl, g5, h5, hb5⟩
  have C5 := Aside0.mk (carry C4.out.1 C4.out.2 hb5)
  have H45 := Aside0.mk (Kd.C_below H4.out hb5)
  have H5 := Aside0.mk h5
  have hn5 : n5 = n := by have h1 := h5.1; rw [List.length_map] at h1; have := NN.out; omega
  subst hn5
  clear C4 H4 q3 h5 hb5
  go_wp2_with fail
  refine (same_calls A4 n4 c4 A5 n5 c5 _ _ w5 H45.out g4 H5.out g5 (selF_star_plus attrs ty) (SA.out.sel _ _)).mono ?_
  rintro ee w6 ⟨rfl, hb6⟩
  have C6 := Aside0.mk (carry C5.out.1 C5.out.2 hb6)
  have HW6 := Aside0.mk (Kd.C_below H5.out hb6)
  obtain ⟨q0, q1, q2, q3⟩ := cells4 C6.out.2
  clear H45 H5 C5 hb6
  go_wp2_with fail
  refine (ce_calls line name K1 nk c1 key AA n5 ca attrs w6 (Kd.C_below HK.out C6.out.1) GK.out (Kd.C_below HA.out C6.out.1) gA SK.out SA.out).mono ?_
  rintro ee w7 ⟨A7, c7, A7', c7', rfl, g7, h7, hb7⟩
  have C7 := Aside0.mk (carry C6.out.1 C6.out.2 hb7)
  have H7 := Aside0.mk h7
  have HW7 := Aside0.mk (Kd.C_below HW6.out hb7)
  clear q0 q1 q2 q3 h7 hb7 C6 HW6
  go_wp2_with fail
  refine (sel_calls line name A7 nk c7 attrs A7' n5 c7' [] none 0 0 ty _ H7.out (Kd.C_nil _ _) SA.out ⟨by simp, fun x hx => by cases hx⟩ (HM.out.below C7.out.1)).mono ?_
  rintro ee w8 ⟨A8, n8, c8, rfl, g8, h8, hb8⟩
  have hbb : Below w7.heap.size w7 w8 := hb8
  have C8 := Aside0.mk (carry C7.out.1 C7.out.2 hbb)
  have H8 := Aside0.mk h8
  have HW8 := Aside0.mk (Kd.C_below HW7.out hbb)
  obtain ⟨q0, q1, q2, q3⟩ := cells4 C8.out.2
  clear h8 hb8 hbb C7 H7 HW7
  go_wp2_with fail
  refine (ce_calls line name K1 nk c1 key AA n5 ca attrs w8 (Kd.C_below HK.out C8.out.1) GK.out (Kd.C_below HA.out C8.out.1) gA SK.out SA.out).mono ?_
  rintro ee w9 ⟨A9, c9, A9', c9', rfl, g9, h9, hb9⟩
  have C9 := Aside0.mk (carry C8.out.1 C8.out.2 hb9)
  have H9 := Aside0.mk h9
  have HW9 := Aside0.mk (Kd.C_below HW8.out hb9)
  have K9 := Aside0.mk (Kd.C_below H8.out hb9)
  clear q0 q1 q2 q3 h9 hb9 C8 HW8 H8
  go_wp2_with fail
  refine (sel_calls line name A9 nk c9 attrs A9' n5 c9' [⟨#[42]⟩] _ 1 1 ty _ (Kd.C_alloc H9.out _) (C_single _ _) SA.out (SmallW.one (by decide)) ((HM.out.below C9.out.1).alloc _)).mono ?_
  rintro ee w10 ⟨A10, n10, c10, rfl, g10, h10, hb10⟩
  have hbb : Below w9.heap.size w9 w10 := (((Below.refl _ _).alloc (Nat.le_refl _) _).trans (hb10.mono (by simp)))
  have C10 := Aside0.mk (carry C9.out.1 C9.out.2 hbb)
  have H10 := Aside0.mk h10
  have HW10 := Aside0.mk (Kd.C_below HW9.out hbb)
  obtain ⟨q0, q1, q2, q3⟩ := cells4 C10.out.2
  have K10 := Aside0.mk (Kd.C_below K9.out hbb)
  clear h10 hb10 hbb C9 H9 HW9 K9
  go_wp2_with fail
  refine (ce_calls line name K1 nk c1 key AA n5 ca attrs w10 (Kd.C_below HK.out C10.out.1) GK.out (Kd.C_below HA.out C10.out.1) gA SK.out SA.out).mono ?_
  rintro ee w11 ⟨A11, c11, A11', c11', rfl, g11, h11, hb11⟩
  have C11 := Aside0.mk (carry C10.out.1 C10.out.2 hb11)
  have H11 := Aside0.mk h11
  have HW11 := Aside0.mk (Kd.C_below HW10.out hb11)
  have K11 := Aside0.mk (Kd.C_below K10.out hb11)
  have U11 := Aside0.mk (Kd.C_below H10.out hb11)
  clear q0 q1 q2 q3 h11 hb11 C10 HW10 H10 K10
  go_wp2_with fail
  refine (sel_calls line name A11 nk c11 attrs A11' n5 c11' [⟨#[43]⟩, ⟨#[49, 46, 49]⟩] _ 2 2 ty _ (Kd.C_alloc H11.out _) (C_two _ _ _) SA.out (SmallW.two (by decide) (by decide)) ((HM.out.below C11.out.1).alloc _)).mono ?_
  rintro ee w12 ⟨A12, n12, c12, rfl, g12, h12, hb12⟩
  have hbb : Below w11.heap.size w11 w12 := (((Below.refl _ _).alloc (Nat.le_refl _) _).trans (hb12.mono (by simp)))
  have C12 := Aside0.mk (carry C11.out.1 C11.out.2 hbb)
  have H12 := Aside0.mk h12
  have HW12 := Aside0.mk (Kd.C_below HW11.out hbb)
  obtain ⟨q0, q1, q2, q3⟩ := cells4 C12.out.2
  have K12 := Aside0.mk (Kd.C_below K11.out hbb)
  have U12 := Aside0.mk (Kd.C_below U11.out hbb)
  have hsh : n10 + n12 = n5 := by have h1 := U12.out.1; have h2 := h12.1; have h3 := selF_share attrs ty; have := NN.out; omega
  clear h12 hb12 hbb C11 H11 HW11 K11 U11 H12
  go_wp2_with fail
  refine (ce_calls line name K1 nk c1 key AA n5 ca attrs w12 (Kd.C_below HK.out C12.out.1) GK.out (Kd.C_below HA.out C12.out.1) gA SK.out SA.out).mono ?_
  rintro ee w13 ⟨A13, c13, A13', c13', rfl, g13, h13, hb13⟩
  have C13 := Aside0.mk (carry C12.out.1 C12.out.2 hb13)
  have H13 := Aside0.mk h13
  have HW13 := Aside0.mk (Kd.C_below HW12.out hb13)
  have K13 := Aside0.mk (Kd.C_below K12.out hb13)
  have U13 := Aside0.mk (Kd.C_below U12.out hb13)
  clear q0 q1 q2 q3 h13 hb13 C12 HW12 K12 U12
  go_wp2_with fail
  refine (sel_calls line name A13 nk c13 attrs A13' n5 c13' [⟨#[49, 46, 49]⟩] _ 1 1 ty _ (Kd.C_alloc H13.out _) (C_single _ _) SA.out (SmallW.one (by decide)) ((HM.out.below C13.out.1).alloc _)).mono ?_
  rintro ee w14 ⟨A14, n14, c14, rfl, g14, h14, hb14⟩
  have hbb : Below w13.heap.size w13 w14 := (((Below.refl _ _).alloc (Nat.le_refl _) _).trans (hb14.mono (by simp)))
  have C14 := Aside0.mk (carry C13.out.1 C13.out.2 hbb)
  have H14 := Aside0.mk h14
  have HW14 := Aside0.mk (Kd.C_below HW13.out hbb)
  obtain ⟨q0, q1, q2, q3⟩ := cells4 C14.out.2
  have K14 := Aside0.mk (Kd.C_below K13.out hbb)
  have U14 := Aside0.mk (Kd.C_below U13.out hbb)
  obtain rfl : n14 = 0 := by have h1 := h14.1; rw [selF_none] at h1; exact h1.symm
  clear q0 q1 q2 q3 h14 hb14 hbb C13 H13 HW13 K13 U13 H14
  go_wp2_with fail
  refine (same_calls A8 n8 c8 A10 n10 c10 _ _ w14 K14.out g8 U14.out g10 (selF_nothing attrs ty) (SA.out.sel _ _)).mono ?_
  rintro ee w15 ⟨rfl, hb15⟩
  have C15 := Aside0.mk (carry C14.out.1 C14.out.2 hb15)
  have HW15 := Aside0.mk (Kd.C_below HW14.out hb15)
  clear hb15 C14 HW14 K14 U14
  have HSH := Aside0.mk hsh
  have hz2 : n10 ≤ 100000000 := by omega
  have hz3 : n12 ≤ 100000000 := by omega
  clear hsh
  go_wp2_with fail
  rotate_left
  · have := HSH.out; omega
  clear hz2 hz3 HSH
  go_loopg [11] n5 (fun kq v11 wr => ∃ k : Nat, k ≤ n5 ∧ v11 = .int .i64 k ∧ Aside0 (kq + k = n5) ∧ Aside0 (Below w15.heap.size w15 wr))
  case atStart => exact ⟨0, Nat.zero_le _, rfl, ⟨rfl⟩, ⟨Below.refl _ _⟩⟩
  case round =>
    obtain ⟨k, hk, rfl, hq, hw⟩ := hrel
    have Cr := Aside0.mk (carry C15.out.1 C15.out.2 hw.out)
    obtain ⟨q0, q1, q2, q3⟩ := cells4 Cr.out.2
    by_cases hlt : k < n5
    · obtain ⟨ad, hAd, _⟩ := (Kd.C_below HA.out Cr.out.1).2.2 (by omega)
      subst hAd
      have hka : k < attrs.length := by have := NN.out; omega
      have H1 := Aside0.mk (C_one (Kd.C_below HA.out Cr.out.1) k hka)
      obtain ⟨x, hx⟩ : ∃ x, x = attrs[k] := ⟨_, rfl⟩
      rw [← hx] at H1
      have HXk := Aside0.mk (show attrs[k]? = some x by rw [List.getElem?_eq_getElem hka, hx])
      have HX := Aside0.mk (show x ∈ attrs from hx ▸ List.getElem_mem hka)
      have HWN := Aside0.mk (show (attrs.map (sent ty))[k]? = some (sent ty x) by rw [List.getElem?_map, List.getElem?_eq_getElem hka, hx]; rfl)
      have S1 := Aside0.mk (show Small [x] from ⟨by simp, fun y hy => by simp at hy; subst hy; exact SA.out.each _ HX.out⟩)
      clear hx hka
      obtain ⟨_, ad', A2', n2', c2', had', t0, t1, t2, t3, t4⟩ := at_x (Kd.C_below HA.out Cr.out.1) k x HXk.out
      obtain rfl := Option.some.inj had'
      have HT4 := Aside0.mk t4
      clear t4
      go_wp2_with fail
      go_cut [12] (fun v12 wd => ∃ B3 m3 d3, v12 = .slice B3 m3 d3 ∧ m3 ≤ d3 ∧ Aside0 (Kd.C k39 wd B3 m3 (selF [x] [x.f1] ty)) ∧ Aside0 (Below w15.heap.size w15 wd))
      case first =>
        refine start_ (n := 18) (S := (fun w' => Below wr.heap.size wr w' ∧ w'.cell? ⟨w.heap.size, 3, none⟩ = some (.slice (some ad) n5 ca) ∧ w'.cell? ⟨(ad.add (k * 3)).block, (ad.add (k * 3)).off + 1, none⟩ = some (.string x.f1))) (ds := []) #[false, false, false, false, false, false, false, false, false, false, false, false, false, false, false, false, false, false] (by kernel_rfl) rfl rfl ⟨below_drew (Below.refl _ _), q3, t1⟩ (fun hHeld => ?_)
        refine pure_ (i := 0) (N := (some 74)) (v := ?_) (a' := ?_) #[true, false, false, false, false, false, false, false, false, false, false, false, false, false, false, false, false, false] rfl rfl (by kernel_rfl) (fun _ _ _ h => h) (Or.inl ⟨by rfl, ?_⟩) ?_ ?_
        rotate_left
        · intro w'
          go_simp
          with_reducible rfl
        rotate_left
        · simp only [Act.put, List.setIfInBounds_toArray, List.set_cons_zero, List.set_cons_succ, i64_w, i32_w]
          rfl
        refine take_ (i := 1) (N := (some 75)) (v := ?_) (a' := ?_) #[true, true, false, false, false, false, false, false, false, false, false, false, false, false, false, false, false, false] rfl rfl (by kernel_rfl) (fun _ _ _ h => h) (Or.inl ⟨by rfl, ?_⟩) hHeld ?_ ?_
        rotate_left
        · rintro w' ⟨_, s3, s1⟩
          go_simp
          with_reducible rfl
        rotate_left
        · simp only [Act.put, List.setIfInBounds_toArray, List.set_cons_zero, List.set_cons_succ, i64_w, i32_w]
          rfl
        refine pure_ (i := 2) (N := (some 76)) (v := ?_) (a' := ?_) #[true, true, true, false, false, false, false, false, false, false, false, false, false, false, false, false, false, false] rfl rfl (by kernel_rfl) (fun _ _ _ h => h) (Or.inl ⟨by rfl, ?_⟩) ?_ ?_
        rotate_left
        · intro w'
          go_simp
          with_reducible rfl
        rotate_left
        · simp only [Act.put, List.setIfInBounds_toArray, List.set_cons_zero, List.set_cons_succ, i64_w, i32_w]
          rfl
        refine pure_ (i := 3) (N := (some 77)) (v := ?_) (a' := ?_) #[true, true, true, true, false, false, false, false, false, false, false, false, false, false, false, false, false, false] rfl rfl (by kernel_rfl) (fun _ _ _ h => h) (Or.inl ⟨by rfl, ?_⟩) ?_ ?_
        rotate_left
        · intro w'
          go_simp
          with_reducible rfl
        rotate_left
        · simp only [Act.put, List.setIfInBounds_toArray, List.set_cons_zero, List.set_cons_succ, i64_w, i32_w]
          rfl
        refine pure_ (i := 4) (N := (some 78)) (v := ?_) (a' := ?_) #[true, true, true, true, true, false, false, false, false, false, false, false, false, false, false, false, false, false] rfl rfl (by kernel_rfl) (fun _ _ _ h => h) (Or.inl ⟨by rfl, ?_⟩) ?_ ?_
        rotate_left
        · intro w'
          go_simp
          rw [i64_w, wrap_succ k (by omega)]
          all_goals with_reducible rfl
        rotate_left
        · simp only [Act.put, List.setIfInBounds_toArray, List.set_cons_zero, List.set_cons_succ, i64_w, i32_w]
          rfl
        refine pure_ (i := 5) (N := (some 79)) (v := ?_) (a' := ?_) #[true, true, true, true, true, true, false, false, false, false, false, false, false, false, false, false, false, false] rfl rfl (by kernel_rfl) (fun _ _ _ h => h) (Or.inl ⟨by rfl, ?_⟩) ?_ ?_
        rotate_left
        · intro w'
          go_simp
          rw [if_pos (⟨by omega, by omega⟩ : 0 ≤ (k : Int) + 1 ∧ (k : Int) + 1 ≤ (ca : Int)), if_neg (show ¬ ca = k by omega)]
          all_goals with_reducible rfl
        rotate_left
        · simp only [Act.put, List.setIfInBounds_toArray, List.set_cons_zero, List.set_cons_succ, i64_w, i32_w]
          rfl
        refine pure_ (i := 8) (N := (some 82)) (v := ?_) (a' := ?_) #[true, true, true, true, true, true, false, false, true, false, false, false, false, false, false, false, false, false] rfl rfl (by kernel_rfl) (fun _ _ _ h => h) (Or.inl ⟨by rfl, ?_⟩) ?_ ?_
        rotate_left
        · intro w'
          go_simp
          with_reducible rfl
        rotate_left
        · simp only [Act.put, List.setIfInBounds_toArray, List.set_cons_zero, List.set_cons_succ, i64_w, i32_w]
          rfl
        refine take_ (i := 9) (N := (some 83)) (v := ?_) (a' := ?_) #[true, true, true, true, true, true, false, false, true, true, false, false, false, false, false, false, false, false] rfl rfl (by kernel_rfl) (fun _ _ _ h => h) (Or.inl ⟨by rfl, ?_⟩) hHeld ?_ ?_
        rotate_left
        · rintro w' ⟨_, s3, s1⟩
          go_simp
          with_reducible rfl
        rotate_left
        · simp only [Act.put, List.setIfInBounds_toArray, List.set_cons_zero, List.set_cons_succ, i64_w, i32_w]
          rfl
        refine pure_ (i := 10) (N := (some 84)) (v := ?_) (a' := ?_) #[true, true, true, true, true, true, false, false, true, true, true, false, false, false, false, false, false, false] rfl rfl (by kernel_rfl) (fun _ _ _ h => h) (Or.inl ⟨by rfl, ?_⟩) ?_ ?_
        rotate_left
        · intro w'
          go_simp
          with_reducible rfl
        rotate_left
        · simp only [Act.put, List.setIfInBounds_toArray, List.set_cons_zero, List.set_cons_succ, i64_w, i32_w]
          rfl
        refine pure_ (i := 11) (N := (some 85)) (v := ?_) (a' := ?_) #[true, true, true, true, true, true, false, false, true, true, true, true, false, false, false, false, false, false] rfl rfl (by kernel_rfl) (fun _ _ _ h => h) (Or.inl ⟨by rfl, ?_⟩) ?_ ?_
        rotate_left
        · intro w'
          go_simp
          with_reducible rfl
        rotate_left
        · simp only [Act.put, List.setIfInBounds_toArray, List.set_cons_zero, List.set_cons_succ, i64_w, i32_w]
          rfl
        refine pure_ (i := 12) (N := (some 86)) (v := ?_) (a' := ?_) #[true, true, true, true, true, true, false, false, true, true, true, true, true, false, false, false, false, false] rfl rfl (by kernel_rfl) (fun _ _ _ h => h) (Or.inl ⟨by rfl, ?_⟩) ?_ ?_
        rotate_left
        · intro w'
          go_simp
          with_reducible rfl
        rotate_left
        · simp only [Act.put, List.setIfInBounds_toArray, List.set_cons_zero, List.set_cons_succ, i64_w, i32_w]
          rfl
        refine take_ (i := 13) (N := (some 87)) (v := ?_) (a' := ?_) #[true, true, true, true, true, true, false, false, true, true, true, true, true, true, false, false, false, false] rfl rfl (by kernel_rfl) (fun _ _ _ h => h) (Or.inl ⟨by rfl, ?_⟩) hHeld ?_ ?_
        rotate_left
        · rintro w' ⟨_, s3, s1⟩
          go_simp
          with_reducible rfl
        rotate_left
        · simp only [Act.put, List.setIfInBounds_toArray, List.set_cons_zero, List.set_cons_succ, i64_w, i32_w]
          rfl
        refine pure_ (i := 15) (N := (some 89)) (v := ?_) (a' := ?_) #[true, true, true, true, true, true, false, false, true, true, true, true, true, true, false, true, false, false] rfl rfl (by kernel_rfl) (fun _ _ _ h => h) (Or.inl ⟨by rfl, ?_⟩) ?_ ?_
        rotate_left
        · intro w'
          go_simp
          with_reducible rfl
        rotate_left
        · simp only [Act.put, List.setIfInBounds_toArray, List.set_cons_zero, List.set_cons_succ, i64_w, i32_w]
          rfl
        refine two_ (i := 6) (j := 14) (Ni := (some 80)) (Nj := (some 88)) #[true, true, true, true, true, true, true, false, true, true, true, true, true, true, false, true, false, false] #[true, true, true, true, true, true, false, false, true, true, true, true, true, true, true, true, false, false] rfl rfl rfl rfl (by kernel_rfl) (by decide) (by decide) (fun K hK => ?_) (fun K hK => ?_)
        · refine goes_ Tryd.func21 (by kernel_rfl) rfl #[.slice (some (ad.add (k * 3))) 1 (ca - k)] (by rfl) rfl rfl (by (try simp only [List.map_toArray, List.map_cons, List.map_nil]); rfl) ?_
          refine (ca_calls _ 1 (ca - k) [x] _ (Kd.C_below H1.out hHeld.1) (by omega) S1.out).mono ?_
          rintro ee u1 ⟨B1, m1, d1, rfl, gg1, hh1, hbu⟩
          have hbu1 := hHeld.1.trans (hbu.mono hHeld.1.size)
          have hB1 := Aside0.mk hh1
          have hz2 := pw_cell_below hbu hHeld.2.1
          have hz3 := pw_cell_below hbu hHeld.2.2
          refine ⟨_, rfl, ?_⟩
          refine hK.out _ _ ⟨hbu1, hz2, hz3⟩ (fun hHeld => ?_)
          clear hK K hbu1 hz2 hz3 hbu hh1
          refine norm_ (a' := ?_) ?_ ?_
          rotate_left
          · show Act.put _ (some 80) _ = _
            simp only [Act.put, List.setIfInBounds_toArray, List.set_cons_zero, List.set_cons_succ, i64_w, i32_w]
            rfl
          refine pure_ (i := 7) (N := (some 81)) (v := ?_) (a' := ?_) #[true, true, true, true, true, true, true, true, true, true, true, true, true, true, false, true, false, false] rfl rfl (by kernel_rfl) (fun _ _ _ h => h) (Or.inl ⟨by rfl, ?_⟩) ?_ ?_
          rotate_left
          · intro w'
            go_simp
            with_reducible rfl
          rotate_left
          · simp only [Act.put, List.setIfInBounds_toArray, List.set_cons_zero, List.set_cons_succ, i64_w, i32_w]
            rfl
          refine one_ (i := 14) (N := (some 88)) #[true, true, true, true, true, true, true, true, true, true, true, true, true, true, true, true, false, false] rfl rfl (by kernel_rfl) (by decide) (fun K hK => ?_)
          refine value_ (by rfl) rfl (v := .slice (some ⟨u1.heap.size, 0, none⟩) 1 1) (w1 := u1.alloc (.cells #[.string x.f1] 9)) (by go_simp) ?_
          have hB2 := Aside0.mk (C_single u1 x.f1)
          have hz1 : Below u1.heap.size u1 (u1.alloc (.cells #[.string x.f1] 9)) := (Below.refl _ _).alloc (Nat.le_refl _) _
          refine hK.out _ _ ⟨hHeld.1.trans (hz1.mono hHeld.1.size), pw_cell_below hz1 hHeld.2.1, pw_cell_below hz1 hHeld.2.2⟩ (fun hHeld => ?_)
          clear hK K hz1
          refine norm_ (a' := ?_) ?_ ?_
          rotate_left
          · show Act.put _ (some 88) _ = _
            simp only [Act.put, List.setIfInBounds_toArray, List.set_cons_zero, List.set_cons_succ, i64_w, i32_w]
            rfl
          have hB3 := Aside0.mk (Kd.C_alloc hB1.out (.cells #[.string x.f1] 9))
          refine one_ (i := 16) (N := (some 90)) #[true, true, true, true, true, true, true, true, true, true, true, true, true, true, true, true, true, false] rfl rfl (by kernel_rfl) (by decide) (fun K hK => ?_)
          refine goes_ Tryd.func15 (by kernel_rfl) rfl #[.agg #[.int .i64 0, .string ⟨#[]⟩, .slice none 0 0, .slice B1 m1 d1], .slice (some ⟨u1.heap.size, 0, none⟩) 1 1, .bool ty] (by rfl) rfl rfl (by (try simp only [List.map_toArray, List.map_cons, List.map_nil]); rfl) ?_
          refine (sel_calls 0 ⟨#[]⟩ none 0 0 [x] B1 m1 d1 [x.f1] _ 1 1 ty _ hB3.out hB2.out S1.out (SmallW.one (by have := SC.out x HX.out; omega)) (HM.out.below (Cr.out.1.trans (hHeld.1.mono Cr.out.1.size)))).mono ?_
          rintro ee u3 ⟨B3, m3, d3, rfl, gg3, hh3, hbu⟩
          have hbu3 := hHeld.1.trans (hbu.mono hHeld.1.size)
          have hz2 := pw_cell_below hbu hHeld.2.1
          have hz3 := pw_cell_below hbu hHeld.2.2
          refine ⟨_, rfl, ?_⟩
          refine hK.out _ _ ⟨hbu3, hz2, hz3⟩ (fun hHeld => ?_)
          clear hK K hz2 hz3 hbu
          refine norm_ (a' := ?_) ?_ ?_
          rotate_left
          · show Act.put _ (some 90) _ = _
            simp only [Act.put, List.setIfInBounds_toArray, List.set_cons_zero, List.set_cons_succ, i64_w, i32_w]
            rfl
          refine pure_ (i := 17) (N := (some 12)) (v := ?_) (a' := ?_) #[true, true, true, true, true, true, true, true, true, true, true, true, true, true, true, true, true, true] rfl rfl (by kernel_rfl) (fun _ _ _ h => h) (Or.inl ⟨by rfl, ?_⟩) ?_ ?_
          rotate_left
          · intro w'
            go_simp
            with_reducible rfl
          rotate_left
          · simp only [Act.put, List.setIfInBounds_toArray, List.set_cons_zero, List.set_cons_succ, i64_w, i32_w]
            rfl
          refine done_ (by kernel_rfl) ?_
          try go_wp2
          go_meet
          case rel => exact ⟨B3, m3, d3, rfl, gg3, ⟨hh3⟩, ⟨hw.out.trans (hbu3.mono hw.out.size)⟩⟩
        · refine value_ (by rfl) rfl (v := .slice (some ⟨wr.heap.size, 0, none⟩) 1 1) (w1 := (wr.alloc (.cells #[.string x.f1] 9)).drew) (by go_simp) ?_
          have hB2 := Aside0.mk (Kd.C_below (C_single wr x.f1) (below_drew (Below.refl _ _)))
          have hz1 : Below wr.heap.size wr ((wr.alloc (.cells #[.string x.f1] 9)).drew) := below_drew ((Below.refl _ _).alloc (Nat.le_refl _) _)
          refine hK.out _ _ ⟨hz1, pw_cell_below hz1 q3, pw_cell_below hz1 t1⟩ (fun hHeld => ?_)
          clear hK K hz1
          refine norm_ (a' := ?_) ?_ ?_
          rotate_left
          · show Act.put _ (some 88) _ = _
            simp only [Act.put, List.setIfInBounds_toArray, List.set_cons_zero, List.set_cons_succ, i64_w, i32_w]
            rfl
          refine one_ (i := 6) (N := (some 80)) #[true, true, true, true, true, true, true, false, true, true, true, true, true, true, true, true, false, false] rfl rfl (by kernel_rfl) (by decide) (fun K hK => ?_)
          refine goes_ Tryd.func21 (by kernel_rfl) rfl #[.slice (some (ad.add (k * 3))) 1 (ca - k)] (by rfl) rfl rfl (by (try simp only [List.map_toArray, List.map_cons, List.map_nil]); rfl) ?_
          refine (ca_calls _ 1 (ca - k) [x] _ (Kd.C_below H1.out hHeld.1) (by omega) S1.out).mono ?_
          rintro ee u1 ⟨B1, m1, d1, rfl, gg1, hh1, hbu⟩
          have hbu1 := hHeld.1.trans (hbu.mono hHeld.1.size)
          have hB1 := Aside0.mk hh1
          have hB3 := Aside0.mk (Kd.C_below hB2.out hbu)
          have hz2 := pw_cell_below hbu hHeld.2.1
          have hz3 := pw_cell_below hbu hHeld.2.2
          refine ⟨_, rfl, ?_⟩
          refine hK.out _ _ ⟨hbu1, hz2, hz3⟩ (fun hHeld => ?_)
          clear hK K hbu1 hz2 hz3 hbu hh1
          refine norm_ (a' := ?_) ?_ ?_
          rotate_left
          · show Act.put _ (some 80) _ = _
            simp only [Act.put, List.setIfInBounds_toArray, List.set_cons_zero, List.set_cons_succ, i64_w, i32_w]
            rfl
          refine pure_ (i := 7) (N := (some 81)) (v := ?_) (a' := ?_) #[true, true, true, true, true, true, true, true, true, true, true, true, true, true, true, true, false, false] rfl rfl (by kernel_rfl) (fun _ _ _ h => h) (Or.inl ⟨by rfl, ?_⟩) ?_ ?_
          rotate_left
          · intro w'
            go_simp
            with_reducible rfl
          rotate_left
          · simp only [Act.put, List.setIfInBounds_toArray, List.set_cons_zero, List.set_cons_succ, i64_w, i32_w]
            rfl
          refine one_ (i := 16) (N := (some 90)) #[true, true, true, true, true, true, true, true, true, true, true, true, true, true, true, true, true, false] rfl rfl (by kernel_rfl) (by decide) (fun K hK => ?_)
          refine goes_ Tryd.func15 (by kernel_rfl) rfl #[.agg #[.int .i64 0, .string ⟨#[]⟩, .slice none 0 0, .slice B1 m1 d1], .slice (some ⟨wr.heap.size, 0, none⟩) 1 1, .bool ty] (by rfl) rfl rfl (by (try simp only [List.map_toArray, List.map_cons, List.map_nil]); rfl) ?_
          refine (sel_calls 0 ⟨#[]⟩ none 0 0 [x] B1 m1 d1 [x.f1] _ 1 1 ty _ hB1.out hB3.out S1.out (SmallW.one (by have := SC.out x HX.out; omega)) (HM.out.below (Cr.out.1.trans (hHeld.1.mono Cr.out.1.size)))).mono ?_
          rintro ee u3 ⟨B3, m3, d3, rfl, gg3, hh3, hbu⟩
          have hbu3 := hHeld.1.trans (hbu.mono hHeld.1.size)
          have hz2 := pw_cell_below hbu hHeld.2.1
          have hz3 := pw_cell_below hbu hHeld.2.2
          refine ⟨_, rfl, ?_⟩
          refine hK.out _ _ ⟨hbu3, hz2, hz3⟩ (fun hHeld => ?_)
          clear hK K hz2 hz3 hbu
          refine norm_ (a' := ?_) ?_ ?_
          rotate_left
          · show Act.put _ (some 90) _ = _
            simp only [Act.put, List.setIfInBounds_toArray, List.set_cons_zero, List.set_cons_succ, i64_w, i32_w]
            rfl
          refine pure_ (i := 17) (N := (some 12)) (v := ?_) (a' := ?_) #[true, true, true, true, true, true, true, true, true, true, true, true, true, true, true, true, true, true] rfl rfl (by kernel_rfl) (fun _ _ _ h => h) (Or.inl ⟨by rfl, ?_⟩) ?_ ?_
          rotate_left
          · intro w'
            go_simp
            with_reducible rfl
          rotate_left
          · simp only [Act.put, List.setIfInBounds_toArray, List.set_cons_zero, List.set_cons_succ, i64_w, i32_w]
            rfl
          refine done_ (by kernel_rfl) ?_
          try go_wp2
          go_meet
          case rel => exact ⟨B3, m3, d3, rfl, gg3, ⟨hh3⟩, ⟨hw.out.trans (hbu3.mono hw.out.size)⟩⟩
      case rest =>
        obtain ⟨B3, m3, d3, rfl, g3, H3, hwd⟩ := hcut
        have Cd := Aside0.mk (carry C15.out.1 C15.out.2 hwd.out)
        have HWd := Aside0.mk (Kd.C_below HW15.out hwd.out)
        clear q0 q1 q2 q3 t0 t1 t2 t3 HT4 H1 Cr
        obtain ⟨q0, q1, q2, q3⟩ := cells4 Cd.out.2
        obtain ⟨_, ad', A2', n2', c2', had', t0, t1, t2, t3, t4⟩ := at_x (Kd.C_below HA.out Cd.out.1) k x HXk.out
        obtain rfl := Option.some.inj had'
        clear t4
        go_wp2_with fail
        refine (attr_Canonical x.f1 _ (SC.out x HX.out) (HM.out.below Cd.out.1)).mono ?_
        rintro ee we ⟨tt, kk, pp, rfl, hkk, hbe⟩
        have Ce := Aside0.mk (carry C15.out.1 C15.out.2 (hwd.out.trans (hbe.mono hwd.out.size)))
        have H3e := Aside0.mk (Kd.C_below H3.out hbe)
        obtain ⟨adW, hAW, _⟩ := HWd.out.2.2 (by omega)
        subst hAW
        have HWe := Aside0.mk (C_x (ca := 0) HWd.out hbe k (sent ty x) HWN.out)
        have hwe := Aside0.mk (hwd.out.trans (hbe.mono hwd.out.size))
        clear q0 q1 q2 q3 t0 t1 t2 t3 Cd
        obtain ⟨q0, q1, q2, q3⟩ := cells4 Ce.out.2
        obtain ⟨_, ad', A2'', n2'', c2'', had', t0, t1, t2, t3, t4⟩ := at_x (Kd.C_below HA.out Ce.out.1) k x HXk.out
        obtain rfl := Option.some.inj had'
        clear t4 HWd H3 hwd hbe
        have hnext : k + 1 ≤ n5 := hlt
        by_cases hk0 : kk = 0
        · subst hk0
          cases h11 : (x.f1.toList == [49, 46, 49])
          · have HS := Aside0.mk (selF_self x (hkk rfl) h11 ty)
            have SS := Aside0.mk (S1.out.sel [x.f1] ty)
            go_wp2_with fail
            refine (same_calls B3 m3 d3 (some (adW.add (k * 3))) 1 (c5 - k) _ _ we H3e.out g3 HWe.out (by omega) HS.out SS.out).mono ?_
            rintro ee wf ⟨rfl, hbf⟩
            have HB := Aside0.mk (hwe.out.trans (hbf.mono hwe.out.size))
            clear q0 q1 q2 q3 t0 t1 t2 t3 hbf
            go_wp2
            go_roundg (gk - 1)
            case rel => exact ⟨k + 1, hnext, by push_cast; rfl, ⟨by have := hq.out; omega⟩, ⟨HB.out⟩⟩
            case measure => have := hq.out; omega
          · have HB := hwe
            go_wp2
            go_roundg (gk - 1)
            case rel => exact ⟨k + 1, hnext, by push_cast; rfl, ⟨by have := hq.out; omega⟩, ⟨HB.out⟩⟩
            case measure => have := hq.out; omega
        · have HB := hwe
          go_wp2
          go_roundg (gk - 1)
          case rel => exact ⟨k + 1, hnext, by push_cast; rfl, ⟨by have := hq.out; omega⟩, ⟨HB.out⟩⟩
          case measure => have := hq.out; omega
    · obtain rfl : k = n5 := by omega
      go_wp2
      go_ret
      exact ⟨rfl, Cr.out.1⟩
end Go.Proofs.YtghjinhgloegaaaDoor
