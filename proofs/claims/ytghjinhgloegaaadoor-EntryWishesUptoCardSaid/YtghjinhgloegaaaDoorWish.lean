/- EntryWishes: the walk. -/
import Derived.Test.YtghjinhgloegaaaDoorHelp
namespace Go.Proofs.YtghjinhgloegaaaDoor
open Go.RowKit Go.Proofs.YtghjinhgloegaaaDoorW.PrintWords
set_option linter.unusedVariables false
set_option linter.unusedSimpArgs false

set_option maxHeartbeats 16000000 in
set_option maxRecDepth 100000 in
theorem law_Wishes (line : Int) (name : ByteArray) (K1 : Option Addr) (nk c1 : Nat) (key : List ByteArray) (AA : Option Addr) (n ca : Nat) (attrs : List S39) (A : Option Addr) (na cA : Nat) (a : List ByteArray) (B : Option Addr) (nb cB : Nat) (b : List ByteArray) (w : World)
    (hK : Kd.C Kd.string w K1 nk key) (gK : nk ≤ c1) (sK : key.length ≤ 1000000000) (hA : Kd.C k39 w AA n attrs) (gA : n ≤ ca) (sA : Small attrs)
    (ha : Kd.C Kd.string w A na a) (sa : SmallW a) (hb : Kd.C Kd.string w B nb b) (sb : SmallW b) (sab : na + nb ≤ 10000000) (hm : MaxAt w) :
    Calls Tryd.prog 5 #[.agg #[.int .i64 line, .string name, .slice K1 nk c1, .slice AA n ca], .slice A na cA, .slice B nb cB] w (CovPost w true) := by
  have hu39 := Tryd.underlying39
  have hu25 := Tryd.underlying25
  have hal : n ≤ 100000000 := hA.1 ▸ sA.len
  have NA := Aside0.mk ha.1
  have NB := Aside0.mk hb.1
  have NN := Aside0.mk hA.1
  have HK := Aside0.mk hK
  have GK := Aside0.mk gK
  have SK := Aside0.mk sK
  have HA := Aside0.mk hA
  have SA := Aside0.mk sA
  have Ha := Aside0.mk ha
  have Sa := Aside0.mk sa
  have Hb := Aside0.mk hb
  have Sb := Aside0.mk sb
  have HM := Aside0.mk hm
  clear hK gK sK hA sA ha sa hb sb hm
  cases ha0 : decide (na = 0) with
  | true =>
    obtain rfl : na = 0 := of_decide_eq_true ha0
    go_enter Tryd.func5, Tryd.ntmps5
    go_wp2
    go_ret
    exact ⟨rfl, (Below.refl _ _).alloc (Nat.le_refl _) _⟩
  | false =>
    have ha1 : na ≠ 0 := of_decide_eq_false ha0
    have ha2 : ((na : Int) == 0) = false := by rw [beq_eq_false_iff_ne]; omega
    clear ha0
    cases hb0 : decide (nb = 0) with
    | true =>
      obtain rfl : nb = 0 := of_decide_eq_true hb0
      go_enter Tryd.func5, Tryd.ntmps5
      go_wp2
      go_ret
      exact ⟨rfl, (Below.refl _ _).alloc (Nat.le_refl _) _⟩
    | false =>
      have hb1 : nb ≠ 0 := of_decide_eq_false hb0
      have hb2 : ((nb : Int) == 0) = false := by rw [beq_eq_false_iff_ne]; omega
      clear hb0
      have SAB := Aside0.mk sab
      have Na1 := Aside0.mk (show a.length ≠ 0 by have := NA.out; omega)
      have Nb1 := Aside0.mk (show b.length ≠ 0 by have := NB.out; omega)
      have Sab := Aside0.mk (Sa.out.app Sb.out (by have := NA.out; have := NB.out; omega))
      have Sbab := Aside0.mk ((Sb.out.app Sa.out (by have := NA.out; have := NB.out; omega)).app Sb.out (by rw [List.length_append]; have := NA.out; have := NB.out; omega))
      go_enter Tryd.func5, Tryd.ntmps5
      go_wp2_with fail
      have C1 := Aside0.mk (show Below w.heap.size w (w.alloc (.cells #[.int .i64 line, .string name, .slice K1 nk c1, .slice AA n ca] 25)) ∧ (w.alloc (.cells #[.int .i64 line, .string name, .slice K1 nk c1, .slice AA n ca] 25)).heap[w.heap.size]? = some (.cells #[.int .i64 line, .string name, .slice K1 nk c1, .slice AA n ca] 25 (0, 0)) from ⟨(Below.refl _ _).alloc (Nat.le_refl _) _, blk_new _ _⟩)
      refine (ce_calls line name K1 nk c1 key AA n ca attrs _ (Kd.C_alloc HK.out _) GK.out (Kd.C_alloc HA.out _) gA SK.out SA.out).mono ?_
      rintro ee w2 ⟨A2, c2, A3, c3, rfl, g3, h3, hb3⟩
      have C2 := Aside0.mk (carry C1.out.1 C1.out.2 hb3)
      have H3 := Aside0.mk (Kd.C_alloc h3 (.cells #[.string ⟨#[42]⟩, .string ⟨#[43]⟩] 9))
      clear C1 h3 hb3
      go_wp2_with fail
      refine (sel_calls line name A2 nk c2 attrs A3 n c3 [⟨#[42]⟩, ⟨#[43]⟩] _ 2 2 false _ H3.out (C_two _ _ _) SA.out (SmallW.two (by decide) (by decide)) ((HM.out.below C2.out.1).alloc _)).mono ?_
      rintro ee w4 ⟨A4, n4, c4, rfl, g4, h4, hb4⟩
      have C4 := Aside0.mk (carry C2.out.1 C2.out.2 (((Below.refl _ _).alloc (Nat.le_refl _) _).trans (hb4.mono (by simp))))
      have H4 := Aside0.mk h4
      have q3 : w4.cell? ⟨w.heap.size, 3, none⟩ = some (.slice AA n ca) := blk_cell C4.out.2 3
      clear H3 C2 h4 hb4
      go_wp2_with fail
      refine (strip_calls AA n ca attrs false w4 (Kd.C_below HA.out C4.out.1) gA SA.out).mono ?_
      rintro ee w5 ⟨A5, n5, c5, rfl, g5, h5, hb5⟩
      have C5 := Aside0.mk (carry C4.out.1 C4.out.2 hb5)
      have H45 := Aside0.mk (Kd.C_below H4.out hb5)
      have H5 := Aside0.mk h5
      clear C4 H4 q3 h5 hb5
      go_wp2_with fail
      refine (same_calls A4 n4 c4 A5 n5 c5 _ _ w5 H45.out g4 H5.out g5 (selF_star_plus attrs false) (SA.out.sel _ _)).mono ?_
      rintro ee w6 ⟨rfl, hb6⟩
      have C6 := Aside0.mk (carry C5.out.1 C5.out.2 hb6)
      have H56 := Aside0.mk (Kd.C_below H5.out hb6)
      have HA6 := Aside0.mk (Kd.C_below Ha.out C6.out.1)
      have HB6 := Aside0.mk (Kd.C_below Hb.out C6.out.1)
      clear H45 H5 C5 hb6
      go_wp2_with (first
        | (at_builtin; refine app_first w6 (.tmp 39) (.tmp 40) rfl rfl A na cA a rfl rfl HA6.out (by omega) ?_; intro A7 c7 w7 O7; have P7 := Aside0.mk O7; clear O7)
        | (at_builtin; refine app_more w6 w7 (.tmp 41) (.tmp 42) rfl rfl A7 na c7 a B nb cB b rfl rfl P7.out HB6.out (by omega) ?_; intro A8 c8 w8 O8; have P8 := Aside0.mk O8; clear O8)
        | (at_builtin; refine app_first w8 (.tmp 44) (.tmp 45) rfl rfl B nb cB b rfl rfl (Kd.C_below HB6.out P8.out.2) (by omega) ?_; intro A9 c9 w9 O9; have P9 := Aside0.mk O9; clear O9)
        | (at_builtin; refine app_more w8 w9 (.tmp 46) (.tmp 47) rfl rfl A9 nb c9 b A na cA a rfl rfl P9.out (Kd.C_below HA6.out P8.out.2) (by omega) ?_; intro A10 c10 w10 O10; have P10 := Aside0.mk O10; clear O10)
        | (at_builtin; refine app_more w8 w10 (.tmp 48) (.tmp 49) rfl rfl A10 (nb + na) c10 (b ++ a) B nb cB b rfl rfl P10.out (Kd.C_below HB6.out P8.out.2) (by omega) ?_; intro A11 c11 w11 O11; have P11 := Aside0.mk O11; clear O11; have C8 := Aside0.mk (carry C6.out.1 C6.out.2 P8.out.2); have C11 := Aside0.mk (carry C8.out.1 C8.out.2 P11.out.2); obtain ⟨q0, q1, q2, q3⟩ := cells4 C11.out.2))
      refine (ce_calls line name K1 nk c1 key AA n ca attrs w11 (Kd.C_below HK.out C11.out.1) GK.out (Kd.C_below HA.out C11.out.1) gA SK.out SA.out).mono ?_
      rintro ee w12 ⟨A12, c12, A12', c12', rfl, g12, h12, hb12⟩
      have C12 := Aside0.mk (carry C11.out.1 C11.out.2 hb12)
      have H12 := Aside0.mk h12
      have PB := Aside0.mk (Kd.C_below (Kd.C_below P8.out.c P11.out.2) hb12)
      have PT := Aside0.mk (Kd.C_below P11.out.c hb12)
      have HW12 := Aside0.mk (Kd.C_below (Kd.C_below (Kd.C_below H56.out P8.out.2) P11.out.2) hb12)
      clear q0 q1 q2 q3 h12 hb12 C11 C8 C6 P7 P8 P9 P10 P11 HA6 HB6 H56
      go_wp2_with fail
      refine (sel_calls line name A12 nk c12 attrs A12' n c12' (a ++ b) A8 (na + nb) c8 false w12 H12.out PB.out SA.out Sab.out (HM.out.below C12.out.1)).mono ?_
      rintro ee w13 ⟨A13, n13, c13, rfl, g13, h13, hb13⟩
      have C13 := Aside0.mk (carry C12.out.1 C12.out.2 hb13)
      have H13 := Aside0.mk h13
      have PB13 := Aside0.mk (Kd.C_below PB.out hb13)
      have PT13 := Aside0.mk (Kd.C_below PT.out hb13)
      have HW13 := Aside0.mk (Kd.C_below HW12.out hb13)
      obtain ⟨q0, q1, q2, q3⟩ := cells4 C13.out.2
      clear h13 hb13 C12 PB PT HW12 H12
      go_wp2_with fail
      refine (ce_calls line name K1 nk c1 key AA n ca attrs w13 (Kd.C_below HK.out C13.out.1) GK.out (Kd.C_below HA.out C13.out.1) gA SK.out SA.out).mono ?_
      rintro ee w14 ⟨A14, c14, A14', c14', rfl, g14, h14, hb14⟩
      have C14 := Aside0.mk (carry C13.out.1 C13.out.2 hb14)
      have H14 := Aside0.mk h14
      have PB14 := Aside0.mk (Kd.C_below PB13.out hb14)
      have PT14 := Aside0.mk (Kd.C_below PT13.out hb14)
      have HW14 := Aside0.mk (Kd.C_below HW13.out hb14)
      have H134 := Aside0.mk (Kd.C_below H13.out hb14)
      clear q0 q1 q2 q3 h14 hb14 C13 PB13 PT13 HW13 H13
      go_wp2_with fail
      refine (sel_calls line name A14 nk c14 attrs A14' n c14' (b ++ a ++ b) A11 (nb + na + nb) c11 false w14 H14.out PT14.out SA.out Sbab.out (HM.out.below C14.out.1)).mono ?_
      rintro ee w15 ⟨A15, n15, c15, rfl, g15, h15, hb15⟩
      have C15 := Aside0.mk (carry C14.out.1 C14.out.2 hb15)
      have H15 := Aside0.mk h15
      have PB15 := Aside0.mk (Kd.C_below PB14.out hb15)
      have HW15 := Aside0.mk (Kd.C_below HW14.out hb15)
      have H135 := Aside0.mk (Kd.C_below H134.out hb15)
      clear h15 hb15 C14 PB14 PT14 HW14 H134 H14
      go_wp2_with fail
      refine (same_calls A13 n13 c13 A15 n15 c15 _ _ w15 H135.out g13 H15.out g15 (selF_turned attrs a b Na1.out false) (SA.out.sel _ _)).mono ?_
      rintro ee w16 ⟨rfl, hb16⟩
      have C16 := Aside0.mk (carry C15.out.1 C15.out.2 hb16)
      have PB16 := Aside0.mk (Kd.C_below PB15.out hb16)
      have HW16 := Aside0.mk (Kd.C_below HW15.out hb16)
      have H16 := Aside0.mk (Kd.C_below H135.out hb16)
      clear hb16 C15 PB15 HW15 H135 H15
      go_wp2_with fail
      go_loopg [13, 14] n (fun kq v13 v14 wr => ∃ k : Nat, k ≤ n ∧ v14 = .int .i64 k ∧ v13 = .int .i64 ((selF (attrs.take k) (a ++ b) false).length : Nat) ∧ Aside0 (kq + k = n) ∧ Aside0 (Below w16.heap.size w16 wr))
      case atStart => exact ⟨0, Nat.zero_le _, rfl, by simp [selF], ⟨rfl⟩, ⟨Below.refl _ _⟩⟩
      case round =>
        obtain ⟨k, hk, rfl, rfl, hq, hw⟩ := hrel
        obtain ⟨p, hp⟩ : ∃ p, p = (selF (attrs.take k) (a ++ b) false).length := ⟨_, rfl⟩
        have hpk : p ≤ n := by
          rw [hp]; unfold selF; rw [List.length_map]
          exact Nat.le_trans (List.length_filter_le _ _) (by rw [List.length_take]; omega)
        rw [← hp]
        have HP := Aside0.mk hp
        clear hp
        have Cr := Aside0.mk (carry C16.out.1 C16.out.2 hw.out)
        obtain ⟨q0, q1, q2, q3⟩ := cells4 Cr.out.2
        by_cases hlt : k < n
        · obtain ⟨ad, hAd, _⟩ := (Kd.C_below HA.out Cr.out.1).2.2 (by omega)
          subst hAd
          have hka : k < attrs.length := by have := NN.out; omega
          have H1 := Aside0.mk (C_one (Kd.C_below HA.out Cr.out.1) k hka)
          obtain ⟨x, hx⟩ : ∃ x, x = attrs[k] := ⟨_, rfl⟩
          rw [← hx] at H1
          have HX := Aside0.mk (show x ∈ attrs from hx ▸ List.getElem_mem hka)
          have HST := Aside0.mk (show selF (attrs.take (k + 1)) (a ++ b) false = selF (attrs.take k) (a ++ b) false ++ selF [x] (a ++ b) false by rw [selF_step attrs k hka _ (by rw [List.length_append]; have := Na1.out; omega), hx])
          have HWN := Aside0.mk (show (attrs.map (sent false))[k]? = some (sent false x) by rw [List.getElem?_map, List.getElem?_eq_getElem hka, hx]; rfl)
          have S1 := Aside0.mk (show Small [x] from ⟨by simp, fun y hy => by simp at hy; subst hy; exact SA.out.each _ HX.out⟩)
          have HXk := Aside0.mk (show attrs[k]? = some x by rw [List.getElem?_eq_getElem hka, hx])
          clear hx hka
          go_wp2_with fail
          have K1' := Aside0.mk (show Carry w w16 w.heap.size wr.heap.size (.cells #[.int .i64 line, .string name, .slice K1 nk c1, .slice (some ad) n ca] 25) (.cells #[.int .i64 0, .string ⟨#[]⟩, .slice none 0 0, .slice (some (ad.add (k * 3))) 1 (ca - k)] 25) (wr.alloc (.cells #[.int .i64 0, .string ⟨#[]⟩, .slice none 0 0, .slice (some (ad.add (k * 3))) 1 (ca - k)] 25)) from ⟨Cr.out.1.alloc Cr.out.1.size _, blk_alloc Cr.out.2 _, hw.out.alloc hw.out.size _, blk_new _ _⟩)
          refine (ce_calls 0 ⟨#[]⟩ none 0 0 [] (some (ad.add (k * 3))) 1 (ca - k) [x] _ (Kd.C_nil _ _) (Nat.le_refl _) (Kd.C_alloc H1.out _) (by omega) (by simp) S1.out).mono ?_
          rintro ee u2 ⟨B2, d2, B3, d3, rfl, e3, h2, hb2⟩
          have K2 := Aside0.mk (K1'.out.step hb2)
          have H2 := Aside0.mk h2
          have L2 := Aside0.mk (hb2.mono (Nat.le_refl _))
          clear q0 q1 q2 q3 h2 hb2 Cr K1' H1 hw
          go_wp2_with (at_builtin; refine app_first u2 (.tmp 79) (.tmp 80) rfl rfl A na cA a rfl rfl (Kd.C_below Ha.out K2.out.a) (by omega) ?_; intro E3 f3 u3 O3; have P3 := Aside0.mk O3; clear O3)
          have K3 := Aside0.mk (K2.out.step P3.out.2)
          refine (sel_calls 0 ⟨#[]⟩ B2 0 d2 [x] B3 1 d3 a E3 na f3 false u3 (Kd.C_below H2.out P3.out.2) P3.out.c S1.out Sa.out (HM.out.below K3.out.a)).mono ?_
          rintro ee u4 ⟨X, nX, cX, rfl, eX, hX, hb4⟩
          have K4 := Aside0.mk (K3.out.step hb4)
          have LX := Aside0.mk hX.1
          obtain ⟨r0, r1, r2, r3⟩ := cells4 K4.out.d
          have s4 := K4.out.c.size
          clear hX hb4 P3 K2 K3 H2 L2
          go_wp2_with fail
          have HX4 := Aside0.mk (C_x (ca := ca) HA.out K4.out.a k x HXk.out)
          refine (ce_calls 0 ⟨#[]⟩ none 0 0 [] (some (ad.add (k * 3))) 1 (ca - k) [x] u4 (Kd.C_nil _ _) (Nat.le_refl _) HX4.out (by omega) (by simp) S1.out).mono ?_
          rintro ee u5 ⟨B5, d5, B5', d5', rfl, e5, h5', hb5⟩
          have K5 := Aside0.mk (K4.out.step hb5)
          have H5' := Aside0.mk h5'
          clear r0 r1 r2 r3 h5' hb5 K4 HX4
          go_wp2_with (at_builtin; refine app_first u5 (.tmp 85) (.tmp 86) rfl rfl B nb cB b rfl rfl (Kd.C_below Hb.out K5.out.a) (by omega) ?_; intro E6 f6 u6 O6; have P6 := Aside0.mk O6; clear O6)
          have K6 := Aside0.mk (K5.out.step P6.out.2)
          refine (sel_calls 0 ⟨#[]⟩ B5 0 d5 [x] B5' 1 d5' b E6 nb f6 false u6 (Kd.C_below H5'.out P6.out.2) P6.out.c S1.out Sb.out (HM.out.below K6.out.a)).mono ?_
          rintro ee u7 ⟨Y, nY, cY, rfl, eY, hY, hb7⟩
          have K7 := Aside0.mk (K6.out.step hb7)
          have LY := Aside0.mk hY.1
          obtain ⟨r0, r1, r2, r3⟩ := cells4 K7.out.d
          clear hY hb7 P6 K5 K6 H5'
          go_wp2_with fail
          refine (ce_calls 0 ⟨#[]⟩ none 0 0 [] (some (ad.add (k * 3))) 1 (ca - k) [x] u7 (Kd.C_nil _ _) (Nat.le_refl _) (C_x (ca := ca) HA.out K7.out.a k x HXk.out) (by omega) (by simp) S1.out).mono ?_
          rintro ee u8 ⟨B8, d8, B8', d8', rfl, e8, h8', hb8⟩
          have K8 := Aside0.mk (K7.out.step hb8)
          have H8' := Aside0.mk h8'
          clear r0 r1 r2 r3 h8' hb8 K7
          go_wp2_with fail
          refine (sel_calls 0 ⟨#[]⟩ B8 0 d8 [x] B8' 1 d8' (a ++ b) A8 (na + nb) c8 false u8 H8'.out (Kd.C_below PB16.out K8.out.c) S1.out Sab.out (HM.out.below K8.out.a)).mono ?_
          rintro ee u9 ⟨Z, nZ, cZ, rfl, eZ, hZ, hb9⟩
          have K9 := Aside0.mk (K8.out.step hb9)
          have LZ := Aside0.mk hZ.1
          clear hZ hb9 K8 H8'
          have hs1 := LX.out
          have hs2 := LY.out
          have hs3 := LZ.out
          rw [selF_one x a Na1.out] at hs1
          rw [selF_one x b Nb1.out] at hs2
          rw [selF_one x (a ++ b) (by rw [List.length_append]; have := Na1.out; omega)] at hs3
          have hmem : (a ++ b).any (askedF · x.f1) = true → sent false x ∈ selF attrs (a ++ b) false := mem_selF HX.out (by rw [List.length_append]; have := Na1.out; omega) false
          have HMEM := Aside0.mk hmem
          have HLN := Aside0.mk (show (selF (attrs.take (k + 1)) (a ++ b) false).length = p + nZ by rw [HST.out, List.length_append, ← HP.out, LZ.out])
          clear hmem LX LY LZ
          obtain ⟨hkn, ad5, A2', n2', c2', rfl, t0, t1, t2, t3, t4⟩ := at_x (Kd.C_below HW16.out K9.out.c) k _ HWN.out
          have HT4 := Aside0.mk t4
          have H13 := Aside0.mk (Kd.C_below H16.out K9.out.c)
          clear t4
          cases hax : a.any (askedF · x.f1) with
          | false =>
            cases hbx : b.any (askedF · x.f1) with
            | false =>
              have hz : (a ++ b).any (askedF · x.f1) = false := by rw [List.any_append, hax, hbx]; rfl
              obtain rfl : nX = 0 := by rw [hax] at hs1; exact hs1.symm
              obtain rfl : nY = 0 := by rw [hbx] at hs2; exact hs2.symm
              obtain rfl : nZ = 0 := by rw [hz] at hs3; exact hs3.symm
              have HZ := Aside0.mk hz
              clear hax hbx hz hs1 hs2 hs3
              go_wp2_with fail
              refine (has_calls A13 n13 c13 (selF attrs (a ++ b) false) (sent false x) A2' n2' c2' u9 H13.out g13 HT4.out t3 (SA.out.sel _ _)).mono ?_
              rintro ee u10 ⟨r, rfl, hr, hb10⟩
              have K10 := Aside0.mk (K9.out.step hb10)
              clear hb10 hr
              go_wp2
              go_roundg (gk - 1)
              case measure => have := hq.out; omega
              case rel => exact ⟨k + 1, by omega, by go_num, by rw [HLN.out, Nat.add_zero], ⟨by have := hq.out; omega⟩, ⟨K10.out.c⟩⟩
            | true =>
              have hz : (a ++ b).any (askedF · x.f1) = true := by rw [List.any_append, hax, hbx]; rfl
              obtain rfl : nX = 0 := by rw [hax] at hs1; exact hs1.symm
              obtain rfl : nY = 1 := by rw [hbx] at hs2; exact hs2.symm
              obtain rfl : nZ = 1 := by rw [hz] at hs3; exact hs3.symm
              have HZ := Aside0.mk hz
              clear hax hbx hz hs1 hs2 hs3
              go_wp2_with fail
              refine (has_calls A13 n13 c13 (selF attrs (a ++ b) false) (sent false x) A2' n2' c2' u9 H13.out g13 HT4.out t3 (SA.out.sel _ _)).mono ?_
              rintro ee u10 ⟨r, rfl, hr, hb10⟩
              have K10 := Aside0.mk (K9.out.step hb10)
              obtain rfl : r = true := hr (HMEM.out HZ.out)
              clear hb10 hr
              go_wp2
              go_roundg (gk - 1)
              case measure => have := hq.out; omega
              case rel => exact ⟨k + 1, by omega, by go_num, by rw [HLN.out]; go_num, ⟨by have := hq.out; omega⟩, ⟨K10.out.c⟩⟩
          | true =>
            cases hbx : b.any (askedF · x.f1) with
            | false =>
              have hz : (a ++ b).any (askedF · x.f1) = true := by rw [List.any_append, hax, hbx]; rfl
              obtain rfl : nX = 1 := by rw [hax] at hs1; exact hs1.symm
              obtain rfl : nY = 0 := by rw [hbx] at hs2; exact hs2.symm
              obtain rfl : nZ = 1 := by rw [hz] at hs3; exact hs3.symm
              have HZ := Aside0.mk hz
              clear hax hbx hz hs1 hs2 hs3
              go_wp2_with fail
              refine (has_calls A13 n13 c13 (selF attrs (a ++ b) false) (sent false x) A2' n2' c2' u9 H13.out g13 HT4.out t3 (SA.out.sel _ _)).mono ?_
              rintro ee u10 ⟨r, rfl, hr, hb10⟩
              have K10 := Aside0.mk (K9.out.step hb10)
              obtain rfl : r = true := hr (HMEM.out HZ.out)
              clear hb10 hr
              go_wp2
              go_roundg (gk - 1)
              case measure => have := hq.out; omega
              case rel => exact ⟨k + 1, by omega, by go_num, by rw [HLN.out]; go_num, ⟨by have := hq.out; omega⟩, ⟨K10.out.c⟩⟩
            | true =>
              have hz : (a ++ b).any (askedF · x.f1) = true := by rw [List.any_append, hax, hbx]; rfl
              obtain rfl : nX = 1 := by rw [hax] at hs1; exact hs1.symm
              obtain rfl : nY = 1 := by rw [hbx] at hs2; exact hs2.symm
              obtain rfl : nZ = 1 := by rw [hz] at hs3; exact hs3.symm
              have HZ := Aside0.mk hz
              clear hax hbx hz hs1 hs2 hs3
              go_wp2_with fail
              refine (has_calls A13 n13 c13 (selF attrs (a ++ b) false) (sent false x) A2' n2' c2' u9 H13.out g13 HT4.out t3 (SA.out.sel _ _)).mono ?_
              rintro ee u10 ⟨r, rfl, hr, hb10⟩
              have K10 := Aside0.mk (K9.out.step hb10)
              obtain rfl : r = true := hr (HMEM.out HZ.out)
              clear hb10 hr
              go_wp2
              go_roundg (gk - 1)
              case measure => have := hq.out; omega
              case rel => exact ⟨k + 1, by omega, by go_num, by rw [HLN.out]; go_num, ⟨by have := hq.out; omega⟩, ⟨K10.out.c⟩⟩
        · obtain rfl : k = n := by omega
          have HL := Aside0.mk (show p = n13 by rw [HP.out, List.take_of_length_le (by have := NN.out; omega)]; exact H16.out.1)
          go_wp2
          go_ret
          exact ⟨by rw [HL.out]; simp, Cr.out.1⟩
end Go.Proofs.YtghjinhgloegaaaDoor
