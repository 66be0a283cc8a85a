/- EntryValues: the walk: the Go statement answers true for every entry and description within its bounds, from every world that holds them. -/
import Derived.Test.YtghjinhgloegaaaDoorRefThree
namespace Go.Proofs.YtghjinhgloegaaaDoor
open Go.RowKit Go.Proofs.YtghjinhgloegaaaDoorW.PrintWords
set_option linter.unusedVariables false
set_option linter.unusedSimpArgs false

theorem texts_calls (l : List ByteArray) (A : Option Addr) (n c : Nat) (B : Option Addr) (m d : Nat) (w : World) (h : Kd.C Kd.string w A n l) (g : n ≤ c) (h' : Kd.C Kd.string w B m l) (g' : m ≤ d) (hl : n ≤ 1000000000) :
    Calls Tryd.prog 12 #[.slice A n c, .slice B m d] w (CovPost w true) := by
  obtain rfl : l.length = n := h.1
  obtain rfl : l.length = m := h'.1
  obtain ⟨r, h1, h4⟩ := sameTexts_f l l hl 2000000000 (by omega)
  refine (rosterlaw08_sameTexts.calls 2000000000 A c l B d l r w h g h' g' h1).mono ?_
  rintro e w' ⟨rfl, hd⟩
  exact ⟨by rw [h4 rfl], Drawn0.below hd⟩
set_option maxHeartbeats 16000000 in
set_option maxRecDepth 100000 in
theorem law_Values (line : Int) (name : ByteArray) (K1 : Option Addr) (nk c1 : Nat) (key : List ByteArray) (AA : Option Addr) (n ca : Nat) (attrs : List S39) (d : ByteArray) (w : World)
    (hK : Kd.C Kd.string w K1 nk key) (gK : nk ≤ c1) (sK : nk ≤ 1000000000) (hA : Kd.C k39 w AA n attrs) (gA : n ≤ ca) (sA : Small attrs) (sC : ∀ x ∈ attrs, x.f1.size ≤ 900000000) (sD : d.size ≤ 900000000) (hT : tot attrs ≤ 1000000000) (hm : MaxAt w) (hk : KindsAt w) :
    Calls Tryd.prog 3 #[.agg #[.int .i64 line, .string name, .slice K1 nk c1, .slice AA n ca], .string d] w (CovPost w true) := by
  have hu25 := Tryd.underlying25
  have HK := Aside0.mk hK
  have HA := Aside0.mk hA
  have SA := Aside0.mk sA
  have SC := Aside0.mk sC
  have SD := Aside0.mk sD
  have HT := Aside0.mk hT
  have HM := Aside0.mk hm
  have HKN := Aside0.mk hk
  clear hK hA sA sC sD hT hm hk
  go_enter Tryd.func3, Tryd.ntmps3
  go_wp2_with fail
  have hb0 : Below w.heap.size w (w.alloc (.cells #[.int .i64 line, .string name, .slice K1 nk c1, .slice AA n ca] 25)) := (Below.refl _ _).alloc (Nat.le_refl _) _
  have hk0 := blk_new w (.cells #[.int .i64 line, .string name, .slice K1 nk c1, .slice AA n ca] 25)
  refine (copyEntry2_calls line name K1 nk c1 key AA n ca attrs _ (Kd.C_below HK.out hb0) (Kd.C_below HA.out hb0) sK SA.out).mono ?_
  rintro ee w2 ⟨A2, c2, A3, c3, rfl, hmine, hb2⟩
  have hk2 := blk_alloc (blk_below hk0 hb2) (.cells #[.int .i64 line, .string name, .slice A2 nk c2, .slice A3 n c3] 25)
  have hk5 := blk_new w2 (.cells #[.int .i64 line, .string name, .slice A2 nk c2, .slice A3 n c3] 25)
  have hb3 := (hb0.trans (hb2.mono hb0.size))
  have hb4 := hb3.alloc hb3.size (.cells #[.int .i64 line, .string name, .slice A2 nk c2, .slice A3 n c3] 25)
  have hmine2 := hmine.alloc (.cells #[.int .i64 line, .string name, .slice A2 nk c2, .slice A3 n c3] 25)
  clear hb0 hk0 hb2 hb3 hmine
  go_wp2_with fail
  generalize w2.alloc (.cells #[.int .i64 line, .string name, .slice A2 nk c2, .slice A3 n c3] 25) = W at hk2 hk5 hb4 hmine2 ⊢
  have HK2 := Aside0.mk hk2
  have HK5 := Aside0.mk hk5
  have HB4 := Aside0.mk hb4
  have HMI := Aside0.mk hmine2
  clear hk2 hk5 hb4 hmine2
  refine (values_calls line name A2 nk c2 attrs A3 n c3 d W HMI.out.plain SA.out SD.out HT.out (HM.out.below HB4.out)).mono ?_
  rintro ee w5 ⟨A4, n4, c4, rfl, g4, h4, hb5⟩
  have hn4 : n4 ≤ 1000000000 := by have := h4.1; have := vals_len d attrs; have := HT.out; omega
  have H4 := Aside0.mk h4
  have B5 := Aside0.mk hb5
  obtain ⟨q0, q1, q2, q3⟩ := cells4 (blk_below HK5.out B5.out)
  clear h4 hb5
  go_wp2_with fail
  refine (has_entry_calls line name A2 nk c2 attrs A3 n c3 d w5 (HMI.out.below B5.out).plain SA.out (by have := SD.out; omega) ((HM.out.below HB4.out).below B5.out)).mono ?_
  rintro ee w6 ⟨rfl, hb6⟩
  have B6 := Aside0.mk (B5.out.trans (hb6.mono B5.out.size))
  have H46 := Aside0.mk (Kd.C_below H4.out hb6)
  clear q0 q1 q2 q3 H4 B5 hb6
  obtain ⟨q0, q1, q2, q3⟩ := cells4 (blk_below HK2.out B6.out)
  have HB6 := Aside0.mk (HB4.out.trans (B6.out.mono HB4.out.size))
  go_wp2_with fail
  refine (refValues_calls line name K1 nk c1 attrs AA n ca d w6 (Kd.C_below HA.out HB6.out) SA.out SC.out SD.out HT.out (HKN.out.below HB6.out)).mono ?_
  rintro ee w7 ⟨A7, n7, c7, rfl, g7, h7, hb7⟩
  have B7 := Aside0.mk (B6.out.trans (hb7.mono B6.out.size))
  have H47 := Aside0.mk (Kd.C_below H46.out hb7)
  have H7 := Aside0.mk h7
  clear q0 q1 q2 q3 H46 B6 HB6 hb7 h7
  obtain ⟨q0, q1, q2, q3⟩ := cells4 (blk_below HK2.out B7.out)
  have HB7 := Aside0.mk (HB4.out.trans (B7.out.mono HB4.out.size))
  go_wp2_with fail
  refine (refHas_calls line name K1 nk c1 attrs AA n ca d w7 (Kd.C_below HA.out HB7.out) SA.out SC.out SD.out HT.out (HKN.out.below HB7.out)).mono ?_
  rintro ee w8 ⟨rfl, hb8⟩
  have B8 := Aside0.mk (B7.out.trans (hb8.mono B7.out.size))
  have H48 := Aside0.mk (Kd.C_below H47.out hb8)
  have H78 := Aside0.mk (Kd.C_below H7.out hb8)
  clear q0 q1 q2 q3 H47 B7 HB7 hb8 H7
  generalize (!(valsF attrs d).isEmpty) = bb
  go_wp2_with fail
  refine (texts_calls (valsF attrs d) A4 n4 c4 A7 n7 c7 w8 H48.out g4 H78.out g7 hn4).mono ?_
  rintro ee w9 ⟨rfl, hb9⟩
  have B9 := Aside0.mk (B8.out.trans (hb9.mono B8.out.size))
  clear H48 H78 B8 hb9
  obtain ⟨q0, q1, q2, q3⟩ := cells4 (blk_below HK2.out B9.out)
  obtain ⟨p0, p1, p2, p3⟩ := cells4 (blk_below HK5.out B9.out)
  have HB9 := Aside0.mk (HB4.out.trans (B9.out.mono HB4.out.size))
  have hbb : (bb == bb) = true := by cases bb <;> rfl
  go_wp2_with fail
  refine (entrySpared_calls line name key attrs A2 nk c2 A3 n c3 K1 c1 AA ca w9 (HMI.out.below B9.out) (Kd.C_below HK.out HB9.out) gK (Kd.C_below HA.out HB9.out) gA sK SA.out).mono ?_
  rintro ee w10 ⟨rfl, hb10⟩
  have HB10 := Aside0.mk (HB9.out.trans (hb10.mono HB9.out.size))
  clear q0 q1 q2 q3 p0 p1 p2 p3 hb10
  go_wp2
  go_ret
  exact ⟨rfl, HB10.out⟩
end Go.Proofs.YtghjinhgloegaaaDoor
