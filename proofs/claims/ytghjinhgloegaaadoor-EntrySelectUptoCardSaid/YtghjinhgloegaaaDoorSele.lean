/- EntrySelect: the walk: the Go statement answers true for every entry, every list of texts and both forms of the answer within the bounds, from every world that holds them. -/
import Derived.Test.YtghjinhgloegaaaDoorRefP
namespace Go.Proofs.YtghjinhgloegaaaDoor
open Go.RowKit Go.Proofs.YtghjinhgloegaaaDoorW.PrintWords
set_option linter.unusedVariables false
set_option linter.unusedSimpArgs false

theorem texts_same (l : List ByteArray) (A : Option Addr) (n c : Nat) (B : Option Addr) (m d : Nat) (w : World) (h : Kd.C Kd.string w A n l) (g : n ≤ c) (h' : Kd.C Kd.string w B m l) (g' : m ≤ d) (hl : n ≤ 1000000000) :
    Calls Tryd.prog 12 #[.slice A n c, .slice B m d] w (CovPost w true) := by
  obtain rfl : l.length = n := h.1
  obtain rfl : l.length = m := h'.1
  obtain ⟨r, h1, h4⟩ := sameTexts_f l l hl 2000000000 (by omega)
  refine (rosterlaw08_sameTexts.calls 2000000000 A c l B d l r w h g h' g' h1).mono ?_
  rintro e w' ⟨rfl, hd⟩
  exact ⟨by rw [h4 rfl], Drawn0.below hd⟩
set_option maxHeartbeats 16000000 in
set_option maxRecDepth 100000 in
theorem law_Select (line : Int) (name : ByteArray) (K1 : Option Addr) (nk c1 : Nat) (key : List ByteArray) (AA : Option Addr) (n ca : Nat) (attrs : List S39) (AW : Option Addr) (nw cw : Nat) (wanted : List ByteArray) (ty : Bool) (w : World)
    (hK : Kd.C Kd.string w K1 nk key) (gK : nk ≤ c1) (sK : nk ≤ 1000000000) (hA : Kd.C k39 w AA n attrs) (gA : n ≤ ca) (sA : Small attrs) (sC : ∀ x ∈ attrs, x.f1.size ≤ 900000000) (hW : Kd.C Kd.string w AW nw wanted) (gW : nw ≤ cw) (sW : SmallW wanted) (sW9 : ∀ x ∈ wanted, x.size ≤ 900000000) (hm : MaxAt w) (hk : KindsAt w) :
    Calls Tryd.prog 4 #[.agg #[.int .i64 line, .string name, .slice K1 nk c1, .slice AA n ca], .slice AW nw cw, .bool ty] w (CovPost w true) := by
  have hu25 := Tryd.underlying25
  have hnw : nw ≤ 100000000 := hW.1 ▸ sW.len
  have HK := Aside0.mk hK
  have HA := Aside0.mk hA
  have HW := Aside0.mk hW
  have SA := Aside0.mk sA
  have SC := Aside0.mk sC
  have SW := Aside0.mk sW
  have SW9 := Aside0.mk sW9
  have HM := Aside0.mk hm
  have HKN := Aside0.mk hk
  clear hK hA hW sA sC sW sW9 hm hk
  go_enter Tryd.func4, Tryd.ntmps4
  go_wp2_with fail
  have hb0 : Below w.heap.size w (w.alloc (.cells #[.int .i64 line, .string name, .slice K1 nk c1, .slice AA n ca] 25)) := (Below.refl _ _).alloc (Nat.le_refl _) _
  have hk0 := blk_new w (.cells #[.int .i64 line, .string name, .slice K1 nk c1, .slice AA n ca] 25)
  refine (copyEntry2_calls line name K1 nk c1 key AA n ca attrs _ (Kd.C_below HK.out hb0) (Kd.C_below HA.out hb0) sK SA.out).mono ?_
  rintro ee w2 ⟨A2, c2, A3, c3, rfl, hmine, hb2⟩
  have hk2 := blk_alloc (blk_below hk0 hb2) (.cells #[.int .i64 line, .string name, .slice A2 nk c2, .slice A3 n c3] 25)
  have hk5 := blk_new w2 (.cells #[.int .i64 line, .string name, .slice A2 nk c2, .slice A3 n c3] 25)
  have hb3 := (hb0.trans (hb2.mono hb0.size))
  have hb4 := hb3.alloc hb3.size (.cells #[.int .i64 line, .string name, .slice A2 nk c2, .slice A3 n c3] 25)
  have hmine2 := hmine.alloc (.cells #[.int .i64 line, .string name, .slice A2 nk c2, .slice A3 n c3] 25)
  clear hb0 hk0 hb2 hb3 hmine
  go_wp2_with fail
  generalize w2.alloc (.cells #[.int .i64 line, .string name, .slice A2 nk c2, .slice A3 n c3] 25) = W at hk2 hk5 hb4 hmine2 ⊢
  have HK2 := Aside0.mk hk2
  have HK5 := Aside0.mk hk5
  have HB4 := Aside0.mk hb4
  have HMI := Aside0.mk hmine2
  clear hk2 hk5 hb4 hmine2
  refine (roomy2_calls wanted AW nw cw W (Kd.C_below HW.out HB4.out) (by omega)).mono ?_
  rintro ee w5 ⟨A5, c5, rfl, hown⟩
  have B5 := Aside0.mk hown.2
  have H5 := Aside0.mk hown.c
  have hcap5 := hown.cap
  obtain ⟨q0, q1, q2, q3⟩ := cells4 (blk_below HK5.out B5.out)
  have HB5 := Aside0.mk (HB4.out.trans (B5.out.mono HB4.out.size))
  clear hown
  go_wp2_with fail
  refine (sel_calls line name A2 nk c2 attrs A3 n c3 wanted A5 nw c5 ty w5 (HMI.out.below B5.out).plain (C_front H5.out) SA.out SW.out (HM.out.below HB5.out)).mono ?_
  rintro ee w6 ⟨A6, n6, c6, rfl, g6, h6, hb6⟩
  have B6 := Aside0.mk (B5.out.trans (hb6.mono B5.out.size))
  have H56 := Aside0.mk (Kd.C_below H5.out hb6)
  have H6 := Aside0.mk h6
  clear q0 q1 q2 q3 H5 B5 HB5 hb6 h6
  obtain ⟨q0, q1, q2, q3⟩ := cells4 (blk_below HK2.out B6.out)
  have HB6 := Aside0.mk (HB4.out.trans (B6.out.mono HB4.out.size))
  go_wp2_with fail
  refine (refSelect_calls line name K1 nk c1 attrs AA n ca wanted AW nw cw ty w6 (Kd.C_below HA.out HB6.out) (Kd.C_below HW.out HB6.out) SA.out SC.out SW.out SW9.out (HKN.out.below HB6.out)).mono ?_
  rintro ee w7 ⟨v7, rfl, hr7, hb7⟩
  obtain ⟨A7, c7, rfl, g7, h7⟩ := Kd.R_reads hr7
  have B7 := Aside0.mk (B6.out.trans (hb7.mono B6.out.size))
  have H57 := Aside0.mk (Kd.C_below H56.out hb7)
  have H67 := Aside0.mk (Kd.C_below H6.out hb7)
  obtain ⟨n7, hn7⟩ : ∃ z, z = (selF attrs wanted ty).length := ⟨_, rfl⟩
  rw [← hn7] at g7 h7 ⊢
  have H7 := Aside0.mk h7
  clear q0 q1 q2 q3 H56 H6 B6 HB6 hb7 hr7 h7 hn7
  go_wp2_with fail
  refine (same_calls A6 n6 c6 A7 n7 c7 _ _ w7 H67.out g6 H7.out g7 rfl (SA.out.sel _ _)).mono ?_
  rintro ee w8 ⟨rfl, hb8⟩
  have B8 := Aside0.mk (B7.out.trans (hb8.mono B7.out.size))
  have H58 := Aside0.mk (Kd.C_below H57.out hb8)
  clear H67 H7 H57 B7 hb8
  obtain ⟨q0, q1, q2, q3⟩ := cells4 (blk_below HK2.out B8.out)
  obtain ⟨p0, p1, p2, p3⟩ := cells4 (blk_below HK5.out B8.out)
  have HB8 := Aside0.mk (HB4.out.trans (B8.out.mono HB4.out.size))
  go_wp2_with fail
  refine (entrySpared_calls line name key attrs A2 nk c2 A3 n c3 K1 c1 AA ca w8 (HMI.out.below B8.out) (Kd.C_below HK.out HB8.out) gK (Kd.C_below HA.out HB8.out) gA sK SA.out).mono ?_
  rintro ee w9 ⟨rfl, hb9⟩
  have HB9 := Aside0.mk (HB8.out.trans (hb9.mono HB8.out.size))
  have H59 := Aside0.mk (Kd.C_below H58.out hb9)
  clear q0 q1 q2 q3 p0 p1 p2 p3 H58 hb9 HB8 B8
  go_wp2_with fail
  refine (texts_same wanted A5 nw c5 AW nw cw w9 (C_front H59.out) (by omega) (Kd.C_below HW.out HB9.out) gW (by omega)).mono ?_
  rintro ee w10 ⟨rfl, hb10⟩
  have HB10 := Aside0.mk (HB9.out.trans (hb10.mono HB9.out.size))
  have H510 := Aside0.mk (Kd.C_below H59.out hb10)
  clear H59 hb10 HB9
  go_wp2_with fail
  refine (spared_calls wanted A5 nw c5 w10 H510.out hcap5 (by omega)).mono ?_
  rintro ee w11 ⟨rfl, rfl⟩
  go_wp2
  go_ret
  exact ⟨rfl, HB10.out⟩
end Go.Proofs.YtghjinhgloegaaaDoor
