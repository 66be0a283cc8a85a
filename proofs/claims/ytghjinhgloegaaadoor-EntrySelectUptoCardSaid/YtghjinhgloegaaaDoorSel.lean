/- entry.Select: what it answers. -/
import Derived.Test.YtghjinhgloegaaaDoorFunc
import Derived.Test.YtghjinhgloegaaaDoorLaw
namespace Go.Proofs.YtghjinhgloegaaaDoor
open Go.RowKit Go.Proofs.YtghjinhgloegaaaDoorW.PrintWords
set_option linter.unusedVariables false
set_option linter.unusedSimpArgs false

theorem at_k39 {w : World} {A : Option Addr} {n : Nat} {xs : List S39} (h : Kd.C k39 w A n xs) (k : Nat) (hk : k < n) : ∃ ad A2 c2, A = some ad ∧ w.cell? (ad.add (k * 3)) = some (.string (xs.getD k z39).f0) ∧ w.cell? ⟨(ad.add (k * 3)).block, (ad.add (k * 3)).off + 1, none⟩ = some (.string (xs.getD k z39).f1) ∧ w.cell? ⟨(ad.add (k * 3)).block, (ad.add (k * 3)).off + 2, none⟩ = some (.slice A2 (xs.getD k z39).f2.length c2) ∧ Kd.string.C w A2 (xs.getD k z39).f2.length (xs.getD k z39).f2 := by
  obtain ⟨ad, c, e, _, hK, hc0⟩ := Kd.C_get h z39 (k : Int) (by omega) (by omega)
  have hc : ∀ j u, c[j]? = some u → w.cell? (ad.add (k * 3 + j)) = some u := by
    have h3 : k39.sz = 3 := rfl
    simpa [h3] using hc0
  have hK' : k39.K w (xs.getD k z39) c := by simpa using hK
  obtain ⟨A2, c2, rfl, l2, g2⟩ := k39_open hK'
  exact ⟨ad, A2, c2, e, hc 0 _ rfl, by rw [← add_field _ _ 1 (by omega)]; exact hc 1 _ rfl, by rw [← add_field _ _ 2 (by omega)]; exact hc 2 _ rfl, g2⟩
theorem inf48 : (Tryd.prog.info? 48).map (fun i => (i.zero, i.size, i.bytes)) = some (some .nilFunc, 1, 8) := by kernel_rfl

def effW (wanted : List ByteArray) : List ByteArray := if wanted.length = 0 then [⟨#[42]⟩] else wanted
def sent (ty : Bool) (a : S39) : S39 := ⟨a.f0, ⟨#[]⟩, if ty = true then [] else a.f2⟩
def selF (attrs : List S39) (wanted : List ByteArray) (ty : Bool) : List S39 := (attrs.filter fun a => (effW wanted).any (askedF · a.f1)).map (sent ty)
def SelPost (w : World) (l : List S39) (e : Ending) (w' : World) : Prop := ∃ v, e = .returned v ∧ Kd.R k39 39 w' w.heap.size (fun _ => True) v l ∧ Below w.heap.size w w'
structure Small (attrs : List S39) : Prop where
  len : attrs.length ≤ 100000000
  each : ∀ a ∈ attrs, a.f1.size ≤ 1000000000 ∧ a.f2.length ≤ 1000000000
structure SmallW (l : List ByteArray) : Prop where
  len : l.length ≤ 100000000
  each : ∀ x ∈ l, x.size ≤ 1000000000
theorem effW_small {l : List ByteArray} (h : SmallW l) : SmallW (effW l) := by
  unfold effW
  split
  · exact ⟨by simp, fun x hx => by simp at hx; subst hx; decide⟩
  · exact h
theorem AsksAt.start (w : World) (base : Nat) : AsksAt w base [] (.slice none 0 0) [] := ⟨own_nil _ _ _ _, rfl, fun j want u h => by simp at h⟩
theorem AsksAt.snoc {w w2 : World} {base : Nat} {wants : List ByteArray} {A : Option Addr} {c : Nat} {vs : List Value} {want : ByteArray} {v v3 : Value} (h : AsksAt w base wants (.slice A vs.length c) vs) (hb : ∀ (b : Nat) (x : ByteArray), w.heap[b]? = some (Obj.cells #[.string x] 9 (0, 0)) → w2.heap[b]? = some (Obj.cells #[.string x] 9 (0, 0)))
    (hv : FnOf w2 want v) (ho : w2.ownsRow base 48 1 v3 (vs.length + 1) (vs ++ [v])) : AsksAt w2 base (wants ++ [want]) v3 (vs ++ [v]) := by
  refine ⟨by simpa using ho, by simp [h.len], fun j wt u h1 h2 => ?_⟩
  by_cases hj : j < vs.length
  · rw [List.getElem?_append_left (by rw [← h.len]; exact hj)] at h1
    rw [List.getElem?_append_left hj] at h2
    exact (h.fn j wt u h1 h2).keep fun b hx => hb b wt hx
  · have h3 := (List.getElem?_eq_some_iff.1 h2).1
    have : j = vs.length := by simp at h3; omega
    subst this
    have e1 : wt = want := by rw [h.len] at h1; simpa using h1.symm
    have e2 : u = v := by simpa using h2.symm
    subst e1 e2
    exact hv
theorem AsksAt.far {w w1 : World} {base : Nat} {wants : List ByteArray} {v : Value} {vs : List Value} (h : AsksAt w base wants v vs) (hg : w.grownBy w1 v.ownBlock) {b : Nat} {x : ByteArray} (hb : w.heap[b]? = some (Obj.cells #[.string x] 9 (0, 0))) : w1.heap[b]? = some (Obj.cells #[.string x] 9 (0, 0)) := by
  refine blk_grown hb hg ?_
  rcases h.own.2 with ⟨rfl, _⟩ | ⟨g, cap, cur, rfl, _, hgb, _⟩
  · simp [Value.ownBlock]
  · have := blk_ne hb hgb (by decide)
    simpa [Value.ownBlock] using this

set_option maxHeartbeats 4000000 in
set_option maxRecDepth 100000 in
theorem entry_Select (line : Int) (name : ByteArray) (K1 : Option Addr) (n1 c1 : Nat) (attrs : List S39) (AA : Option Addr) (ca : Nat) (wanted : List ByteArray) (AW : Option Addr) (cw : Nat) (ty : Bool) (w : World)
    (hr : Kd.C k39 w AA attrs.length attrs) (hw : Kd.C Kd.string w AW wanted.length wanted) (hs : Small attrs) (hsw : SmallW wanted) (hm : MaxAt w) :
    Calls Tryd.prog 15 #[.agg #[.int .i64 line, .string name, .slice K1 n1 c1, .slice AA attrs.length ca], .slice AW wanted.length cw, .bool ty] w (SelPost w (selF attrs wanted ty)) := by
  have hu39 := Tryd.underlying39
  have hu25 := Tryd.underlying25
  obtain ⟨i48, hi48, hz0, hz1, hz2⟩ := info_parts inf48
  have HR := Aside0.mk hr
  have HW := Aside0.mk hw
  have HS := Aside0.mk hs
  have HSW := Aside0.mk hsw
  have HM := Aside0.mk hm
  have hal := hs.len
  have hwl := hsw.len
  obtain ⟨n, hn⟩ : ∃ n, n = attrs.length := ⟨_, rfl⟩
  rw [← hn] at hal ⊢
  have HN := Aside0.mk hn
  clear hr hw hs hsw hm hn
  go_enter Tryd.func15, Tryd.ntmps15
  go_upto_if 16 with (fail)
  go_cut [1] (fun v wr => ∃ (A : Option Addr) (c : Nat), v = .slice A (effW wanted).length c ∧ Aside0 (Kd.C Kd.string wr A (effW wanted).length (effW wanted)) ∧ Aside0 (Below (w.heap.size + 1) (w.alloc (.cells #[.int .i64 line, .string name, .slice K1 n1 c1, .slice AA n ca] 25)) wr))
  case first =>
    by_cases h0 : wanted.length = 0
    · have hne : ((wanted.length : Int) == 0) = true := by simp [h0]
      have HE := Aside0.mk (show effW wanted = [⟨#[42]⟩] by simp [effW, h0])
      clear h0
      go_wp2
      go_meet
      case rel =>
        rw [HE.out]
        refine ⟨some ⟨w.heap.size + 1, 0, none⟩, 1, rfl, ⟨?_⟩, ⟨(Below.refl _ _).alloc (by simp) _⟩⟩
        have h1 := C_cells (w.alloc (.cells #[.int .i64 line, .string name, .slice K1 n1 c1, .slice AA n ca] 25)) [(⟨#[42]⟩ : ByteArray)] 1 rfl (by omega)
        simpa using h1
    · have hne : ((wanted.length : Int) == 0) = false := by rw [beq_eq_false_iff_ne]; omega
      have HE := Aside0.mk (show effW wanted = wanted by simp [effW, h0])
      clear h0
      go_wp2
      go_meet
      case rel =>
        rw [HE.out]
        exact ⟨AW, cw, rfl, ⟨Kd.C_alloc HW.out _⟩, ⟨Below.refl _ _⟩⟩
  case rest =>
    obtain ⟨A1, c1', rfl, HW1, HB1⟩ := hcut
    have HSE := Aside0.mk (show SmallW (effW wanted) from effW_small HSW.out)
    have HSF := Aside0.mk (show selF attrs wanted ty = (attrs.filter fun a => (effW wanted).any (askedF · a.f1)).map (sent ty) from rfl)
    generalize effW wanted = ws at HW1 HSE HSF ⊢
    have hbw : Below w.heap.size w wc := ((Below.refl w.heap.size w).alloc (Nat.le_refl _) _).trans (HB1.out.mono (by omega))
    have h25 := (HB1.out.block w.heap.size (by omega)).trans (blk_new w _)
    have hwl1 := HSE.out.len
    have HBW := Aside0.mk hbw
    have H25 := Aside0.mk h25
    obtain ⟨m, hmm⟩ : ∃ m, m = ws.length := ⟨_, rfl⟩
    rw [← hmm] at hwl1 HW1 ⊢
    have HMM := Aside0.mk hmm
    have q253 : wc.cell? ⟨w.heap.size, 3, none⟩ = some (.slice AA n ca) := blk_cell h25 3
    clear HB1 hbw h25 hmm HW HSW hwl
    go_wp2
    go_loopg [7, 20] m (fun kq v7 v20 wr => ∃ (k : Nat) (vs : List Value) (A : Option Addr) (c : Nat), k ≤ m ∧ v20 = .int .i64 k ∧ v7 = .slice A vs.length c ∧ vs.length = k ∧ Aside0 (kq + k = m) ∧ Aside0 (AsksAt wr wc.heap.size (ws.take k) (.slice A vs.length c) vs) ∧ Aside0 (Below wc.heap.size wc wr))
    case atStart => exact ⟨0, [], none, 0, Nat.zero_le _, rfl, rfl, rfl, ⟨rfl⟩, ⟨AsksAt.start _ _⟩, ⟨Below.refl _ _⟩⟩
    case round =>
      obtain ⟨k, vs, A, c, hk, rfl, rfl, hvk, hq, hA, hb⟩ := hrel
      subst hvk
      by_cases hlt : vs.length < m
      · obtain ⟨ad, rfl, hcell⟩ := Kd.at_string (Kd.C_below HW1.out hb.out) vs.length (by omega) (by have := HMM.out; omega)
        have hkw : vs.length < ws.length := by have := HMM.out; omega
        obtain ⟨o, ho⟩ : ∃ o, o = ws.getD vs.length ByteArray.empty := ⟨_, rfl⟩
        have hcell2 : wr.cell? (ad.add vs.length) = some (.string o) := by rw [ho]; simpa [rdOf] using hcell
        have hws : o.size ≤ 1000000000 := HSE.out.each _ (by rw [ho, List.getD_eq_getElem?_getD, List.getElem?_eq_getElem hkw]; exact List.getElem_mem _)
        have HTK := Aside0.mk (show ws.take (vs.length + 1) = ws.take vs.length ++ [o] by rw [List.take_succ_eq_append_getElem hkw, ho, List.getD_eq_getElem?_getD, List.getElem?_eq_getElem hkw]; rfl)
        have HWS := Aside0.mk hws
        clear hkw hws hcell ho
        go_wp2_with fail
        refine (entry_asked o wr HWS.out).mono ?_; rintro ee w2 ⟨v, rfl, hfn, hb2⟩
        obtain ⟨g, lb, hve, hfe⟩ := hfn
        have HFN := Aside0.mk (show FnOf w2 o v from ⟨g, lb, hve, hfe⟩)
        clear hfe
        subst hve
        have HA2 := Aside0.mk (hA.out.below hb2)
        have HB2 := Aside0.mk (hb.out.trans (hb2.mono hb.out.size))
        have hbs := (hb.out.trans (hb2.mono hb.out.size)).size
        clear hb2 hA hb hcell2
        go_wp2_with (at_builtin; refine print_append_cells wc.heap.size rfl (.tmp 24) (.tmp 27) 49 48 .nilFunc 1 8 rfl Tryd.underlying49 inf48 rfl (by decide) (by decide) (.slice A vs.length c) vs.length vs [.func (.func g) #[] lb] rfl rfl rfl (by intro u hu; simp at hu; subst hu; rfl) (HA2.out.own) HB2.out hbs (by omega) ?_; intro v3 w3 ho hb3 hg3 hat3; have HO3 := Aside0.mk ho; have HB3 := Aside0.mk hb3; have HG3 := Aside0.mk hg3; clear ho hb3 hg3 hat3)
        go_roundg (gk - 1)
        case measure => have := hq.out; omega
        case rel =>
          refine ⟨vs.length + 1, vs ++ [.func (.func g) #[] lb], ?_⟩
          obtain ⟨A3, c3, rfl⟩ : ∃ A3 c3, v3 = .slice A3 (vs.length + 1) c3 := by
            rcases HO3.out.2 with ⟨rfl, h⟩ | ⟨_, _, _, rfl, _⟩
            · simp at h
            · exact ⟨_, _, rfl⟩
          refine ⟨A3, c3, by omega, by go_num, by simp, by simp, ⟨by have := hq.out; omega⟩, ⟨?_⟩, HB3⟩
          rw [HTK.out]
          have hfar : ∀ (b : Nat) (x : ByteArray), w2.heap[b]? = some (Obj.cells #[.string x] 9 (0, 0)) → w3.heap[b]? = some (Obj.cells #[.string x] 9 (0, 0)) := fun b x hx => AsksAt.far HA2.out HG3.out hx
          simpa using HA2.out.snoc hfar (HFN.out.keep fun b hx => hfar b _ hx) HO3.out
      · obtain rfl : vs.length = m := by omega
        have HTK := Aside0.mk (show ws.take vs.length = ws from List.take_of_length_le (by have := HMM.out; omega))
        have HBr := hb
        have h25 := Aside0.mk (blk_below H25.out hb.out)
        have q25 : wr.cell? ⟨w.heap.size, 3, none⟩ = some (.slice AA n ca) := blk_cell h25.out 3
        clear q253
        go_wp2
        have HA1 := hA
        rw [HTK.out] at HA1
        have hbl : Below w.heap.size w wr := HBW.out.trans (hb.out.mono HBW.out.size)
        have HBL := Aside0.mk hbl
        have HR1 := Aside0.mk (Kd.C_below HR.out hbl)
        have HM1 := Aside0.mk (HM.out.below hbl)
        rename World => wl
        clear hbl hb hA h25 q25 HBr hq HBW H25 HR HM HW1 HSE
        go_loopg [10, 33] n (fun kq v10 v33 wk => ∃ (k : Nat), k ≤ n ∧ v33 = .int .i64 k ∧ Aside0 (kq + k = n) ∧ Aside0 (Kd.R k39 39 wk wl.heap.size (fun _ => True) v10 (((attrs.take k).filter fun a => ws.any (askedF · a.f1)).map (sent ty))) ∧ Aside0 (Below wl.heap.size wl wk))
        case atStart => exact ⟨0, Nat.zero_le _, rfl, ⟨rfl⟩, ⟨Kd.R_nil _ _ _ _ _⟩, ⟨Below.refl _ _⟩⟩
        case round =>
          obtain ⟨k, hk, rfl, hq, hA, hb⟩ := hrel
          by_cases hlt : k < n
          · obtain ⟨ad, A2, c2, rfl, hc0, hc1, hc2, hC2⟩ := at_k39 (Kd.C_below HR1.out hb.out) k (by have := HN.out; omega)
            have hka : k < attrs.length := by have := HN.out; omega
            obtain ⟨x, hx⟩ : ∃ x, x = attrs.getD k z39 := ⟨_, rfl⟩
            rw [← hx] at hc0 hc1 hc2 hC2
            have hx2 : attrs.getD k z39 = attrs[k] := by rw [List.getD_eq_getElem?_getD, List.getElem?_eq_getElem hka]; rfl
            have hxs := HS.out.each x (by rw [hx, hx2]; exact List.getElem_mem _)
            have HX := Aside0.mk (show attrs.take (k + 1) = attrs.take k ++ [x] by rw [List.take_succ_eq_append_getElem hka, hx, hx2])
            have HC2 := Aside0.mk hC2
            have hxs1 := Aside0.mk hxs.1
            have hxs2 := Aside0.mk hxs.2
            clear hxs hx hx2 hka hC2
            obtain ⟨xd, xc, xv⟩ := x
            obtain ⟨nv, hnv⟩ : ∃ nv, nv = xv.length := ⟨_, rfl⟩
            simp only [← hnv] at hc0 hc1 hc2 HC2 hxs2
            have HNV := Aside0.mk hnv
            clear hnv
            go_wp2_with fail
            have HAk := Aside0.mk (HA1.out.below (hb.out.trans (Below.alloc (Below.refl _ _) hb.out.size (.cells #[.string xd, .string xc, .slice A2 nv c2] 39))))
            refine (fn_Contains ws vs wc.heap.size A c xd xc A2 nv c2 wr.heap.size _ HAk.out (by omega) hxs1.out ((HM1.out.below hb.out).alloc _) (blk_new _ _)).mono ?_
            rintro ee w2 ⟨rfl, hb2⟩
            have h12 := blk_below (blk_new wr (.cells #[.string xd, .string xc, .slice A2 nv c2] 39)) hb2
            have hb3 : Below wr.heap.size wr w2 := ((Below.refl _ _).alloc (Nat.le_refl _) _).trans (hb2.mono (by simp))
            have q0 : w2.cell? ⟨wr.heap.size, 0, none⟩ = some (.string xd) := blk_cell h12 0
            have q2 : w2.cell? ⟨wr.heap.size, 2, none⟩ = some (.slice A2 nv c2) := blk_cell h12 2
            have H12 := Aside0.mk h12
            have HB3 := Aside0.mk hb3
            have HA3 := Aside0.mk (Kd.R_below hA.out hb3)
            have HB4 := Aside0.mk (hb.out.trans (hb3.mono hb.out.size))
            have HC3 := Aside0.mk (Kd.C_below HC2.out hb3)
            have hws4 := (hb.out.trans (hb3.mono hb.out.size)).size
            have hws3 := blk_lt h12
            clear h12 hb3 hb2 hA hb hc0 hc1 hc2 HC2 HAk
            cases hask : (ws.any (askedF · xc)) with
            | false =>
              have HF := Aside0.mk (show ((attrs.take (k + 1)).filter fun a => ws.any (askedF · a.f1)) = ((attrs.take k).filter fun a => ws.any (askedF · a.f1)) by rw [HX.out]; simp [List.filter_append, hask])
              clear hask
              go_wp2
              go_roundg (gk - 1)
              case measure => have := hq.out; omega
              case rel => exact ⟨k + 1, by omega, by go_num, ⟨by have := hq.out; omega⟩, ⟨by rw [HF.out]; exact HA3.out⟩, HB4⟩
            | true =>
              have HF := Aside0.mk (show ((attrs.take (k + 1)).filter fun a => ws.any (askedF · a.f1)).map (sent ty) = ((attrs.take k).filter fun a => ws.any (askedF · a.f1)).map (sent ty) ++ [sent ty ⟨xd, xc, xv⟩] by rw [HX.out]; simp [List.filter_append, hask])
              clear hask
              obtain ⟨A5, c5, rfl⟩ := Kd.R_slice HA3.out
              have hlen : (((attrs.take k).filter fun a => ws.any (askedF · a.f1)).map (sent ty)).length ≤ k := by
                rw [List.length_map]; exact Nat.le_trans (List.length_filter_le _ _) (by simp; omega)
              obtain ⟨L, hL⟩ : ∃ L, L = (((attrs.take k).filter fun a => ws.any (askedF · a.f1)).map (sent ty)) := ⟨_, rfl⟩
              rw [← hL] at HA3 hlen HF ⊢
              clear hL
              have hlt5 := Aside0.mk (Kd.R_lt HA3.out)
              have HL3 := Aside0.mk (Kd.R_mono (Kd.R_bound HA3.out) (ok' := fun k => k < w2.heap.size) (fun k hk => hk.2.2.1))
              cases ty with
              | true =>
                have HB5 := Aside0.mk (HB4.out.alloc hws4 (.cells #[.string xd, .string ⟨#[]⟩, .slice none 0 0] 39))
                go_wp2_with (at_builtin; refine Kd.R_append k39 (w0 := wl) (W := w2.alloc (.cells #[.string xd, .string ⟨#[]⟩, .slice none 0 0] 39)) wl.heap.size rfl (.tmp 50) (.tmp 52) 23 39 (.agg #[.string ⟨#[]⟩, .string ⟨#[]⟩, .slice none 0 0]) 56 rfl Tryd.underlying23 info39 rfl (by decide) (by decide) (.slice A5 L.length c5) L (sent true ⟨xd, xc, xv⟩) [.string xd, .string ⟨#[]⟩, .slice none 0 0] (fun _ => True) (fun _ => False) rfl (show Value.slice (some ⟨w2.heap.size + 1, 0, none⟩) 1 1 = _ by simp) (k39_mkM _ _ _ (sent true ⟨xd, xc, xv⟩) (Kd.R_nil _ _ _ _ _)) (fun _ h => h.elim) (fun _ _ => trivial) (Kd.R_alloc HA3.out _) HB5.out (by simp; omega) (by omega) ?_; intro v3 w3 ho hb3 hg3 hat3; have HO3 := Aside0.mk ho; have HB6 := Aside0.mk hb3; clear ho hb3 hg3 hat3)
                go_roundg (gk - 1)
                case measure => have := hq.out; omega
                case rel => exact ⟨k + 1, by omega, by go_num, ⟨by have := hq.out; omega⟩, ⟨by rw [HF.out]; exact HO3.out⟩, HB6⟩
              | false =>
                have HC4 := Aside0.mk (Kd.C_alloc HC3.out (.cells #[.string xd, .string ⟨#[]⟩, .slice none 0 0] 39))
                go_wp2_with fail
                rw [HNV.out] at hxs2 HC4 ⊢
                refine (str_Clone xv A2 c2 _ HC4.out hxs2.out).mono ?_
                rintro ee w4 ⟨v4, rfl, hR4, hb4⟩
                obtain ⟨A4, c4, rfl⟩ := Kd.R_slice hR4
                have h13 := blk_below (blk_new w2 (.cells #[.string xd, .string ⟨#[]⟩, .slice none 0 0] 39)) hb4
                have H13 := Aside0.mk h13
                have hwl4 := blk_lt h13
                have hb5 : Below w2.heap.size w2 w4 := ((Below.refl _ _).alloc (Nat.le_refl _) _).trans (hb4.mono (by simp))
                have HR4 := Aside0.mk (Kd.R_mono (Kd.R_bound hR4) (ok' := fun k => w2.heap.size < k) (fun k hk => by have := hk.2.1; simp at this; omega))
                have HA5 := Aside0.mk (Kd.R_below HA3.out hb5)
                have HB5 := Aside0.mk (HB4.out.trans (hb5.mono hws4))
                have hws5 := hb5.size
                have p0 : w4.cell? ⟨w2.heap.size, 0, none⟩ = some (.string xd) := blk_cell h13 0
                have p1 : w4.cell? ⟨w2.heap.size, 1, none⟩ = some (.string ⟨#[]⟩) := blk_cell h13 1
                have p2 : w4.cell? ⟨w2.heap.size, 2, none⟩ = some (.slice none 0 0) := blk_cell h13 2
                have pf : w4.frozen? ⟨w2.heap.size, 2, none⟩ = false := blk_frozen h13 2
                have hbk : wl.heap.size ≤ w2.heap.size := hws4
                have hset : ∀ k, k ≠ w2.heap.size → (w4.setCell ⟨w2.heap.size, 2, none⟩ (.slice A4 xv.length c4)).heap[k]? = w4.heap[k]? := fun k hk => Below.heap_setCell _ _ _ _ hk
                have HA6 := Aside0.mk (Kd.R_mono (Kd.R_step (Kd.R_below HL3.out hb5) (w1 := w4.setCell ⟨w2.heap.size, 2, none⟩ (.slice A4 xv.length c4)) (fun k hk _ => hset k (by omega))) (ok' := fun _ => True) (fun _ _ => trivial))
                have HR6 := Aside0.mk (Kd.R_lower (Kd.R_step HR4.out (w1 := w4.setCell ⟨w2.heap.size, 2, none⟩ (.slice A4 xv.length c4)) (fun k hk _ => hset k (by omega))) (base' := wl.heap.size) (by simp; omega))
                have HB6 := Aside0.mk (HB5.out.setCell (p := ⟨w2.heap.size, 2, none⟩) hbk (.slice A4 xv.length c4))
                clear hR4 hb4 hb5 h13 hset
                go_wp2_with (at_builtin; refine Kd.R_append k39 (w0 := wl) (W := w4.setCell ⟨w2.heap.size, 2, none⟩ (.slice A4 xv.length c4)) wl.heap.size rfl (.tmp 50) (.tmp 52) 23 39 (.agg #[.string ⟨#[]⟩, .string ⟨#[]⟩, .slice none 0 0]) 56 rfl Tryd.underlying23 info39 rfl (by decide) (by decide) (.slice A5 L.length c5) L (sent false ⟨xd, xc, xv⟩) [.string xd, .string ⟨#[]⟩, .slice A4 xv.length c4] (fun _ => True) (fun k => w2.heap.size < k) rfl (show Value.slice (some ⟨w4.heap.size, 0, none⟩) 1 1 = _ by simp) (k39_mkM _ _ _ (sent false ⟨xd, xc, xv⟩) HR6.out) (fun k hk => ⟨trivial, fun h => by have := hlt5.out k h.symm; omega⟩) (fun _ _ => trivial) HA6.out HB6.out (by simp; omega) (by omega) ?_; intro v3 w3 ho hb3 hg3 hat3; have HO3 := Aside0.mk ho; have HB7 := Aside0.mk hb3; clear ho hb3 hg3 hat3)
                go_roundg (gk - 1)
                case measure => have := hq.out; omega
                case rel => exact ⟨k + 1, by omega, by go_num, ⟨by have := hq.out; omega⟩, ⟨by rw [HF.out]; exact HO3.out⟩, HB7⟩
          · obtain rfl : k = n := by omega
            have HTK2 := Aside0.mk (show attrs.take k = attrs from List.take_of_length_le (by have := HN.out; omega))
            go_wp2
            go_ret
            rw [HSF.out]
            rw [HTK2.out] at hA
            exact ⟨_, rfl, Kd.R_lower hA.out HBL.out.size, HBL.out.trans (hb.out.mono HBL.out.size)⟩
end Go.Proofs.YtghjinhgloegaaaDoor
