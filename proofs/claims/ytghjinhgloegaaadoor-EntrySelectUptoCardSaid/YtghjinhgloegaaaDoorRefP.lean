/- The reference's Select: what it answers. -/
import Derived.Test.YtghjinhgloegaaaDoorRefO
import Derived.Test.YtghjinhgloegaaaDoorSel
namespace Go.Proofs.YtghjinhgloegaaaDoor
open Go.RowKit Go.Proofs.YtghjinhgloegaaaDoorW.PrintWords Go.Proofs.YtghjinhgloegaaaDoorW.PrintLast
set_option linter.unusedVariables false
set_option linter.unusedSimpArgs false

theorem effW_nine {l : List ByteArray} (h : ∀ x ∈ l, x.size ≤ 900000000) : ∀ x ∈ effW l, x.size ≤ 900000000 := by
  unfold effW
  split
  · intro x hx; simp at hx; subst hx; decide
  · exact h
set_option maxHeartbeats 16000000 in
set_option maxRecDepth 100000 in
theorem refSelect_calls (line : Int) (name : ByteArray) (K1 : Option Addr) (n1 c1 : Nat) (attrs : List S39) (AA : Option Addr) (n ca : Nat) (wanted : List ByteArray) (AW : Option Addr) (nw cw : Nat) (ty : Bool) (w : World)
    (hr : Kd.C k39 w AA n attrs) (hw : Kd.C Kd.string w AW nw wanted) (hs : Small attrs) (hs9 : ∀ x ∈ attrs, x.f1.size ≤ 900000000) (hsw : SmallW wanted) (hw9 : ∀ x ∈ wanted, x.size ≤ 900000000) (hk : KindsAt w) :
    Calls Tryd.prog 16 #[.agg #[.int .i64 line, .string name, .slice K1 n1 c1, .slice AA n ca], .slice AW nw cw, .bool ty] w (SelPost w (selF attrs wanted ty)) := by
  have hu39 := Tryd.underlying39
  have hu25 := Tryd.underlying25
  have hal : n ≤ 100000000 := hr.1 ▸ hs.len
  have HN := Aside0.mk hr.1
  have HNW := Aside0.mk hw.1
  have HR := Aside0.mk hr
  have HW := Aside0.mk hw
  have HS := Aside0.mk hs
  have HS9 := Aside0.mk hs9
  have HSW := Aside0.mk hsw
  have HW9 := Aside0.mk hw9
  have HKN := Aside0.mk hk
  clear hr hw hs hs9 hsw hw9 hk
  go_enter Tryd.func16, Tryd.ntmps16
  go_upto_if 15 with (fail)
  go_cut [1] (fun v wr => ∃ (A : Option Addr) (m c : Nat), v = .slice A m c ∧ Aside0 (Kd.C Kd.string wr A m (effW wanted)) ∧ Aside0 (Below (w.heap.size + 1) (w.alloc (.cells #[.int .i64 line, .string name, .slice K1 n1 c1, .slice AA n ca] 25)) wr))
  case first =>
    by_cases h0 : nw = 0
    · have hne : ((nw : Int) == 0) = true := by simp [h0]
      have HE := Aside0.mk (show effW wanted = [⟨#[42]⟩] by unfold effW; rw [if_pos (by have := HNW.out; omega)])
      clear h0
      go_wp2
      go_meet
      case rel =>
        rw [HE.out]
        refine ⟨some ⟨w.heap.size + 1, 0, none⟩, 1, 1, rfl, ⟨?_⟩, ⟨(Below.refl _ _).alloc (by simp) _⟩⟩
        have h1 := C_cells (w.alloc (.cells #[.int .i64 line, .string name, .slice K1 n1 c1, .slice AA n ca] 25)) [(⟨#[42]⟩ : ByteArray)] 1 rfl (by omega)
        simpa using h1
    · have hne : ((nw : Int) == 0) = false := by rw [beq_eq_false_iff_ne]; omega
      have HE := Aside0.mk (show effW wanted = wanted by unfold effW; rw [if_neg (by have := HNW.out; omega)])
      clear h0
      go_wp2
      go_meet
      case rel =>
        rw [HE.out]
        exact ⟨AW, nw, cw, rfl, ⟨Kd.C_alloc HW.out _⟩, ⟨Below.refl _ _⟩⟩
  case rest =>
    obtain ⟨A1, m, c1', rfl, HW1, HB1⟩ := hcut
    have HSE := Aside0.mk (show SmallW (effW wanted) from effW_small HSW.out)
    have HE9 := Aside0.mk (effW_nine HW9.out)
    have HSF := Aside0.mk (show selF attrs wanted ty = (attrs.filter fun a => (effW wanted).any (askedF · a.f1)).map (sent ty) from rfl)
    generalize effW wanted = ws at HW1 HSE HE9 HSF
    have hbw : Below w.heap.size w wc := ((Below.refl w.heap.size w).alloc (Nat.le_refl _) _).trans (HB1.out.mono (by omega))
    have HKW := Aside0.mk (HKN.out.below hbw)
    have HR1 := Aside0.mk (Kd.C_below HR.out hbw)
    have H25 := Aside0.mk ((HB1.out.block w.heap.size (by omega)).trans (blk_new w _))
    have HBW := Aside0.mk hbw
    have hml : m ≤ 100000000 := HW1.out.1 ▸ HSE.out.len
    rename World => wl
    clear hbw HR HW HKN HB1
    go_wp2_with fail
    go_loopg [7, 8] n (fun kq v7 v8 wk => ∃ (k : Nat), k ≤ n ∧ v8 = .int .i64 k ∧ Aside0 (kq + k = n) ∧ Aside0 (Kd.R k39 39 wk wl.heap.size (fun _ => True) v7 (((attrs.take k).filter fun a => ws.any (askedF · a.f1)).map (sent ty))) ∧ Aside0 (Below wl.heap.size wl wk))
    case atStart => exact ⟨0, Nat.zero_le _, rfl, ⟨rfl⟩, ⟨Kd.R_nil _ _ _ _ _⟩, ⟨Below.refl _ _⟩⟩
    case round =>
      obtain ⟨k, hk, rfl, hq, hA, hb⟩ := hrel
      obtain ⟨_, _, _, b3⟩ := cells4 (blk_below H25.out hb.out)
      by_cases hlt : k < n
      · obtain ⟨A5, c5, rfl⟩ := Kd.R_slice hA.out
        obtain ⟨k1, rfl⟩ : ∃ z, gk = z + 1 := ⟨gk - 1, by have := hq.out; omega⟩
        have hka : k < attrs.length := by have := HN.out; omega
        obtain ⟨x, hx⟩ : ∃ x, attrs[k]? = some x := ⟨_, List.getElem?_eq_getElem hka⟩
        have HXK := Aside0.mk hx
        obtain ⟨_, ad, _, _, _, rfl, _⟩ := at_x HR1.out k x hx
        have HX9 := Aside0.mk (HS9.out x (List.mem_of_getElem? hx))
        have HX2 := Aside0.mk (HS.out.each x (List.mem_of_getElem? hx)).2
        have HTAKE := Aside0.mk (show attrs.take (k + 1) = attrs.take k ++ [x] by
          obtain ⟨hk2, rfl⟩ := List.getElem?_eq_some_iff.1 hx
          exact List.take_succ_eq_append_getElem hk2)
        have hlen : (((attrs.take k).filter fun a => ws.any (askedF · a.f1)).map (sent ty)).length ≤ k := by
          rw [List.length_map]; exact Nat.le_trans (List.length_filter_le _ _) (by simp; omega)
        have HF0 := Aside0.mk (show ws.any (askedF · x.f1) = false → ((attrs.take (k + 1)).filter fun a => ws.any (askedF · a.f1)).map (sent ty) = ((attrs.take k).filter fun a => ws.any (askedF · a.f1)).map (sent ty) from fun h => by rw [HTAKE.out]; simp [List.filter_append, h])
        have HF1 := Aside0.mk (show ws.any (askedF · x.f1) = true → ((attrs.take (k + 1)).filter fun a => ws.any (askedF · a.f1)).map (sent ty) = ((attrs.take k).filter fun a => ws.any (askedF · a.f1)).map (sent ty) ++ [sent ty x] from fun h => by rw [HTAKE.out]; simp [List.filter_append, h])
        obtain ⟨L, hL⟩ : ∃ L, L = (((attrs.take k).filter fun a => ws.any (askedF · a.f1)).map (sent ty)) := ⟨_, rfl⟩
        rw [← hL] at hA hlen HF0 HF1 ⊢
        have HLL := Aside0.mk hlen
        rename World => wo
        clear hL hka hx hlen
        go_wp2_with fail
        go_loopg [9, 10] m (fun kq v9 v10 wi => ∃ (j : Nat), j ≤ m ∧ v9 = .bool ((ws.take j).any (askedF · x.f1)) ∧ v10 = .int .i64 j ∧ Aside0 (kq + j = m) ∧ Aside0 (Kd.R k39 39 wi wl.heap.size (fun _ => True) (.slice A5 L.length c5) L) ∧ Aside0 (Below wl.heap.size wl wi))
        case atStart => exact ⟨0, Nat.zero_le _, rfl, rfl, ⟨rfl⟩, hA, hb⟩
        case round =>
          obtain ⟨j, hj, rfl, rfl, hqi, hAi, hbi⟩ := hrel
          obtain ⟨_, _, _, b3⟩ := cells4 (blk_below H25.out hbi.out)
          obtain ⟨_, ad', A2, n2, c2, had', t0, t1, t2, t3, t4⟩ := at_x (Kd.C_below HR1.out hbi.out) k x HXK.out
          obtain rfl := Option.some.inj had'
          have HC2 := Aside0.mk t4
          have hn2 := t4.1
          clear had' t4
          by_cases hjm : j < m
          · obtain ⟨wd, rfl, qj⟩ := str_at (Kd.C_below HW1.out hbi.out) j hjm
            obtain ⟨q, hqq⟩ : ∃ q, q = ws.getD j ByteArray.empty := ⟨_, rfl⟩
            rw [← hqq] at qj
            have hjw : j < ws.length := by have := HW1.out.1; omega
            have HQ := Aside0.mk (HE9.out q (hqq ▸ getD_mem ws j hjw))
            have HNX := Aside0.mk (show (ws.take (j + 1)).any (askedF · x.f1) = ((ws.take j).any (askedF · x.f1) || askedF q x.f1) by
              rw [List.take_succ_eq_append_getElem hjw, List.any_append, hqq, List.getD_eq_getElem?_getD, List.getElem?_eq_getElem hjw]; simp)
            clear hqq hjw
            generalize hbb : (ws.take j).any (askedF · x.f1) = bb at HNX ⊢
            clear hbb
            go_upto_region 11 with (fail)
            refine start_ (n := 12) (S := (fun w' => Below wr.heap.size wr w' ∧ w'.cell? (wd.add j) = some (.string q) ∧ w'.cell? ⟨w.heap.size, 3, none⟩ = some (.slice (some ad) n ca) ∧ w'.cell? ⟨(ad.add (k * 3)).block, (ad.add (k * 3)).off + 1, none⟩ = some (.string x.f1))) (ds := []) #[false, false, false, false, false, false, false, false, false, false, false, false] (by kernel_rfl) rfl rfl ⟨below_drew (Below.refl _ _), qj, b3, t1⟩ (fun hHeld => ?_)
            refine pure_ (i := 0) (N := (some 30)) (v := ?_) (a' := ?_) #[true, false, false, false, false, false, false, false, false, false, false, false] rfl rfl (by kernel_rfl) (fun _ _ _ h => h) (Or.inl ⟨by rfl, ?_⟩) ?_ ?_
            rotate_left
            · intro w'
              go_simp
              all_goals with_reducible rfl
            rotate_left
            · simp only [Act.put, List.setIfInBounds_toArray, List.set_cons_zero, List.set_cons_succ, i64_w, i32_w]
              rfl
            refine pure_ (i := 1) (N := (some 31)) (v := ?_) (a' := ?_) #[true, true, false, false, false, false, false, false, false, false, false, false] rfl rfl (by kernel_rfl) (fun _ _ _ h => h) (Or.inl ⟨by rfl, ?_⟩) ?_ ?_
            rotate_left
            · intro w'
              go_simp
              all_goals with_reducible rfl
            rotate_left
            · simp only [Act.put, List.setIfInBounds_toArray, List.set_cons_zero, List.set_cons_succ, i64_w, i32_w]
              rfl
            refine pure_ (i := 2) (N := (some 32)) (v := ?_) (a' := ?_) #[true, true, true, false, false, false, false, false, false, false, false, false] rfl rfl (by kernel_rfl) (fun _ _ _ h => h) (Or.inl ⟨by rfl, ?_⟩) ?_ ?_
            rotate_left
            · intro w'
              go_simp
              all_goals with_reducible rfl
            rotate_left
            · simp only [Act.put, List.setIfInBounds_toArray, List.set_cons_zero, List.set_cons_succ, i64_w, i32_w]
              rfl
            refine take_ (i := 3) (N := (some 33)) (v := ?_) (a' := ?_) #[true, true, true, true, false, false, false, false, false, false, false, false] rfl rfl (by kernel_rfl) (fun _ _ _ h => h) (Or.inl ⟨by rfl, ?_⟩) hHeld ?_ ?_
            rotate_left
            · rintro w' ⟨_, s0, s3, s1⟩
              go_simp
              all_goals with_reducible rfl
            rotate_left
            · simp only [Act.put, List.setIfInBounds_toArray, List.set_cons_zero, List.set_cons_succ, i64_w, i32_w]
              rfl
            refine pure_ (i := 4) (N := (some 34)) (v := ?_) (a' := ?_) #[true, true, true, true, true, false, false, false, false, false, false, false] rfl rfl (by kernel_rfl) (fun _ _ _ h => h) (Or.inl ⟨by rfl, ?_⟩) ?_ ?_
            rotate_left
            · intro w'
              go_simp
              all_goals with_reducible rfl
            rotate_left
            · simp only [Act.put, List.setIfInBounds_toArray, List.set_cons_zero, List.set_cons_succ, i64_w, i32_w]
              rfl
            refine take_ (i := 5) (N := (some 35)) (v := ?_) (a' := ?_) #[true, true, true, true, true, true, false, false, false, false, false, false] rfl rfl (by kernel_rfl) (fun _ _ _ h => h) (Or.inl ⟨by rfl, ?_⟩) hHeld ?_ ?_
            rotate_left
            · rintro w' ⟨_, s0, s3, s1⟩
              go_simp
              all_goals with_reducible rfl
            rotate_left
            · simp only [Act.put, List.setIfInBounds_toArray, List.set_cons_zero, List.set_cons_succ, i64_w, i32_w]
              rfl
            refine pure_ (i := 6) (N := (some 36)) (v := ?_) (a' := ?_) #[true, true, true, true, true, true, true, false, false, false, false, false] rfl rfl (by kernel_rfl) (fun _ _ _ h => h) (Or.inl ⟨by rfl, ?_⟩) ?_ ?_
            rotate_left
            · intro w'
              go_simp
              all_goals with_reducible rfl
            rotate_left
            · simp only [Act.put, List.setIfInBounds_toArray, List.set_cons_zero, List.set_cons_succ, i64_w, i32_w]
              rfl
            refine pure_ (i := 7) (N := (some 37)) (v := ?_) (a' := ?_) #[true, true, true, true, true, true, true, true, false, false, false, false] rfl rfl (by kernel_rfl) (fun _ _ _ h => h) (Or.inl ⟨by rfl, ?_⟩) ?_ ?_
            rotate_left
            · intro w'
              go_simp
              all_goals with_reducible rfl
            rotate_left
            · simp only [Act.put, List.setIfInBounds_toArray, List.set_cons_zero, List.set_cons_succ, i64_w, i32_w]
              rfl
            refine pure_ (i := 8) (N := (some 38)) (v := ?_) (a' := ?_) #[true, true, true, true, true, true, true, true, true, false, false, false] rfl rfl (by kernel_rfl) (fun _ _ _ h => h) (Or.inl ⟨by rfl, ?_⟩) ?_ ?_
            rotate_left
            · intro w'
              go_simp
              all_goals with_reducible rfl
            rotate_left
            · simp only [Act.put, List.setIfInBounds_toArray, List.set_cons_zero, List.set_cons_succ, i64_w, i32_w]
              rfl
            refine take_ (i := 9) (N := (some 39)) (v := ?_) (a' := ?_) #[true, true, true, true, true, true, true, true, true, true, false, false] rfl rfl (by kernel_rfl) (fun _ _ _ h => h) (Or.inl ⟨by rfl, ?_⟩) hHeld ?_ ?_
            rotate_left
            · rintro w' ⟨_, s0, s3, s1⟩
              go_simp
              all_goals with_reducible rfl
            rotate_left
            · simp only [Act.put, List.setIfInBounds_toArray, List.set_cons_zero, List.set_cons_succ, i64_w, i32_w]
              rfl
            refine one_ (i := 10) (N := (some 40)) #[true, true, true, true, true, true, true, true, true, true, true, false] rfl rfl (by kernel_rfl) (by decide) (fun K hK => ?_)
            refine goes_ Tryd.func33 (by kernel_rfl) rfl #[.string q, .string x.f1] (by rfl) rfl rfl (by (try simp only [List.map_toArray, List.map_cons, List.map_nil]); rfl) ?_
            refine (refAsked_calls q x.f1 HQ.out HX9.out _ (HKW.out.below (hbi.out.trans (hHeld.1.mono hbi.out.size)))).mono ?_
            rintro ee u1 ⟨rfl, hbu⟩
            have hz1 := hHeld.1.trans (hbu.mono hHeld.1.size)
            have hz2 := pw_cell_below hbu hHeld.2.1
            have hz3 := pw_cell_below hbu hHeld.2.2.1
            have hz4 := pw_cell_below hbu hHeld.2.2.2
            refine ⟨_, rfl, ?_⟩
            refine hK.out _ _ ⟨hz1, hz2, hz3, hz4⟩ (fun hHeld => ?_)
            clear hK K hz2 hz3 hz4 hbu
            refine norm_ (a' := ?_) ?_ ?_
            rotate_left
            · show Act.put _ (some 40) _ = _
              simp only [Act.put, List.setIfInBounds_toArray, List.set_cons_zero, List.set_cons_succ, i64_w, i32_w]
              rfl
            refine pure_ (i := 11) (N := (some 11)) (v := ?_) (a' := ?_) #[true, true, true, true, true, true, true, true, true, true, true, true] rfl rfl (by kernel_rfl) (fun _ _ _ h => h) (Or.inl ⟨by rfl, ?_⟩) ?_ ?_
            rotate_left
            · intro w'
              go_simp
              all_goals with_reducible rfl
            rotate_left
            · simp only [Act.put, List.setIfInBounds_toArray, List.set_cons_zero, List.set_cons_succ, i64_w, i32_w]
              rfl
            refine done_ (by kernel_rfl) ?_
            generalize askedF q x.f1 = ba at HNX
            have HA2 := Aside0.mk (Kd.R_below hAi.out hz1)
            have HB2 := Aside0.mk (hbi.out.trans (hz1.mono hbi.out.size))
            cases bb with
            | true =>
              go_wp2
              go_roundg (gk - 1)
              case rel => exact ⟨j + 1, hjm, by rw [HNX.out]; rfl, by push_cast; rfl, ⟨by have := hqi.out; omega⟩, HA2, HB2⟩
              case measure => have := hqi.out; omega
            | false =>
              go_wp2
              go_roundg (gk - 1)
              case rel => exact ⟨j + 1, hjm, by rw [HNX.out]; rfl, by push_cast; rfl, ⟨by have := hqi.out; omega⟩, HA2, HB2⟩
              case measure => have := hqi.out; omega
          · obtain rfl : j = m := by omega
            rw [show ws.take j = ws from List.take_of_length_le (by have := HW1.out.1; omega)]
            cases hask : ws.any (askedF · x.f1) with
            | false =>
              have HF := Aside0.mk (HF0.out hask)
              clear hask
              go_wp2
              go_roundg k1
              case rel => exact ⟨k + 1, hlt, by push_cast; rfl, ⟨by have := hq.out; omega⟩, ⟨by rw [HF.out]; exact hAi.out⟩, hbi⟩
              case measure => omega
            | true =>
              have HF := Aside0.mk (HF1.out hask)
              clear hask
              have hlt5 := Aside0.mk (Kd.R_lt hAi.out)
              have HL3 := Aside0.mk (Kd.R_mono (Kd.R_bound hAi.out) (ok' := fun k => k < wr.heap.size) (fun k hk => hk.2.2.1))
              have hgw : wl.heap.size ≤ wr.heap.size := hbi.out.size
              go_upto_if 55 with (fail)
              have h12 := blk_new wr (.cells #[.string x.f0, .string ⟨#[]⟩, .slice none 0 0] 39)
              have hv : Below wr.heap.size wr (wr.alloc (.cells #[.string x.f0, .string ⟨#[]⟩, .slice none 0 0] 39)) := (Below.refl _ _).alloc (Nat.le_refl _) _
              have hvs : (wr.alloc (.cells #[.string x.f0, .string ⟨#[]⟩, .slice none 0 0] 39)).heap.size = wr.heap.size + 1 := by simp
              have b3v := pw_cell_below hv b3
              have t2v := pw_cell_below hv t2
              have HC2v := Aside0.mk (Kd.C_below HC2.out hv)
              have HAV := Aside0.mk (Kd.R_below hAi.out hv)
              have HL3V := Aside0.mk (Kd.R_below HL3.out hv)
              have HBV := Aside0.mk (hbi.out.trans (hv.mono hbi.out.size))
              clear b3 t0 t1 t2 HC2 hAi HL3 hv
              generalize wr.alloc (.cells #[.string x.f0, .string ⟨#[]⟩, .slice none 0 0] 39) = V at h12 hvs b3v t2v HC2v HAV HL3V HBV ⊢
              have b3 := b3v
              have t2 := t2v
              have HC2 := HC2v
              clear b3v t2v HC2v
              generalize wr.heap.size = g12 at h12 hvs HL3V hlt5 hgw ⊢
              have H12 := Aside0.mk h12
              have v0 : V.cell? ⟨g12, 0, none⟩ = some (.string x.f0) := blk_cell h12 0
              have v1 : V.cell? ⟨g12, 1, none⟩ = some (.string ⟨#[]⟩) := blk_cell h12 1
              have v2 : V.cell? ⟨g12, 2, none⟩ = some (.slice none 0 0) := blk_cell h12 2
              have HVS := Aside0.mk hvs
              clear h12 hvs
              cases ty with
              | true =>
                go_wp2_with (at_builtin; refine Kd.R_append k39 (w0 := wl) (W := V) wl.heap.size rfl (.tmp 66) (.tmp 68) 23 39 (.agg #[.string ⟨#[]⟩, .string ⟨#[]⟩, .slice none 0 0]) 56 rfl Tryd.underlying23 info39 rfl (by decide) (by decide) (.slice A5 L.length c5) L (sent true x) [.string x.f0, .string ⟨#[]⟩, .slice none 0 0] (fun _ => True) (fun _ => False) rfl rfl (k39_mkM _ _ _ (sent true x) (Kd.R_nil _ _ _ _ _)) (fun _ h => h.elim) (fun _ _ => trivial) HAV.out HBV.out HBV.out.size (by have := HLL.out; omega) ?_; intro v3 w3 ho hb3 hg3 hat3; have HO3 := Aside0.mk ho; have HB7 := Aside0.mk hb3; clear ho hb3 hg3 hat3)
                go_roundg k1
                case rel => exact ⟨k + 1, hlt, by push_cast; rfl, ⟨by have := hq.out; omega⟩, ⟨by rw [HF.out]; exact HO3.out⟩, HB7⟩
                case measure => omega
              | false =>
                go_upto_region 16 with (fail)
                refine start_ (n := 11) (S := (fun w' => Below V.heap.size V w' ∧ w'.cell? ⟨g12, 2, none⟩ = some (.slice none 0 0) ∧ w'.cell? ⟨w.heap.size, 3, none⟩ = some (.slice (some ad) n ca) ∧ w'.cell? ⟨(ad.add (k * 3)).block, (ad.add (k * 3)).off + 2, none⟩ = some (.slice A2 n2 c2))) (ds := [10]) #[false, false, false, false, false, false, false, false, false, false, false] (by kernel_rfl) rfl rfl ⟨below_drew (Below.refl _ _), v2, b3, t2⟩ (fun hHeld => ?_)
                refine pure_ (i := 0) (N := (some 56)) (v := ?_) (a' := ?_) #[true, false, false, false, false, false, false, false, false, false, false] rfl rfl (by kernel_rfl) (fun _ _ _ h => h) (Or.inl ⟨by rfl, ?_⟩) ?_ ?_
                rotate_left
                · intro w'
                  go_simp
                  all_goals with_reducible rfl
                rotate_left
                · simp only [Act.put, List.setIfInBounds_toArray, List.set_cons_zero, List.set_cons_succ, i64_w, i32_w]
                  rfl
                refine take_ (i := 1) (N := (some 57)) (v := ?_) (a' := ?_) #[true, true, false, false, false, false, false, false, false, false, false] rfl rfl (by kernel_rfl) (fun _ _ _ h => h) (Or.inl ⟨by rfl, ?_⟩) hHeld ?_ ?_
                rotate_left
                · rintro w' ⟨_, s0, s3, s1⟩
                  go_simp
                  all_goals with_reducible rfl
                rotate_left
                · simp only [Act.put, List.setIfInBounds_toArray, List.set_cons_zero, List.set_cons_succ, i64_w, i32_w]
                  rfl
                refine pure_ (i := 2) (N := (some 58)) (v := ?_) (a' := ?_) #[true, true, true, false, false, false, false, false, false, false, false] rfl rfl (by kernel_rfl) (fun _ _ _ h => h) (Or.inl ⟨by rfl, ?_⟩) ?_ ?_
                rotate_left
                · intro w'
                  go_simp
                  all_goals with_reducible rfl
                rotate_left
                · simp only [Act.put, List.setIfInBounds_toArray, List.set_cons_zero, List.set_cons_succ, i64_w, i32_w]
                  rfl
                refine take_ (i := 3) (N := (some 59)) (v := ?_) (a' := ?_) #[true, true, true, true, false, false, false, false, false, false, false] rfl rfl (by kernel_rfl) (fun _ _ _ h => h) (Or.inl ⟨by rfl, ?_⟩) hHeld ?_ ?_
                rotate_left
                · rintro w' ⟨_, s0, s3, s1⟩
                  go_simp
                  all_goals with_reducible rfl
                rotate_left
                · simp only [Act.put, List.setIfInBounds_toArray, List.set_cons_zero, List.set_cons_succ, i64_w, i32_w]
                  rfl
                refine pure_ (i := 4) (N := (some 60)) (v := ?_) (a' := ?_) #[true, true, true, true, true, false, false, false, false, false, false] rfl rfl (by kernel_rfl) (fun _ _ _ h => h) (Or.inl ⟨by rfl, ?_⟩) ?_ ?_
                rotate_left
                · intro w'
                  go_simp
                  all_goals with_reducible rfl
                rotate_left
                · simp only [Act.put, List.setIfInBounds_toArray, List.set_cons_zero, List.set_cons_succ, i64_w, i32_w]
                  rfl
                refine pure_ (i := 5) (N := (some 61)) (v := ?_) (a' := ?_) #[true, true, true, true, true, true, false, false, false, false, false] rfl rfl (by kernel_rfl) (fun _ _ _ h => h) (Or.inl ⟨by rfl, ?_⟩) ?_ ?_
                rotate_left
                · intro w'
                  go_simp
                  all_goals with_reducible rfl
                rotate_left
                · simp only [Act.put, List.setIfInBounds_toArray, List.set_cons_zero, List.set_cons_succ, i64_w, i32_w]
                  rfl
                refine pure_ (i := 6) (N := (some 62)) (v := ?_) (a' := ?_) #[true, true, true, true, true, true, true, false, false, false, false] rfl rfl (by kernel_rfl) (fun _ _ _ h => h) (Or.inl ⟨by rfl, ?_⟩) ?_ ?_
                rotate_left
                · intro w'
                  go_simp
                  all_goals with_reducible rfl
                rotate_left
                · simp only [Act.put, List.setIfInBounds_toArray, List.set_cons_zero, List.set_cons_succ, i64_w, i32_w]
                  rfl
                refine take_ (i := 7) (N := (some 63)) (v := ?_) (a' := ?_) #[true, true, true, true, true, true, true, true, false, false, false] rfl rfl (by kernel_rfl) (fun _ _ _ h => h) (Or.inl ⟨by rfl, ?_⟩) hHeld ?_ ?_
                rotate_left
                · rintro w' ⟨_, s0, s3, s1⟩
                  go_simp
                  all_goals with_reducible rfl
                rotate_left
                · simp only [Act.put, List.setIfInBounds_toArray, List.set_cons_zero, List.set_cons_succ, i64_w, i32_w]
                  rfl
                refine one_ (i := 8) (N := (some 64)) #[true, true, true, true, true, true, true, true, true, false, false] rfl rfl (by kernel_rfl) (by decide) (fun K hK => ?_)
                refine Kd.R_append_rows_step Kd.string (w0 := V) V.heap.size (by rfl) (.tmp 57) (.tmp 63) 22 9 (.string ⟨#[]⟩) 16 rfl Tryd.underlying22 inf9 rfl (by decide) (by decide) (.slice none 0 0) [] x.f2 A2 n2 c2 (fun _ => True) (fun _ => False) rfl rfl (Kd.R_nil _ _ _ _ _) (Kd.C_below HC2.out hHeld.1) (fun _ _ h => h) (fun _ h => h.elim) (fun _ _ => trivial) hHeld.1 hHeld.1.size (by have := HX2.out; simp; omega) ?_
                intro vv w5 ho hb5 hg5 hat5
                obtain ⟨A6, c6, rfl⟩ := Kd.R_slice ho
                rw [List.nil_append, hn2] at ho ⊢
                refine hK.out _ _ ⟨hb5, pw_cell_below hb5 v2, pw_cell_below hb5 b3, pw_cell_below hb5 t2⟩ (fun hHeld => ?_)
                clear hK K hg5 hat5
                refine norm_ (a' := ?_) ?_ ?_
                rotate_left
                · show Act.put _ (some 64) _ = _
                  simp only [Act.put, List.setIfInBounds_toArray, List.set_cons_zero, List.set_cons_succ, i64_w, i32_w]
                  rfl
                refine pure_ (i := 9) (N := (some 65)) (v := ?_) (a' := ?_) #[true, true, true, true, true, true, true, true, true, true, false] rfl rfl (by kernel_rfl) (fun _ _ _ h => h) (Or.inl ⟨by rfl, ?_⟩) ?_ ?_
                rotate_left
                · intro w'
                  go_simp
                  all_goals with_reducible rfl
                rotate_left
                · simp only [Act.put, List.setIfInBounds_toArray, List.set_cons_zero, List.set_cons_succ, i64_w, i32_w]
                  rfl
                have f1 := blk_frozen (blk_below H12.out hb5) 2
                have g1 := hHeld.2.1
                refine last_ (i := 10) (N := none) #[true, true, true, true, true, true, true, true, true, true, true] rfl rfl (by kernel_rfl) (by decide) (fun K hK => ?_)
                refine skip_ (by rfl) rfl (w1 := w5.setCell ⟨g12, 2, none⟩ (.slice A6 n2 c6)) (by go_simp) ?_
                refine hK.out _ _ ?_
                clear hK K f1 g1
                refine done_ (by kernel_rfl) ?_
                have p0 : w5.cell? ⟨g12, 0, none⟩ = some (.string x.f0) := blk_cell (blk_below H12.out hb5) 0
                have p1 : w5.cell? ⟨g12, 1, none⟩ = some (.string ⟨#[]⟩) := blk_cell (blk_below H12.out hb5) 1
                have p2 : w5.cell? ⟨g12, 2, none⟩ = some (.slice none 0 0) := blk_cell (blk_below H12.out hb5) 2
                have hset : ∀ k, k ≠ g12 → (w5.setCell ⟨g12, 2, none⟩ (.slice A6 n2 c6)).heap[k]? = w5.heap[k]? := fun k hk => Below.heap_setCell _ _ _ _ hk
                have HR4 := Aside0.mk (Kd.R_mono (Kd.R_bound ho) (ok' := fun k => g12 < k) (fun k hk => by have := hk.2.1; have := HVS.out; omega))
                have HA6 := Aside0.mk (Kd.R_mono (Kd.R_step (Kd.R_below HL3V.out hb5) (w1 := w5.setCell ⟨g12, 2, none⟩ (.slice A6 n2 c6)) (fun k hk _ => hset k (by omega))) (ok' := fun _ => True) (fun _ _ => trivial))
                have HR6 := Aside0.mk (Kd.R_lower (Kd.R_step HR4.out (w1 := w5.setCell ⟨g12, 2, none⟩ (.slice A6 n2 c6)) (fun k hk _ => hset k (by omega))) (base' := wl.heap.size) HBV.out.size)
                have HB6 := Aside0.mk ((HBV.out.trans (hb5.mono HBV.out.size)).setCell (p := ⟨g12, 2, none⟩) hgw (.slice A6 n2 c6))
                have hws5 : wl.heap.size ≤ w5.heap.size := Nat.le_trans HBV.out.size hb5.size
                clear ho hb5 hset HR4 b3 t2 v0 v1 v2 hHeld
                go_wp2_with (at_builtin; go_loud (refine Kd.R_append k39 (w0 := wl) (W := w5.setCell ⟨g12, 2, none⟩ (.slice A6 n2 c6)) wl.heap.size rfl (.tmp 66) (.tmp 68) 23 39 (.agg #[.string ⟨#[]⟩, .string ⟨#[]⟩, .slice none 0 0]) 56 rfl Tryd.underlying23 info39 rfl (by decide) (by decide) (.slice A5 L.length c5) L (sent false x) [.string x.f0, .string ⟨#[]⟩, .slice A6 n2 c6] (fun _ => True) (fun k => g12 < k) rfl (show Value.slice (some ⟨w5.heap.size, 0, none⟩) 1 1 = _ by simp) (k39_mkM _ _ _ (sent false x) HR6.out) (fun k hk => ⟨trivial, fun h => by have := hlt5.out k h.symm; omega⟩) (fun _ _ => trivial) HA6.out HB6.out (by simpa using hws5) (by have := HLL.out; omega) ?_); intro v3 w3 ho hb3 hg3 hat3; have HO3 := Aside0.mk ho; have HB7 := Aside0.mk hb3; clear ho hb3 hg3 hat3)
                go_roundg k1
                case rel => exact ⟨k + 1, hlt, by push_cast; rfl, ⟨by have := hq.out; omega⟩, ⟨by rw [HF.out]; exact HO3.out⟩, HB7⟩
                case measure => omega
      · obtain rfl : k = n := by omega
        have HTK2 := Aside0.mk (show attrs.take k = attrs from List.take_of_length_le (by have := HN.out; omega))
        go_wp2
        go_ret
        rw [HSF.out, ← HTK2.out]
        exact ⟨_, rfl, Kd.R_lower hA.out HBW.out.size, HBW.out.trans (hb.out.mono HBW.out.size)⟩
end Go.Proofs.YtghjinhgloegaaaDoor
