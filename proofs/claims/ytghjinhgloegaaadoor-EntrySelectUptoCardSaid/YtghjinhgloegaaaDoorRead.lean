/- attr's reader of descriptions: letter, digit, key, whole, next, scan: what each computes. -/
import Derived.Test.YtghjinhgloegaaaDoorProg
import Derived.Test.YtghjinhgloegaaaDoorWWords
namespace Go.Proofs.YtghjinhgloegaaaDoor
open Go.RowKit Go.Proofs.YtghjinhgloegaaaDoorW.PrintWords
set_option linter.unusedVariables false
set_option linter.unusedSimpArgs false

def letB (c : Int) : Bool := (decide (97 ≤ c) && decide (c ≤ 122)) || (decide (65 ≤ c) && decide (c ≤ 90))
def digB (c : Int) : Bool := decide (48 ≤ c) && decide (c ≤ 57)
def keyB (c : Int) : Bool := letB c || digB c || (c == 45)
def wholeB (a p : Int) : Bool := (a == 1) || (a == 6) || (((a == 2) || (a == 3)) && decide (0 < p))

theorem attr_letter (c : Int) (w : World) (h0 : 0 ≤ c) (h1 : c ≤ 255) : Calls Tryd.prog 80 #[.int .u8 c] w fun e w' => e = .returned (.bool (letB c)) ∧ w' = w := by
  by_cases h2 : 97 ≤ c <;> by_cases h3 : c ≤ 122 <;> by_cases h4 : 65 ≤ c <;> by_cases h5 : c ≤ 90 <;> first | (exfalso; omega) | (
    go_enter Tryd.func80, Tryd.ntmps80
    go_wp2
    go_ret
    exact ⟨by simp [letB, *], rfl⟩)
theorem attr_digit (c : Int) (w : World) (h0 : 0 ≤ c) (h1 : c ≤ 255) : Calls Tryd.prog 82 #[.int .u8 c] w fun e w' => e = .returned (.bool (digB c)) ∧ w' = w := by
  by_cases h2 : 48 ≤ c <;> by_cases h3 : c ≤ 57 <;> first | (exfalso; omega) | (
    go_enter Tryd.func82, Tryd.ntmps82
    go_wp2
    go_ret
    exact ⟨by simp [digB, *], rfl⟩)
theorem attr_key (c : Int) (w : World) (h0 : 0 ≤ c) (h1 : c ≤ 255) : Calls Tryd.prog 81 #[.int .u8 c] w fun e w' => e = .returned (.bool (keyB c)) ∧ w' = w := by
  cases hl : letB c <;> cases hd : digB c <;> (
    go_enter Tryd.func81, Tryd.ntmps81
    go_wp2_with (first | (go_at_call 80; refine (attr_letter _ _ h0 h1).mono ?_; rintro e w' ⟨rfl, rfl⟩; rw [hl]) | (go_at_call 82; refine (attr_digit _ _ h0 h1).mono ?_; rintro e w' ⟨rfl, rfl⟩; rw [hd]))
    go_ret
    exact ⟨by simp [keyB, hl, hd], rfl⟩)
theorem attr_whole (a p : Int) (w : World) (ha : a = 0 ∨ a = 1 ∨ a = 2 ∨ a = 3 ∨ a = 4 ∨ a = 5 ∨ a = 6) : Calls Tryd.prog 69 #[.agg #[.int .i64 a, .int .i64 p]] w fun e w' => e = .returned (.bool (wholeB a p)) ∧ Below w.heap.size w w' := by
  rcases ha with rfl | rfl | rfl | rfl | rfl | rfl | rfl <;> (
    go_enter Tryd.func69, Tryd.ntmps69
    go_wp2
    go_ret
    exact ⟨by simp [wholeB], (Below.refl _ _).alloc (Nat.le_refl _) _⟩)

/-- One byte: does it go on, and where the reader then stands. -/
def nx (a p c : Int) : Bool × Int × Int :=
  if c = 59 then (if wholeB a p = true then (true, 5, p) else (false, a, p))
  else if (a = 0 ∧ letB c = true) ∨ (a = 1 ∧ keyB c = true) then (true, 1, p)
  else if (a = 5 ∨ a = 6) ∧ keyB c = true then (true, 6, p)
  else if (a = 0 ∨ a = 4) ∧ digB c = true then (true, if c = 48 then 2 else 3, p)
  else if a = 3 ∧ digB c = true then (true, a, p)
  else if (a = 2 ∨ a = 3) ∧ c = 46 then (true, 4, p + 1)
  else (false, a, p)
def RdAt (b : Nat) (w : World) (a p : Int) : Prop := w.heap[b]? = some (.cells #[.int .i64 a, .int .i64 p] 98 (0, 0))
def NxPost (b : Nat) (w : World) (r : Bool × Int × Int) (e : Ending) (w' : World) : Prop := e = .returned (.bool r.1) ∧ Below b w w' ∧ RdAt b w' r.2.1 r.2.2
theorem below_at {b : Nat} {w w1 : World} (hb : Below w.heap.size w w1) (h : b < w.heap.size) : Below b w w1 := hb.mono (Nat.le_of_lt h)
theorem bset (b : Nat) (w : World) (j : Nat) (u : Value) : Below b w (w.setCell ⟨b, j, none⟩ u) := (Below.refl b w).setCell (Nat.le_refl b) u
theorem bset2 (b : Nat) (w : World) (j : Nat) (u : Value) (j' : Nat) (u' : Value) : Below b w ((w.setCell ⟨b, j, none⟩ u).setCell ⟨b, j', none⟩ u') := (bset b w j u).setCell (Nat.le_refl b) u'
theorem RdAt.below {b : Nat} {w w1 : World} {a p : Int} (h : RdAt b w a p) (hb : Below w.heap.size w w1) : RdAt b w1 a p := blk_below h hb
theorem RdAt.set0 {b : Nat} {w : World} {a p : Int} (h : RdAt b w a p) (a' : Int) : RdAt b (w.setCell ⟨b, 0, none⟩ (.int .i64 a')) a' p := blk_put h 0 _ rfl
theorem RdAt.set1 {b : Nat} {w : World} {a p : Int} (h : RdAt b w a p) (p' : Int) : RdAt b (w.setCell ⟨b, 1, none⟩ (.int .i64 p')) a p' := blk_put h 1 _ rfl
theorem nx_0 (p c : Int) (hs : ¬ c = 59) : nx 0 p c = (if letB c = true then (true, 1, p) else if digB c = true then (true, if c = 48 then 2 else 3, p) else (false, 0, p)) := by simp [nx, hs]
theorem nx_1 (p c : Int) (hs : ¬ c = 59) : nx 1 p c = (if keyB c = true then (true, 1, p) else (false, 1, p)) := by simp [nx, hs]
theorem nx_2 (p c : Int) (hs : ¬ c = 59) : nx 2 p c = (if c = 46 then (true, 4, p + 1) else (false, 2, p)) := by simp [nx, hs]
theorem nx_3 (p c : Int) (hs : ¬ c = 59) : nx 3 p c = (if digB c = true then (true, 3, p) else if c = 46 then (true, 4, p + 1) else (false, 3, p)) := by simp [nx, hs]
theorem nx_4 (p c : Int) (hs : ¬ c = 59) : nx 4 p c = (if digB c = true then (true, if c = 48 then 2 else 3, p) else (false, 4, p)) := by simp [nx, hs]
theorem nx_5 (p c : Int) (hs : ¬ c = 59) : nx 5 p c = (if keyB c = true then (true, 6, p) else (false, 5, p)) := by simp [nx, hs]
theorem nx_6 (p c : Int) (hs : ¬ c = 59) : nx 6 p c = (if keyB c = true then (true, 6, p) else (false, 6, p)) := by simp [nx, hs]
set_option maxHeartbeats 4000000 in
set_option maxRecDepth 100000 in
theorem attr_next (b : Nat) (a p c : Int) (w : World) (hr : RdAt b w a p) (ha : a = 0 ∨ a = 1 ∨ a = 2 ∨ a = 3 ∨ a = 4 ∨ a = 5 ∨ a = 6) (hp0 : 0 ≤ p) (hp1 : p ≤ 1000000000000) (h0 : 0 ≤ c) (h1 : c ≤ 255) :
    Calls Tryd.prog 68 #[.pointer (some ⟨b, 0, none⟩), .int .u8 c] w (NxPost b w (nx a p c)) := by
  have hlt := blk_lt hr
  have HR := Aside0.mk hr
  have q0 : w.cell? ⟨b, 0, none⟩ = some (.int .i64 a) := blk_cell hr 0
  have q1 : w.cell? ⟨b, 1, none⟩ = some (.int .i64 p) := blk_cell hr 1
  have f0 : w.frozen? ⟨b, 0, none⟩ = false := blk_frozen hr 0
  have f1 : w.frozen? ⟨b, 1, none⟩ = false := blk_frozen hr 1
  clear hr
  by_cases hs : c = 59
  · subst hs
    cases hw : wholeB a p
    all_goals
      have HW := Aside0.mk hw
      clear hw
      go_enter Tryd.func68, Tryd.ntmps68
      go_wp2_with (go_at_call 69; refine (attr_whole _ _ _ ha).mono ?_; rintro e w1 ⟨rfl, hb⟩; rw [HW.out]; have HB := Aside0.mk hb; have g0 : w1.cell? ⟨b, 0, none⟩ = some (.int .i64 a) := blk_cell (HR.out.below hb) 0; have g1 : w1.frozen? ⟨b, 0, none⟩ = false := blk_frozen (HR.out.below hb) 0; clear hb)
      go_ret
      have hn : nx a p 59 = (if wholeB a p = true then (true, 5, p) else (false, a, p)) := rfl
      rw [hn, HW.out]
      first
        | exact ⟨rfl, below_at HB.out hlt, HR.out.below HB.out⟩
        | exact ⟨rfl, (below_at HB.out hlt).setCell (Nat.le_refl _) _, (HR.out.below HB.out).set0 5⟩
  · have hs0 : (c == 59) = false := by simpa using hs
    rcases ha with rfl | rfl | rfl | rfl | rfl | rfl | rfl
    · -- 0
      cases hlet : letB c <;> cases hdig : digB c <;> by_cases h48 : c = 48
      all_goals
        first | have e48 : (c = 48) = True := eq_true h48 | have e48 : (c = 48) = False := eq_false h48
        have HN := nx_0 p c hs
        simp only [hlet, hdig, e48, if_true, if_false, Bool.false_eq_true] at HN
        have HN := Aside0.mk HN
        have HL := Aside0.mk hlet
        clear hlet
        have HD := Aside0.mk hdig
        clear hdig
        have hb48 : (c == 48) = decide (c = 48) := rfl
        simp only [e48, decide_true, decide_false] at hb48
        clear h48 e48
        go_enter Tryd.func68, Tryd.ntmps68
        go_wp2_with (first | (go_at_call 80; refine (attr_letter _ _ h0 h1).mono ?_; rintro e w' ⟨rfl, rfl⟩; rw [HL.out]) | (go_at_call 81; refine (attr_key _ _ h0 h1).mono ?_; rintro e w' ⟨rfl, rfl⟩; rw [HL.out]) | (go_at_call 82; refine (attr_digit _ _ h0 h1).mono ?_; rintro e w' ⟨rfl, rfl⟩; rw [HD.out]))
        go_ret
        rw [NxPost, HN.out]
        first
          | exact ⟨rfl, Below.refl _ _, HR.out⟩
          | exact ⟨rfl, bset _ _ _ _, HR.out.set0 _⟩
          | exact ⟨rfl, bset2 _ _ _ _ _ _, (HR.out.set0 _).set1 _⟩
          | exact ⟨rfl, bset2 _ _ _ _ _ _, (HR.out.set0 _).set0 _⟩
    · -- 1
      cases hkey : keyB c
      all_goals
        have HN := nx_1 p c hs
        simp only [hkey, if_true, if_false, Bool.false_eq_true] at HN
        have HN := Aside0.mk HN
        have HL := Aside0.mk hkey
        clear hkey
        go_enter Tryd.func68, Tryd.ntmps68
        go_wp2_with (first | (go_at_call 80; refine (attr_letter _ _ h0 h1).mono ?_; rintro e w' ⟨rfl, rfl⟩; rw [HL.out]) | (go_at_call 81; refine (attr_key _ _ h0 h1).mono ?_; rintro e w' ⟨rfl, rfl⟩; rw [HL.out]) | (go_at_call 82; refine (attr_digit _ _ h0 h1).mono ?_; rintro e w' ⟨rfl, rfl⟩; rw [HD.out]))
        go_ret
        rw [NxPost, HN.out]
        first
          | exact ⟨rfl, Below.refl _ _, HR.out⟩
          | exact ⟨rfl, bset _ _ _ _, HR.out.set0 _⟩
          | exact ⟨rfl, bset2 _ _ _ _ _ _, (HR.out.set0 _).set1 _⟩
          | exact ⟨rfl, bset2 _ _ _ _ _ _, (HR.out.set0 _).set0 _⟩
    · -- 2
      by_cases h46 : c = 46
      all_goals
        first | have e46 : (c = 46) = True := eq_true h46 | have e46 : (c = 46) = False := eq_false h46
        have HN := nx_2 p c hs
        simp only [e46, if_true, if_false, Bool.false_eq_true] at HN
        have HN := Aside0.mk HN
        have hb46 : (c == 46) = decide (c = 46) := rfl
        simp only [e46, decide_true, decide_false] at hb46
        clear h46 e46
        go_enter Tryd.func68, Tryd.ntmps68
        go_wp2_with (first | (go_at_call 80; refine (attr_letter _ _ h0 h1).mono ?_; rintro e w' ⟨rfl, rfl⟩; rw [HL.out]) | (go_at_call 81; refine (attr_key _ _ h0 h1).mono ?_; rintro e w' ⟨rfl, rfl⟩; rw [HL.out]) | (go_at_call 82; refine (attr_digit _ _ h0 h1).mono ?_; rintro e w' ⟨rfl, rfl⟩; rw [HD.out]))
        go_ret
        rw [NxPost, HN.out]
        first
          | exact ⟨rfl, Below.refl _ _, HR.out⟩
          | exact ⟨rfl, bset _ _ _ _, HR.out.set0 _⟩
          | exact ⟨rfl, bset2 _ _ _ _ _ _, (HR.out.set0 _).set1 _⟩
          | exact ⟨rfl, bset2 _ _ _ _ _ _, (HR.out.set0 _).set0 _⟩
    · -- 3
      cases hdig : digB c <;> by_cases h46 : c = 46
      all_goals
        first | have e46 : (c = 46) = True := eq_true h46 | have e46 : (c = 46) = False := eq_false h46
        have HN := nx_3 p c hs
        simp only [hdig, e46, if_true, if_false, Bool.false_eq_true] at HN
        have HN := Aside0.mk HN
        have HD := Aside0.mk hdig
        clear hdig
        have hb46 : (c == 46) = decide (c = 46) := rfl
        simp only [e46, decide_true, decide_false] at hb46
        clear h46 e46
        go_enter Tryd.func68, Tryd.ntmps68
        go_wp2_with (first | (go_at_call 80; refine (attr_letter _ _ h0 h1).mono ?_; rintro e w' ⟨rfl, rfl⟩; rw [HL.out]) | (go_at_call 81; refine (attr_key _ _ h0 h1).mono ?_; rintro e w' ⟨rfl, rfl⟩; rw [HL.out]) | (go_at_call 82; refine (attr_digit _ _ h0 h1).mono ?_; rintro e w' ⟨rfl, rfl⟩; rw [HD.out]))
        go_ret
        rw [NxPost, HN.out]
        first
          | exact ⟨rfl, Below.refl _ _, HR.out⟩
          | exact ⟨rfl, bset _ _ _ _, HR.out.set0 _⟩
          | exact ⟨rfl, bset2 _ _ _ _ _ _, (HR.out.set0 _).set1 _⟩
          | exact ⟨rfl, bset2 _ _ _ _ _ _, (HR.out.set0 _).set0 _⟩
    · -- 4
      cases hdig : digB c <;> by_cases h48 : c = 48
      all_goals
        first | have e48 : (c = 48) = True := eq_true h48 | have e48 : (c = 48) = False := eq_false h48
        have HN := nx_4 p c hs
        simp only [hdig, e48, if_true, if_false, Bool.false_eq_true] at HN
        have HN := Aside0.mk HN
        have HD := Aside0.mk hdig
        clear hdig
        have hb48 : (c == 48) = decide (c = 48) := rfl
        simp only [e48, decide_true, decide_false] at hb48
        clear h48 e48
        go_enter Tryd.func68, Tryd.ntmps68
        go_wp2_with (first | (go_at_call 80; refine (attr_letter _ _ h0 h1).mono ?_; rintro e w' ⟨rfl, rfl⟩; rw [HL.out]) | (go_at_call 81; refine (attr_key _ _ h0 h1).mono ?_; rintro e w' ⟨rfl, rfl⟩; rw [HL.out]) | (go_at_call 82; refine (attr_digit _ _ h0 h1).mono ?_; rintro e w' ⟨rfl, rfl⟩; rw [HD.out]))
        go_ret
        rw [NxPost, HN.out]
        first
          | exact ⟨rfl, Below.refl _ _, HR.out⟩
          | exact ⟨rfl, bset _ _ _ _, HR.out.set0 _⟩
          | exact ⟨rfl, bset2 _ _ _ _ _ _, (HR.out.set0 _).set1 _⟩
          | exact ⟨rfl, bset2 _ _ _ _ _ _, (HR.out.set0 _).set0 _⟩
    · -- 5
      cases hkey : keyB c
      all_goals
        have HN := nx_5 p c hs
        simp only [hkey, if_true, if_false, Bool.false_eq_true] at HN
        have HN := Aside0.mk HN
        have HL := Aside0.mk hkey
        clear hkey
        go_enter Tryd.func68, Tryd.ntmps68
        go_wp2_with (first | (go_at_call 80; refine (attr_letter _ _ h0 h1).mono ?_; rintro e w' ⟨rfl, rfl⟩; rw [HL.out]) | (go_at_call 81; refine (attr_key _ _ h0 h1).mono ?_; rintro e w' ⟨rfl, rfl⟩; rw [HL.out]) | (go_at_call 82; refine (attr_digit _ _ h0 h1).mono ?_; rintro e w' ⟨rfl, rfl⟩; rw [HD.out]))
        go_ret
        rw [NxPost, HN.out]
        first
          | exact ⟨rfl, Below.refl _ _, HR.out⟩
          | exact ⟨rfl, bset _ _ _ _, HR.out.set0 _⟩
          | exact ⟨rfl, bset2 _ _ _ _ _ _, (HR.out.set0 _).set1 _⟩
          | exact ⟨rfl, bset2 _ _ _ _ _ _, (HR.out.set0 _).set0 _⟩
    · -- 6
      cases hkey : keyB c
      all_goals
        have HN := nx_6 p c hs
        simp only [hkey, if_true, if_false, Bool.false_eq_true] at HN
        have HN := Aside0.mk HN
        have HL := Aside0.mk hkey
        clear hkey
        go_enter Tryd.func68, Tryd.ntmps68
        go_wp2_with (first | (go_at_call 80; refine (attr_letter _ _ h0 h1).mono ?_; rintro e w' ⟨rfl, rfl⟩; rw [HL.out]) | (go_at_call 81; refine (attr_key _ _ h0 h1).mono ?_; rintro e w' ⟨rfl, rfl⟩; rw [HL.out]) | (go_at_call 82; refine (attr_digit _ _ h0 h1).mono ?_; rintro e w' ⟨rfl, rfl⟩; rw [HD.out]))
        go_ret
        rw [NxPost, HN.out]
        first
          | exact ⟨rfl, Below.refl _ _, HR.out⟩
          | exact ⟨rfl, bset _ _ _ _, HR.out.set0 _⟩
          | exact ⟨rfl, bset2 _ _ _ _ _ _, (HR.out.set0 _).set1 _⟩
          | exact ⟨rfl, bset2 _ _ _ _ _ _, (HR.out.set0 _).set0 _⟩
end Go.Proofs.YtghjinhgloegaaaDoor
