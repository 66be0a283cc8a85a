/- A switch over one text, reckoned out: an evaluator over Code for regions of moves, tests of the text against constants, calls with the text, extracts; and that the machine goes as it says. -/
import Derived.Test.YtghjinhgloegaaaDoorProg
import Derived.WalkKit
import Derived.Shelf.Abstract
namespace Go.Proofs.YtghjinhgloegaaaDoor
open Go.RowKit
set_option linter.unusedVariables false

inductive SV where
  | sym
  | val (v : Value)

def SV.conc (s : ByteArray) : SV → Value
  | .sym => .string s
  | .val v => v

def svAct (s : ByteArray) (st : List SV) : Act := { tmps := (st.map (SV.conc s)).toArray, defers := [] }

def svAt (st : List SV) : Operand → Option SV
  | .tmp t => st[t]?
  | .const v => some (.val v)
  | _ => none

def svPut (st : List SV) (d : Option Nat) (v : SV) : List SV :=
  match d with
  | some d => st.set d v
  | none => st

/-- p: is the text this one? cl: what a function answers of the text. -/
def svOp (p : ByteArray → Bool) (cl : FuncId → Option Value) (st : List SV) (o : Oper) : Option (List SV) :=
  match o.guard with
  | some _ => none
  | none => match o.op with
    | .move x => (svAt st x).map (svPut st o.dst)
    | .assign x => (svAt st x).map (svPut st o.dst)
    | .binOp .eql _ x (.const (.string k)) _ => match svAt st x with
      | some .sym => some (svPut st o.dst (.val (.bool (p k))))
      | _ => none
    | .extract x i => match svAt st x with
      | some (.val (.tuple vs)) => match vs[i]? with
        | some v => some (svPut st o.dst (.val v))
        | none => none
      | _ => none
    | .call c => match c.callee with
      | .value (.func f) => match c.args.toList with
        | [x] => match svAt st x with
          | some .sym => (cl f).map (fun v => svPut st o.dst (.val v))
          | _ => none
        | _ => none
      | _ => none
    | _ => none

def svOps (p : ByteArray → Bool) (cl : FuncId → Option Value) : List SV → List Oper → Option (List SV)
  | st, [] => some st
  | st, o :: l => (svOp p cl st o).bind fun st' => svOps p cl st' l

def svRun (p : ByteArray → Bool) (cl : FuncId → Option Value) : Code → List SV → Option (Exit × List SV)
  | .skip, st => some (.normal, st)
  | .region _ ops false, st => (svOps p cl st ops.toList).map fun st' => (.normal, st')
  | .seq a b, st => (svRun p cl a st).bind fun r => match r with
    | (.normal, st') => svRun p cl b st'
    | (e, st') => some (e, st')
  | .cond c a b, st => match svAt st c with
    | some (.val (.bool true)) => svRun p cl a st
    | some (.val (.bool false)) => svRun p cl b st
    | _ => none
  | .block id a, st => (svRun p cl a st).map fun r => match r with
    | (.exit id', st') => if id' = id then (.normal, st') else (.exit id', st')
    | (e, st') => (e, st')
  | .exit id, st => some (.exit id, st)
  | .ret, st => some (.ret, st)
  | _, _ => none

/-- The texts that are asked for. -/
def askedOps (l : List Oper) : List ByteArray := l.filterMap fun o => match o.op with
  | .binOp .eql _ _ (.const (.string k)) _ => some k
  | _ => none
def askedIn : Code → List ByteArray
  | .region _ ops _ => askedOps ops.toList
  | .seq a b => askedIn a ++ askedIn b
  | .cond _ a b => askedIn a ++ askedIn b
  | .block _ a => askedIn a
  | _ => []

section
variable {P : Program} {s : ByteArray} {p : ByteArray → Bool} {cl : FuncId → Option Value} {w : World}

theorem svAt_eval {st : List SV} {x : Operand} {v : SV} (h : svAt st x = some v) : (svAct s st).eval x = v.conc s := by
  cases x with
  | tmp t =>
    simp only [svAt] at h
    simp [svAct, Act.eval, Array.getD_eq_getD_getElem?, h]
  | const u => simp only [svAt, Option.some.injEq] at h; subst h; rfl
  | global g => simp [svAt] at h
  | func f => simp [svAt] at h

theorem svPut_act (st : List SV) (d : Option Nat) (v : SV) : svAct s (svPut st d v) = (svAct s st).put d (v.conc s) := by
  cases d with
  | none => rfl
  | some d => simp [svPut, svAct, Act.put, List.map_set]

theorem svOp_wp (hp : ∀ k, p k = (s.toList == k.toList)) (hcl : ∀ f v, cl f = some v → Enters P f ∧ ∀ W, Calls P f #[.string s] W fun e w' => e = .returned v ∧ w' = W)
    {st st' : List SV} {o : Oper} (h : svOp p cl st o = some st') {K : Act → World → Prop} {Q : Exit → Act → World → Prop} (hK : K (svAct s st') w) : o.guard = none ∧ o.wp P (svAct s st) w K Q := by
  obtain ⟨dst, op, type, pos, after, guard⟩ := o
  cases guard with
  | some g => simp [svOp] at h
  | none =>
    refine ⟨rfl, ?_⟩
    unfold Oper.wp
    cases op with
    | move x =>
      simp only [svOp, Option.map_eq_some_iff] at h
      obtain ⟨v, hv, rfl⟩ := h
      simp only [execOp, svAt_eval hv]
      rw [svPut_act] at hK
      exact hK
    | assign x =>
      simp only [svOp, Option.map_eq_some_iff] at h
      obtain ⟨v, hv, rfl⟩ := h
      simp only [execOp, svAt_eval hv]
      rw [svPut_act] at hK
      exact hK
    | binOp b t x y yt =>
      cases b with
      | eql =>
        cases y with
        | const u =>
          cases u with
          | string k =>
            simp only [svOp] at h
            split at h
            · rename_i h1
              simp only [Option.some.injEq] at h
              subst h
              have hk1 : (svAct s st).eval (.const (.string k)) = .string k := rfl
              simp only [execOp, svAt_eval h1, hk1, SV.conc, eqGuard_at_string, binOp_string_eql]
              rw [svPut_act] at hK
              simp only [SV.conc, hp] at hK
              exact hK
            · simp at h
          | _ => simp [svOp] at h
        | _ => simp [svOp] at h
      | _ => simp [svOp] at h
    | extract x i =>
      simp only [svOp] at h
      split at h
      · rename_i vs h1
        split at h
        · rename_i v h2
          simp only [Option.some.injEq] at h
          subst h
          simp only [execOp, svAt_eval h1, SV.conc]
          rw [svPut_act] at hK
          have hrun : (execOp (svAct s st).eval { dst := dst, op := .extract x i, type := type, pos := pos, after := after, guard := none }).run P w = .ok (.value v) w := by
            simp [execOp, Instr.extract, svAt_eval h1, SV.conc, h2]
          simp only [execOp, svAt_eval h1, SV.conc] at hrun
          rw [hrun]
          exact hK
        · simp at h
      · simp at h
    | call c =>
      obtain ⟨callee, cargs, argTypes⟩ := c
      simp only [svOp] at h
      split at h
      · rename_i c0 f
        split at h
        · rename_i x hx
          split at h
          · rename_i h1
            simp only [Option.map_eq_some_iff] at h
            obtain ⟨v, hv, rfl⟩ := h
            obtain ⟨he, hcalls⟩ := hcl _ v hv
            have hx' : cargs = #[x] := by rw [← Array.toList_inj]; exact hx
            subst hx'
            try subst hc
            have hrun : (execOp (svAct s st).eval { dst := dst, op := .call { callee := .value (.func f), args := #[x], argTypes := argTypes }, type := type, pos := pos, after := after, guard := none }).run P w = .ok (.enter f #[.string s]) w := by
              have := he #[.string s] w
              have hx1 := svAt_eval (s := s) h1
              have hf1 : (svAct s st).eval (.func f) = .func (.func f) #[] #[] := rfl
              simp [execOp, resolve, Deferred.ofValue, invoke, hx1, hf1, SV.conc, this]
            rw [hrun, Oper.upon_enter]
            refine (hcalls w).mono ?_
            rintro e w' ⟨rfl, rfl⟩
            rw [svPut_act] at hK
            exact hK
          · simp at h
        · simp at h
      · simp at h
    | _ => simp [svOp] at h

theorem svOps_wp (hp : ∀ k, p k = (s.toList == k.toList)) (hcl : ∀ f v, cl f = some v → Enters P f ∧ ∀ W, Calls P f #[.string s] W fun e w' => e = .returned v ∧ w' = W)
    {ops : Array Oper} {Q : Exit → Act → World → Prop} {l : List Oper} : ∀ {st st' : List SV}, svOps p cl st l = some st' → Q .normal (svAct s st') w → wpList P ops Q l (svAct s st) w := by
  induction l with
  | nil => intro st st' h hQ; simp only [svOps, Option.some.injEq] at h; subst h; exact hQ
  | cons o l ih =>
    intro st st' h hQ
    simp only [svOps, Option.bind_eq_some_iff] at h
    obtain ⟨st1, h1, h2⟩ := h
    obtain ⟨hg, _⟩ := svOp_wp (K := fun _ _ => True) (Q := Q) (w := w) hp hcl h1 trivial
    exact wpList_plain hg fun K hK => (svOp_wp hp hcl h1 (hK _ _ (ih h2 hQ))).2

theorem svRun_wp (hp : ∀ k, p k = (s.toList == k.toList)) (hcl : ∀ f v, cl f = some v → Enters P f ∧ ∀ W, Calls P f #[.string s] W fun e w' => e = .returned v ∧ w' = W) (c : Code) :
    ∀ {st st' : List SV} {e : Exit} {Q : Exit → Act → World → Prop}, svRun p cl c st = some (e, st') → Q e (svAct s st') w → c.wp P Q (svAct s st) w := by
  induction c with
  | skip => intro st st' e Q h hQ; simp only [svRun, Option.some.injEq, Prod.mk.injEq] at h; obtain ⟨rfl, rfl⟩ := h; exact wp_skip hQ
  | region id ops d =>
    intro st st' e Q h hQ
    cases d with
    | true => simp [svRun] at h
    | false =>
      simp only [svRun, Option.map_eq_some_iff, Prod.mk.injEq] at h
      obtain ⟨st1, h1, rfl, rfl⟩ := h
      exact wp_region_list (svOps_wp hp hcl h1 hQ)
  | seq a b iha ihb =>
    intro st st' e Q h hQ
    simp only [svRun, Option.bind_eq_some_iff] at h
    obtain ⟨⟨e1, st1⟩, h1, h2⟩ := h
    refine wp_seq (iha h1 ?_)
    cases e1 with
    | normal => exact ihb h2 hQ
    | _ => simp only [Option.some.injEq, Prod.mk.injEq] at h2; obtain ⟨rfl, rfl⟩ := h2; exact hQ
  | cond c a b iha ihb =>
    intro st st' e Q h hQ
    simp only [svRun] at h
    split at h
    · rename_i h1; exact wp_cond_true (svAt_eval h1) (iha h hQ)
    · rename_i h1; exact wp_cond_false (svAt_eval h1) (ihb h hQ)
    · simp at h
  | block id a iha =>
    intro st st' e Q h hQ
    simp only [svRun, Option.map_eq_some_iff] at h
    obtain ⟨⟨e1, st1⟩, h1, h2⟩ := h
    refine wp_block (iha h1 ?_)
    cases e1 with
    | exit id' =>
      simp only [Exit.inBlock] at *
      split at h2 <;> (simp only [Prod.mk.injEq] at h2; obtain ⟨rfl, rfl⟩ := h2; rename_i hid; simp only [hid, if_true, if_false]; exact hQ)
    | _ => simp only [Prod.mk.injEq] at h2; obtain ⟨rfl, rfl⟩ := h2; exact hQ
  | exit id => intro st st' e Q h hQ; simp only [svRun, Option.some.injEq, Prod.mk.injEq] at h; obtain ⟨rfl, rfl⟩ := h; exact wp_exit hQ
  | ret => intro st st' e Q h hQ; simp only [svRun, Option.some.injEq, Prod.mk.injEq] at h; obtain ⟨rfl, rfl⟩ := h; exact wp_ret hQ
  | _ => intro st st' e Q h hQ; simp [svRun] at h

/-- A call of a function with one text for its argument and two results in slots. -/
theorem svCalls {f : FuncId} {fn : Func} {c : Code} {n i j : Nat} {st : List SV} {u v : Value} (hf : P.funcs[f]? = some fn) (hb : fn.body = some c) (hn : fn.ntmps = n + 1) (hr : fn.results = #[.tmp i, .tmp j])
    (hp : ∀ k, p k = (s.toList == k.toList)) (hcl : ∀ f v, cl f = some v → Enters P f ∧ ∀ W, Calls P f #[.string s] W fun e w' => e = .returned v ∧ w' = W)
    (hrun : svRun p cl c (.sym :: List.replicate n (.val undef)) = some (.ret, st)) (hu : st[i]? = some (.val u)) (hv : st[j]? = some (.val v)) :
    Calls P f #[.string s] w fun e w' => e = .returned (.tuple #[u, v]) ∧ w' = w := by
  refine calls_of_wp hf hb ?_
  have ha : ({ tmps := #[Value.string s] ++ Array.replicate (fn.ntmps - (#[Value.string s]).size) undef, defers := [] } : Act) = svAct s (.sym :: List.replicate n (.val undef)) := by
    simp [svAct, hn, SV.conc]
  rw [ha]
  refine svRun_wp hp hcl c hrun ?_
  refine ⟨rfl, .tuple #[u, v], ?_, rfl, rfl⟩
  simp [results, hr, svAct, hu, hv, SV.conc]

theorem svOps_agree {p' : ByteArray → Bool} {l : List Oper} : (∀ k ∈ askedOps l, p k = p' k) → ∀ st, svOps p cl st l = svOps p' cl st l := by
  induction l with
  | nil => intro _ st; rfl
  | cons o l ih =>
    intro h st
    have h2 : ∀ k ∈ askedOps l, p k = p' k := fun k hk => h k (by simp only [askedOps, List.filterMap_cons]; split <;> simp_all [askedOps])
    have h1 : svOp p cl st o = svOp p' cl st o := by
      obtain ⟨dst, op, type, pos, after, guard⟩ := o
      cases guard with
      | some g => rfl
      | none =>
        cases op with
        | binOp b t x y yt =>
          cases b with
          | eql =>
            cases y with
            | const u =>
              cases u with
              | string k => simp only [svOp]; rw [h k (by simp [askedOps])]
              | _ => rfl
            | _ => rfl
          | _ => rfl
        | _ => rfl
    simp only [svOps, h1]
    congr 1
    funext st'
    exact ih h2 st'

theorem svRun_agree {p' : ByteArray → Bool} (c : Code) : (∀ k ∈ askedIn c, p k = p' k) → ∀ st, svRun p cl c st = svRun p' cl c st := by
  induction c with
  | region id ops d =>
    intro h st
    cases d with
    | true => rfl
    | false => simp only [svRun]; rw [svOps_agree (p' := p') h]
  | seq a b iha ihb =>
    intro h st
    simp only [svRun]
    rw [iha (fun k hk => h k (by simp [askedIn, hk]))]
    congr 1
    funext r
    obtain ⟨e, st'⟩ := r
    cases e <;> first | rfl | exact ihb (fun k hk => h k (by simp [askedIn, hk])) _
  | cond x a b iha ihb =>
    intro h st
    simp only [svRun]
    rw [iha (fun k hk => h k (by simp [askedIn, hk])), ihb (fun k hk => h k (by simp [askedIn, hk]))]
  | block id a iha => intro h st; simp only [svRun]; rw [iha h]
  | _ => intro h st; rfl
end
end Go.Proofs.YtghjinhgloegaaaDoor
