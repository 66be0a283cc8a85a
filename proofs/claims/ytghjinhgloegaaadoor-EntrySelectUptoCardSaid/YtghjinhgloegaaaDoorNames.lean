/- attr.byName and attr.laterName answer what stands in the table of names. -/
import Derived.Test.YtghjinhgloegaaaDoorNameTab
namespace Go.Proofs.YtghjinhgloegaaaDoor
set_option linter.unusedVariables false

theorem find_yes {l : List (List UInt8 × Nat)} {s : ByteArray} {e : List UInt8 × Nat} (h : (l.find? fun e => e.1 == s.data.toList) = some e) : e ∈ l ∧ (fun k => (s.toList == k.toList)) = isText e.1 := by
  refine ⟨List.mem_of_find?_eq_some h, ?_⟩
  have h1 := List.find?_some h
  have h2 : e.1 = s.data.toList := by simpa using h1
  funext k
  rw [isText, h2, ByteArray.toList_eq, ByteArray.toList_eq]
theorem find_no {l : List (List UInt8 × Nat)} {s : ByteArray} (h : (l.find? fun e => e.1 == s.data.toList) = none) {ks : List ByteArray} (hk : ks.all (fun k => l.any fun e => isText e.1 k) = true) :
    ∀ k ∈ ks, (s.toList == k.toList) = false := by
  intro k hm
  have h1 := List.all_eq_true.1 hk k hm
  obtain ⟨e, he, h2⟩ := List.any_eq_true.1 h1
  have h3 := List.find?_eq_none.1 h e he
  have h4 : e.1 = k.data.toList := by simpa [isText] using h2
  rw [ByteArray.toList_eq, ByteArray.toList_eq, ← h4]
  simp only [beq_eq_false_iff_ne]
  intro h5
  exact h3 (by simp [h5])

theorem attr_laterName (s : ByteArray) (w : World) : Calls Tryd.prog 73 #[.string s] w fun e w' => e = .returned (nameVal (nameFind nameTab2 s)) ∧ w' = w := by
  have hr : Tryd.f73.results = #[.tmp 2, .tmp 3] := rfl
  cases hf : (nameTab2.find? fun e => e.1 == s.data.toList) with
  | some e =>
    obtain ⟨hm, hp⟩ := find_yes hf
    have h1 := outIs_out (List.all_eq_true.1 tab73 e hm)
    obtain ⟨st, h2, h3, h4⟩ := gives_out h1
    have := svCalls (P := Tryd.prog) (s := s) (w := w) (p := isText e.1) (n := 104) Tryd.func73 (c := body73) rfl rfl hr (fun k => by rw [← hp]) (fun f v hv => by simp at hv) h2 h3 h4
    simpa [nameVal, nameFind, hf] using this
  | none =>
    have hag := find_no hf asked73
    obtain ⟨st, h2, h3, h4⟩ := gives_out none73
    rw [← svRun_agree (p := fun k => s.toList == k.toList) body73 hag] at h2
    have := svCalls (P := Tryd.prog) (s := s) (w := w) (n := 104) Tryd.func73 (c := body73) rfl rfl hr (fun k => rfl) (fun f v hv => by simp at hv) h2 h3 h4
    simpa [nameVal, nameFind, hf] using this

theorem attr_byName (s : ByteArray) (w : World) : Calls Tryd.prog 56 #[.string s] w fun e w' => e = .returned (nameVal (nameIdx s)) ∧ w' = w := by
  have hr : Tryd.f56.results = #[.tmp 2, .tmp 3] := rfl
  cases hf : (nameTab1.find? fun e => e.1 == s.data.toList) with
  | some e =>
    obtain ⟨hm, hp⟩ := find_yes hf
    have h1 := outIs_out (List.all_eq_true.1 tab56 e hm)
    obtain ⟨st, h2, h3, h4⟩ := gives_out h1
    have := svCalls (P := Tryd.prog) (s := s) (w := w) (p := isText e.1) (n := 111) Tryd.func56 (c := body56) rfl rfl hr (fun k => by rw [← hp]) (fun f v hv => by simp at hv) h2 h3 h4
    simpa [nameVal, nameIdx, nameFind, List.find?_append, hf] using this
  | none =>
    have hag := find_no hf asked56
    obtain ⟨i, b, hib⟩ : ∃ i b, nameVal (nameFind nameTab2 s) = .tuple #[.int .i64 i, .bool b] := by cases nameFind nameTab2 s <;> exact ⟨_, _, rfl⟩
    obtain ⟨st, h2, h3, h4⟩ := gives_out (none56 i b)
    rw [← svRun_agree (p := fun k => s.toList == k.toList) body56 hag] at h2
    have := svCalls (P := Tryd.prog) (s := s) (w := w) (n := 111) Tryd.func56 (c := body56) rfl rfl hr (fun k => rfl) (fun f v hv => by
      split at hv
      · rename_i h73
        subst h73
        simp only [Option.some.injEq] at hv
        subst hv
        exact ⟨enters_of Tryd.func73 (by kernel_rfl) rfl, fun W => by rw [← hib]; exact attr_laterName s W⟩
      · simp at hv) h2 h3 h4
    rw [← hib] at this
    simpa [nameIdx, nameFind, List.find?_append, hf] using this
end Go.Proofs.YtghjinhgloegaaaDoor
