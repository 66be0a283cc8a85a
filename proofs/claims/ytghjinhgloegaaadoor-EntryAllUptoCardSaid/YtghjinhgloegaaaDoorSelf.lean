/- What a description asks for of itself; what '*', '+', '1.1' ask for. -/
import Derived.Test.YtghjinhgloegaaaDoorCanon2
import Derived.Test.YtghjinhgloegaaaDoorHelp
namespace Go.Proofs.YtghjinhgloegaaaDoor
open Go.RowKit Go.Proofs.YtghjinhgloegaaaDoorW.PrintWords
set_option linter.unusedVariables false
set_option linter.unusedSimpArgs false

theorem lowN_idem (c : Int) : lowN (lowN c) = lowN c := by unfold lowN; split <;> (try split) <;> omega
theorem bytesOf_bound {s : ByteArray} {x : Int} (h : x ∈ bytesOf s) : 0 ≤ x ∧ x < 256 := by
  obtain ⟨b, _, rfl⟩ := List.mem_map.1 h
  have := b.toNat_lt
  omega
theorem lowN_bound {c : Int} (h : 0 ≤ c ∧ c < 256) : 0 ≤ lowN c ∧ lowN c < 256 := by unfold lowN; split <;> omega
theorem bytesOf_str (xs : List Int) (h : ∀ x ∈ xs, 0 ≤ x ∧ x < 256) : bytesOf (strOfNums xs) = xs := by
  unfold bytesOf
  rw [strOfNums_data, List.map_map]
  have h1 : xs.map ((fun b : UInt8 => (b.toNat : Int)) ∘ fun n : Int => UInt8.ofNat n.toNat) = xs.map id := List.map_congr_left fun x hx => by
    have := h x hx
    show ((UInt8.ofNat x.toNat).toNat : Int) = x
    rw [UInt8.toNat_ofNat', Nat.mod_eq_of_lt (by omega)]
    omega
  rw [h1, List.map_id]
theorem foldB_idem (s : ByteArray) : foldB (foldB s) = foldB s := by
  unfold foldB
  rw [bytesOf_str _ (fun x hx => by obtain ⟨y, hy, rfl⟩ := List.mem_map.1 hx; exact lowN_bound (bytesOf_bound hy)), List.map_map]
  congr 1
  exact List.map_congr_left fun x _ => lowN_idem x
theorem hasB_mem {l : List ByteArray} {x : ByteArray} (h : x ∈ l) : hasB l x = true := List.any_eq_true.2 ⟨x, h, by simp⟩
theorem rows_self : (List.range 62).all (fun i => hasB (supersF (rowAt i).nm) (rowAt i).nm) = true := by decide +kernel
theorem supers_self (c : ByteArray) : hasB (supersF (canonT c)) (canonT c) = true := by
  unfold canonT
  split
  · rename_i i h
    exact List.all_eq_true.1 rows_self i (List.mem_range.2 (nameIdx_lt h))
  · rename_i h
    unfold supersF
    rw [foldB_idem, h]
    exact hasB_mem (by simp)
theorem covers_self {c : ByteArray} (h : isDesc c = true) : coversF c c = true := by
  unfold coversF
  rw [h, parse_err_yes h]
  simp only [yesDesc, Bool.true_and, supers_self]
  exact List.all_eq_true.2 fun x hx => hasB_mem hx
theorem star_no : isDesc ⟨#[42]⟩ = false := by decide +kernel
theorem plus_no : isDesc ⟨#[43]⟩ = false := by decide +kernel
theorem toList_eq {a b : ByteArray} (h : (a.toList == b.toList) = true) : a = b := by
  have h1 : a.toList = b.toList := eq_of_beq h
  rw [ByteArray.toList_eq, ByteArray.toList_eq] at h1
  exact ByteArray.ext (Array.ext' h1)
theorem asked_self {c : ByteArray} (h : isDesc c = true) (h1 : (c.toList == [49, 46, 49]) = false) : askedF c c = true := by
  unfold askedF
  rw [h1, if_neg (by decide)]
  by_cases h2 : (c.toList == [42]) = true
  · have e : c = ⟨#[42]⟩ := toList_eq (by rw [eq_of_beq h2]; decide +kernel)
    rw [e, star_no] at h; cases h
  · rw [if_neg h2]
    by_cases h3 : (c.toList == [43]) = true
    · have e : c = ⟨#[43]⟩ := toList_eq (by rw [eq_of_beq h3]; decide +kernel)
      rw [e, plus_no] at h; cases h
    · rw [if_neg h3]
      exact covers_self h
theorem asked_star (c : ByteArray) : askedF ⟨#[42]⟩ c = !ownF c := by
  unfold askedF
  rw [if_neg (by decide +kernel), if_pos (by decide +kernel)]
theorem asked_plus (c : ByteArray) : askedF ⟨#[43]⟩ c = ownF c := by
  unfold askedF
  rw [if_neg (by decide +kernel), if_neg (by decide +kernel), if_pos (by decide +kernel)]
theorem asked_none (c : ByteArray) : askedF ⟨#[49, 46, 49]⟩ c = false := by
  unfold askedF
  rw [if_pos (by decide +kernel)]
theorem selF_nothing (attrs : List S39) (ty : Bool) : selF attrs [] ty = selF attrs [⟨#[42]⟩] ty := by
  unfold selF effW
  simp
theorem selF_none (attrs : List S39) (ty : Bool) : selF attrs [⟨#[49, 46, 49]⟩] ty = [] := by
  unfold selF
  rw [effW_ne (by simp)]
  simp [asked_none]
theorem selF_share (attrs : List S39) (ty : Bool) : (selF attrs [⟨#[42]⟩] ty).length + (selF attrs [⟨#[43]⟩, ⟨#[49, 46, 49]⟩] ty).length = attrs.length := by
  unfold selF
  rw [effW_ne (by simp), effW_ne (by simp), List.length_map, List.length_map]
  induction attrs with
  | nil => rfl
  | cons x l ih =>
    simp only [List.any_cons, List.any_nil, Bool.or_false, asked_star, asked_plus, asked_none] at ih ⊢
    cases h : ownF x.f1 <;> simp [List.filter_cons, h] at ih ⊢ <;> omega
theorem selF_self (x : S39) (h : isDesc x.f1 = true) (h1 : (x.f1.toList == [49, 46, 49]) = false) (ty : Bool) : selF [x] [x.f1] ty = [sent ty x] := by
  rw [selF_one x _ (by simp)]
  simp [asked_self h h1]
end Go.Proofs.YtghjinhgloegaaaDoor
