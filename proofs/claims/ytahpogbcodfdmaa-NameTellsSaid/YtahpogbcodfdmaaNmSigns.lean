/- The signs of a text: plain lists of bytes, no program. -/
import Derived.Lib.DecodeN
import Derived.Laws.RangeAny
import Derived.Laws.IdiomStrings
namespace Go.Proofs.Ytahpogbcodfdmaa
open Go
set_option linter.unusedVariables false

/-- The sign that a text begins by, and how many bytes that has. -/
def dec (l : List UInt8) : Nat × Nat := Lib.decodeN l.length (l.getD 0 0).toNat (l.getD 1 0).toNat (l.getD 2 0).toNat (l.getD 3 0).toNat

theorem dec_width (l : List UInt8) (_ : 0 < l.length) : 1 ≤ (dec l).2 ∧ (dec l).2 ≤ l.length ∧ (dec l).2 ≤ 4 := by
  unfold dec Lib.decodeN
  repeat' split
  all_goals (simp only []; omega)

theorem get_bang (s : ByteArray) (i : Nat) : s.get! i = s.data.toList.getD i 0 := by
  show s.data[i]! = _
  rw [List.getD_eq_getElem?_getD]
  by_cases h : i < s.data.size
  · rw [getElem!_pos s.data i h, Array.getElem?_toList, Array.getElem?_eq_getElem h]; rfl
  · rw [getElem!_neg s.data i h, Array.getElem?_toList, Array.getElem?_eq_none (by omega)]; rfl

theorem decode_dec (s : ByteArray) (i : Nat) : Utf8.decode s i = dec (s.data.toList.drop i) := by
  rw [Lib.decode_at]
  unfold dec
  simp only [get_bang, List.getD_eq_getElem?_getD, List.getElem?_drop, List.length_drop, Nat.add_zero]
  rfl

/-- The signs of a text. -/
def signs (l : List UInt8) : List Nat := if h : 0 < l.length then (dec l).1 :: signs (l.drop (dec l).2) else []
termination_by l.length
decreasing_by
  have := dec_width l h
  rw [List.length_drop]
  omega

theorem signs_nil : signs [] = [] := by rw [signs, dif_neg (by simp)]
theorem signs_cons (l : List UInt8) (h : 0 < l.length) : signs l = (dec l).1 :: signs (l.drop (dec l).2) := by
  rw [signs, dif_pos h]
theorem signs_length (l : List UInt8) : (signs l).length ≤ l.length := by
  induction hn : l.length using Nat.strongRecOn generalizing l with
  | ind n ih =>
    by_cases h : 0 < l.length
    · rw [signs_cons l h]
      have hw := dec_width l h
      have := ih (l.drop (dec l).2).length (by rw [List.length_drop]; omega) _ rfl
      rw [List.length_drop] at this
      simp only [List.length_cons]
      omega
    · have : l = [] := List.eq_nil_of_length_eq_zero (by omega)
      subst this
      rw [signs_nil]
      simp

theorem runes_signs (s : ByteArray) : ∀ (bound i : Nat) (acc : Array Value), s.size - i ≤ bound →
    Conv.runesFrom s bound i acc = acc ++ ((signs (s.data.toList.drop i)).map fun (c : Nat) => Value.int .i32 (c : Int)).toArray := by
  intro bound
  induction bound with
  | zero =>
    intro i acc h
    have : s.data.toList.drop i = [] := List.drop_eq_nil_of_le (by show s.data.toList.length ≤ i; simp only [Array.length_toList]; have : s.size = s.data.size := rfl; omega)
    rw [this, signs_nil]
    simp [Conv.runesFrom]
  | succ b ih =>
    intro i acc h
    have hsz : s.size = s.data.size := rfl
    unfold Conv.runesFrom
    by_cases hi : i < s.size
    · have hl : 0 < (s.data.toList.drop i).length := by rw [List.length_drop, Array.length_toList]; omega
      have hw := dec_width _ hl
      rw [if_pos hi]
      rw [decode_dec, signs_cons _ hl]
      obtain ⟨⟨r, wd⟩, hd⟩ : ∃ d, dec (s.data.toList.drop i) = d := ⟨_, rfl⟩
      rw [hd] at hw ⊢
      simp only at hw ⊢
      rw [ih (i + wd) _ (by omega), List.drop_drop]
      simp
    · rw [if_neg hi]
      have : s.data.toList.drop i = [] := List.drop_eq_nil_of_le (by simp only [Array.length_toList]; omega)
      rw [this, signs_nil]
      simp
end Go.Proofs.Ytahpogbcodfdmaa
