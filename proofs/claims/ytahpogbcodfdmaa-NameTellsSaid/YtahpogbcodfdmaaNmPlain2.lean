/- Joined texts are split as they were. -/
import Derived.Test.YtahpogbcodfdmaaNmPlain
import Derived.Test.YtahpogbcodfdmaaNmJoin
namespace Go.Proofs.Ytahpogbcodfdmaa
open Go Go.RowKit
set_option linter.unusedVariables false

theorem size_list (s : ByteArray) : s.data.toList.length = s.size := by rw [Array.length_toList]; rfl
theorem bytes_ext {a b : ByteArray} (h : a.data.toList = b.data.toList) : a = b := by
  have : a.data = b.data := Array.toList_inj.1 h
  cases a; cases b; simp_all

theorem dot_app {a b : List UInt8} (h : (46 : UInt8) ∉ a) : dotN (a ++ 46 :: b) = a.length := by
  unfold dotN
  induction a with
  | nil => simp [List.findIdx_cons]
  | cons x a ih =>
    rw [List.mem_cons, not_or] at h
    rw [List.cons_append, List.findIdx_cons, ih h.2]
    have : (x == 46) = false := by simpa using fun e => h.1 e.symm
    rw [this]
    rfl
theorem dot_parts {l : List UInt8} (h : dotN l < l.length) : l = l.take (dotN l) ++ 46 :: l.drop (dotN l + 1) ∧ (46 : UInt8) ∉ l.take (dotN l) := by
  unfold dotN at *
  have h1 := List.findIdx_getElem (w := h)
  refine ⟨?_, fun hm => ?_⟩
  · conv => lhs; rw [← List.take_append_drop (l.findIdx (· == 46)) l, List.drop_eq_getElem_cons h]
    simp only [beq_iff_eq] at h1
    rw [h1]
  · obtain ⟨i, hi, e⟩ := List.getElem_of_mem hm
    rw [List.length_take] at hi
    have := List.not_of_lt_findIdx (p := (· == 46)) (xs := l) (i := i) (by omega)
    rw [List.getElem_take] at e
    simp [e] at this

theorem cut_list (s : ByteArray) (h : dotN s.data.toList < s.size) : (cutL s).data.toList = s.data.toList.take (dotN s.data.toList) ∧ (cutR s).data.toList = s.data.toList.drop (dotN s.data.toList + 1) := by
  unfold cutL cutR
  rw [size_list, if_pos h, if_pos h, Lib.extract_data, Lib.extract_data, ← size_list]
  refine ⟨by simp, ?_⟩
  rw [List.take_of_length_le (by rw [List.length_drop]; exact Nat.le_refl _)]

theorem joined {a b : ByteArray} (ha : mayN a.data.toList = true) (hb : mayN b.data.toList = true) : joinN a b = a ++ ⟨#[46]⟩ ++ b := by
  unfold joinN; rw [ha, hb]; rfl
theorem joined_list {a b : ByteArray} : (a ++ ⟨#[46]⟩ ++ b).data.toList = a.data.toList ++ 46 :: b.data.toList := by
  rw [ByteArray.data_append, ByteArray.data_append, Array.toList_append, Array.toList_append, List.append_assoc]; rfl
theorem split_joined {a b : ByteArray} (ha : mayN a.data.toList = true) (hb : mayN b.data.toList = true) :
    splitB (a ++ ⟨#[46]⟩ ++ b) = true ∧ splitL (a ++ ⟨#[46]⟩ ++ b) = a ∧ splitR (a ++ ⟨#[46]⟩ ++ b) = b := by
  have hd : dotN (a ++ ⟨#[46]⟩ ++ b).data.toList = a.data.toList.length := by
    rw [joined_list, dot_app (name_no_dot ha)]
  have hlt : dotN (a ++ ⟨#[46]⟩ ++ b).data.toList < (a ++ ⟨#[46]⟩ ++ b).size := by
    rw [hd, ← size_list, joined_list]; simp
  obtain ⟨h1, h2⟩ := cut_list _ hlt
  rw [hd, joined_list] at h1 h2
  have e1 : cutL (a ++ ⟨#[46]⟩ ++ b) = a := bytes_ext (by rw [h1]; simp)
  have e2 : cutR (a ++ ⟨#[46]⟩ ++ b) = b := bytes_ext (by rw [h2, List.drop_append]; simp)
  have e3 : cutB (a ++ ⟨#[46]⟩ ++ b) = true := by unfold cutB; rw [size_list]; exact decide_eq_true hlt
  have e4 : splitB (a ++ ⟨#[46]⟩ ++ b) = true := by unfold splitB; rw [e1, e2, e3, ha, hb]; rfl
  unfold splitL splitR
  rw [if_pos e4, if_pos e4]
  exact ⟨e4, e1, e2⟩
theorem split_parts {s : ByteArray} (h : splitB s = true) : mayN (splitL s).data.toList = true ∧ mayN (splitR s).data.toList = true ∧ s = splitL s ++ ⟨#[46]⟩ ++ splitR s ∧ dotN s.data.toList < s.size := by
  have h0 := h
  unfold splitB at h
  rw [Bool.and_eq_true, Bool.and_eq_true] at h
  obtain ⟨⟨h1, h2⟩, h3⟩ := h
  unfold splitL splitR
  rw [if_pos h0, if_pos h0]
  have hlt : dotN s.data.toList < s.size := by unfold cutB at h1; rw [size_list] at h1; exact of_decide_eq_true h1
  refine ⟨h2, h3, ?_, hlt⟩
  obtain ⟨c1, c2⟩ := cut_list s hlt
  refine bytes_ext ?_
  rw [joined_list, c1, c2]
  exact (dot_parts (by rw [size_list]; exact hlt)).1
theorem split_empty : splitB ⟨#[]⟩ = false := by
  unfold splitB cutB
  rfl
theorem split_none {s : ByteArray} (h : splitB s = false) : splitL s = ⟨#[]⟩ ∧ splitR s = ⟨#[]⟩ := by
  unfold splitL splitR
  rw [h]
  exact ⟨rfl, rfl⟩
theorem join_split {s : ByteArray} (h : splitB s = true) : joinN (splitL s) (splitR s) = s := by
  obtain ⟨h1, h2, h3, _⟩ := split_parts h
  rw [joined h1 h2]
  exact h3.symm
end Go.Proofs.Ytahpogbcodfdmaa
