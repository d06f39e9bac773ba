/- The stable sort as a function, and that what rises and keeps the order of each key is its result. Plain. -/
import Derived.Test.YtmcbnpeihedcaaaSrMerge2
namespace Go.Proofs.Ytmcbnpeihedcaaa
set_option linter.unusedSimpArgs false
set_option linter.unusedVariables false

section
variable {α : Type} {key : α → Int}

theorem insK_stab (x : α) : ∀ (l : List α) (k : Int), (insK key x l).filter (fun y => key y == k) = (x :: l).filter (fun y => key y == k)
  | [], _ => rfl
  | y :: l, k => by
    unfold insK
    split
    · rfl
    · rename_i h
      have ih := insK_stab x l k
      rw [List.filter_cons, ih]
      simp only [List.filter_cons]
      by_cases h1 : key x = k
      · have h2 : key y ≠ k := by omega
        simp [h1, h2]
      · simp [h1]
theorem srtK_stab : ∀ (l : List α), Stab key l (srtK key l)
  | [] => Stab.refl _
  | x :: l => fun k => by
    have ih := srtK_stab l k
    unfold srtK
    rw [insK_stab, List.filter_cons, List.filter_cons, ih]
theorem insK_mem (x : α) : ∀ (l : List α) (y : α), y ∈ insK key x l ↔ y = x ∨ y ∈ l
  | [], y => by simp [insK]
  | z :: l, y => by
    unfold insK
    split
    · simp
    · rw [List.mem_cons, insK_mem x l y, List.mem_cons]
      constructor
      · rintro (h | h | h)
        · exact .inr (.inl h)
        · exact .inl h
        · exact .inr (.inr h)
      · rintro (h | h | h)
        · exact .inr (.inl h)
        · exact .inl h
        · exact .inr (.inr h)
def Rise (key : α → Int) (l : List α) : Prop := l.Pairwise (fun x y => key x ≤ key y)
theorem insK_rise (x : α) : ∀ (l : List α), Rise key l → Rise key (insK key x l)
  | [], _ => by simp [insK, Rise]
  | y :: l, h => by
    unfold Rise at h
    rw [List.pairwise_cons] at h
    unfold insK
    split
    · rename_i hxy
      unfold Rise
      rw [List.pairwise_cons, List.pairwise_cons]
      refine ⟨fun z hz => ?_, h.1, h.2⟩
      rw [List.mem_cons] at hz
      rcases hz with rfl | hz
      · exact hxy
      · have := h.1 z hz; omega
    · rename_i hxy
      unfold Rise
      rw [List.pairwise_cons]
      refine ⟨fun z hz => ?_, insK_rise x l h.2⟩
      rw [insK_mem] at hz
      rcases hz with rfl | hz
      · omega
      · exact h.1 z hz
theorem srtK_rise : ∀ (l : List α), Rise key (srtK key l)
  | [] => List.Pairwise.nil
  | x :: l => insK_rise x _ (srtK_rise l)
theorem rise_of {l : List α} (h : Srt key l 0 l.length) : Rise key l := by
  unfold Rise
  rw [List.pairwise_iff_getElem]
  intro i j hi hj hij
  exact h i j _ _ (Nat.zero_le _) hij hj (List.getElem?_eq_getElem hi) (List.getElem?_eq_getElem hj)
theorem mem_of_stab {l l' : List α} (h : Stab key l l') (x : α) (hx : x ∈ l') : x ∈ l := by
  have hm : x ∈ l'.filter (fun y => key y == key x) := List.mem_filter.2 ⟨hx, by simp⟩
  rw [h] at hm
  exact (List.mem_filter.1 hm).1
theorem Stab.symm {l l' : List α} (h : Stab key l l') : Stab key l' l := fun k => (h k).symm
theorem rise_uniq : ∀ (l l' : List α), Rise key l → Rise key l' → Stab key l l' → l' = l
  | [], l', _, _, h => by
    have := h.len
    exact List.eq_nil_of_length_eq_zero this
  | x :: l, [], _, _, h => by
    have := h.len
    simp at this
  | x :: l, y :: l', h1, h2, h => by
    unfold Rise at h1 h2
    rw [List.pairwise_cons] at h1 h2
    have hxy : key x ≤ key y := by
      have := mem_of_stab h y (List.mem_cons_self ..)
      rw [List.mem_cons] at this
      rcases this with e | e
      · rw [e]; exact Int.le_refl _
      · exact h1.1 _ e
    have hyx : key y ≤ key x := by
      have := mem_of_stab h.symm x (List.mem_cons_self ..)
      rw [List.mem_cons] at this
      rcases this with e | e
      · rw [e]; exact Int.le_refl _
      · exact h2.1 _ e
    have hk : key y = key x := by omega
    have h0 := h (key x)
    rw [List.filter_cons, List.filter_cons, if_pos (by simpa using hk), if_pos (by simp)] at h0
    injection h0 with e1 e2
    subst e1
    rw [rise_uniq l l' h1.2 h2.2 fun k => by
      have := h k
      rw [List.filter_cons, List.filter_cons] at this
      split at this
      · injection this
      · exact this]
/-- What the sort comes to. -/
theorem srtK_uniq {l l' : List α} (h : Srt key l' 0 l.length) (hs : Stab key l l') : l' = srtK key l := by
  have hl := hs.len
  rw [← hl] at h
  exact rise_uniq _ _ (srtK_rise l) (rise_of h) ((srtK_stab l).symm.trans hs)
theorem srtK_mem {l : List α} {x : α} : x ∈ srtK key l ↔ x ∈ l := ⟨mem_of_stab (srtK_stab l) x, mem_of_stab (srtK_stab l).symm x⟩
theorem srtK_len (l : List α) : (srtK key l).length = l.length := (srtK_stab l).len
end
end Go.Proofs.Ytmcbnpeihedcaaa
