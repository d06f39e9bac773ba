/- NameParts: names side by side; what a name begins by. -/
import Derived.Test.YtahpogbcodfdmaaNmPartsLaw
namespace Go.Proofs.Ytahpogbcodfdmaa
open Go Go.RowKit
set_option linter.unusedVariables false

theorem take_signs : ∀ (cs : List Nat) (h : ∀ c ∈ cs, nsg c = true) (j : Nat) (hj : j < (cs.flatMap encS).length), ¬ (128 ≤ ((cs.flatMap encS)[j]).toNat ∧ ((cs.flatMap encS)[j]).toNat < 192) →
    ∃ i, i < cs.length ∧ (cs.flatMap encS).take j = (cs.take i).flatMap encS
  | [], _, j, hj => by simp at hj
  | c :: cs, h, j, hj => by
    intro hb
    by_cases h0 : j = 0
    · subst h0
      exact ⟨0, by simp, by simp⟩
    · simp only [List.flatMap_cons] at hj hb ⊢
      by_cases hlt : j < (encS c).length
      · exfalso
        have hc := nsg_iff.1 (h c (by simp))
        rw [List.getElem_append_left hlt] at hb
        have : j = 1 := by have := encS_pos c; omega
        subst this
        have hc2 : ¬ c < 128 := by
          intro hc2
          unfold encS at hlt
          rw [if_pos hc2] at hlt
          simp at hlt
        have e : (encS c)[1] = UInt8.ofNat (c - 64) := by
          simp only [encS, if_neg hc2]
          rfl
        rw [e] at hb
        have e2 : (UInt8.ofNat (c - 64)).toNat = c - 64 := by simp; omega
        rw [e2] at hb
        omega
      · have hge : (encS c).length ≤ j := by omega
        rw [List.getElem_append_right hge] at hb
        rw [List.length_append] at hj
        obtain ⟨i, hi, e⟩ := take_signs cs (fun x hx => h x (by simp [hx])) (j - (encS c).length) (by omega) hb
        refine ⟨i + 1, by simpa using hi, ?_⟩
        rw [List.take_append, List.take_of_length_le hge, e]
        simp

theorem take_name {l : List UInt8} (hm : mayN l = true) (j : Nat) (h1 : 1 ≤ j) (hj : j < l.length) (hb : ¬ (128 ≤ (l[j]).toNat ∧ (l[j]).toNat < 192)) : mayN (l.take j) = true ∧ lenN (l.take j) < lenN l := by
  obtain ⟨cs, hn, rfl, hs⟩ := name_form hm
  obtain ⟨i, hi, e⟩ := take_signs cs hn.all j hj hb
  have h0 : cs.take i ≠ [] := by
    intro h0
    rw [h0] at e
    have := congrArg List.length e
    rw [List.length_take] at this
    simp at this
    simp at hj
    omega
  have hnt : isN (cs.take i) := by
    refine ⟨?_, h0, ?_⟩
    · have := hn.1
      rw [← List.take_append_drop i cs, okS_app _ _ _ h0, Bool.and_eq_true] at this
      exact this.1
    · have := hn.2.2
      rw [List.length_take]; omega
  rw [e, len_mk hnt, len_mk hn]
  exact ⟨may_mk hnt, by rw [List.length_take]; omega⟩

theorem nameParts_walk (w : World) (a : ByteArray) (wa : a.size ≤ maxLen) (b : ByteArray) (wb : b.size ≤ maxLen) (k : Int) (wk : (Lit.int .i64 k).wf = true) :
    Calls Try.prog 6 #[.string a, .string b, .int .i64 k] w fun e w' => e = .returned (.bool true) ∧ Below w.heap.size w w' := by
  unfold maxLen at wa wb
  have cl : ∀ (s : ByteArray) (n : Nat), s.size ≤ 9223372036854775807 → lenN s.data.toList = n → ∀ W : World, Calls Try.prog 15 #[.string s] W fun e w' => e = .returned (.int .i64 (n : Nat)) ∧ Below W.heap.size W w' := fun s n hs h W => h ▸ Len_any s W hs
  have cm : ∀ (s : ByteArray) (v : Bool), s.size ≤ 9223372036854775807 → mayN s.data.toList = v → ∀ W : World, Calls Try.prog 14 #[.string s] W fun e w' => e = .returned (.bool v) ∧ Below W.heap.size W w' := fun s v hs h W => h ▸ nmay_any s W hs
  have ca := cl a _ wa rfl
  have cb := cl b _ wb rfl
  by_cases hn : lenN a.data.toList = 0
  · exact parts_n a b k _ _ ca cb hn w
  by_cases hm : lenN b.data.toList = 0
  · exact parts_m a b k _ _ ca cb (by omega) hm w
  have ma : mayN a.data.toList = true := by unfold mayN; exact decide_eq_true (by omega)
  have mb : mayN b.data.toList = true := by unfold mayN; exact decide_eq_true (by omega)
  obtain ⟨sa, na, ea, _⟩ := name_form ma
  obtain ⟨sb, nb, eb, _⟩ := name_form mb
  have la : lenN a.data.toList = sa.length := by rw [ea, len_mk na]
  have lb : lenN b.data.toList = sb.length := by rw [eb, len_mk nb]
  have za := name_len ea
  have zb := name_len eb
  have na8 := na.2.2
  have nb8 := nb.2.2
  rw [size_list] at za zb
  have happ := name_app ma mb
  have eab : (a ++ b).data.toList = a.data.toList ++ b.data.toList := by rw [ByteArray.data_append, Array.toList_append]
  have zab : (a ++ b).size ≤ 9223372036854775807 := by rw [ByteArray.size_append]; omega
  rw [← eab] at happ
  have hpre : ∀ (j : Nat) (hj : j < a.size), 1 ≤ j → ¬ (128 ≤ (a[j].toNat : Int) ∧ (a[j].toNat : Int) < 192) → mayN (a.extract 0 j).data.toList = true ∧ lenN (a.extract 0 j).data.toList < lenN a.data.toList ∧ (a.extract 0 j).size ≤ 9223372036854775807 := by
    intro j hj h1 hb
    have hx : (a.extract 0 j).data.toList = a.data.toList.take j := by rw [Lib.extract_data]; simp
    have ej : a.data.toList[j]'(by rw [size_list]; exact hj) = a[j] := by rw [Array.getElem_toList]; rfl
    have := take_name ma j h1 (by rw [size_list]; exact hj) (by rw [ej]; omega)
    rw [hx]
    exact ⟨this.1, this.2, by rw [ByteArray.size_extract]; omega⟩
  have hkj : 1 ≤ k → k < (a.size : Int) → ∃ j : Nat, 1 ≤ j ∧ j < a.size ∧ (j : Int) = k := fun h1 h2 => ⟨k.toNat, by omega, by omega, by omega⟩
  have q1 : 0 < lenN a.data.toList := by omega
  have q2 : 0 < lenN b.data.toList := by omega
  have q3 : lenN a.data.toList ≤ 8 := by omega
  have q4 : lenN b.data.toList ≤ 8 := by omega
  have q5 : a.size ≤ 16 := by omega
  have q6 : b.size ≤ 16 := by omega
  have q7 : lenN a.data.toList ≤ a.size := by omega
  by_cases h8 : lenN a.data.toList + lenN b.data.toList ≤ 8
  · have m8 : mayN (a ++ b).data.toList = true := by rw [happ.1]; exact decide_eq_true h8
    have c4 := cm _ _ zab m8
    have c5 := cl _ _ zab (happ.2 m8)
    by_cases hk : k < 1
    · exact parts8_low a b k _ _ ca cb q1 q2 q3 q4 q5 q6 q7 h8 c4 c5 hk w
    by_cases hk2 : (a.size : Int) ≤ k
    · exact parts8_high a b k _ _ ca cb q1 q2 q3 q4 q5 q6 q7 h8 c4 c5 hk hk2 w
    obtain ⟨j, hj1, hj2, hj3⟩ := hkj (by omega) (by omega)
    by_cases b1 : 128 ≤ (a[j].toNat : Int)
    · by_cases b2 : (a[j].toNat : Int) < 192
      · exact parts8_mid a b k _ _ ca cb q1 q2 q3 q4 q5 q6 q7 h8 c4 c5 j hj1 hj2 hj3 b1 b2 w
      · obtain ⟨p1, p2, p3⟩ := hpre j hj2 hj1 (fun h => b2 h.2)
        exact parts8_hi a b k _ _ ca cb q1 q2 q3 q4 q5 q6 q7 h8 c4 c5 j _ hj1 hj2 hj3 p2 (cm _ _ p3 p1) (cl _ _ p3 rfl) b1 b2 w
    · obtain ⟨p1, p2, p3⟩ := hpre j hj2 hj1 (fun h => b1 h.1)
      exact parts8_lo a b k _ _ ca cb q1 q2 q3 q4 q5 q6 q7 h8 c4 c5 j _ hj1 hj2 hj3 p2 (cm _ _ p3 p1) (cl _ _ p3 rfl) b1 w
  · have m8 : mayN (a ++ b).data.toList = false := by rw [happ.1]; exact decide_eq_false h8
    have c4 := cm _ _ zab m8
    by_cases hk : k < 1
    · exact parts9_low a b k _ _ ca cb q1 q2 q3 q4 q5 q6 q7 h8 c4 hk w
    by_cases hk2 : (a.size : Int) ≤ k
    · exact parts9_high a b k _ _ ca cb q1 q2 q3 q4 q5 q6 q7 h8 c4 hk hk2 w
    obtain ⟨j, hj1, hj2, hj3⟩ := hkj (by omega) (by omega)
    by_cases b1 : 128 ≤ (a[j].toNat : Int)
    · by_cases b2 : (a[j].toNat : Int) < 192
      · exact parts9_mid a b k _ _ ca cb q1 q2 q3 q4 q5 q6 q7 h8 c4 j hj1 hj2 hj3 b1 b2 w
      · obtain ⟨p1, p2, p3⟩ := hpre j hj2 hj1 (fun h => b2 h.2)
        exact parts9_hi a b k _ _ ca cb q1 q2 q3 q4 q5 q6 q7 h8 c4 j _ hj1 hj2 hj3 p2 (cm _ _ p3 p1) (cl _ _ p3 rfl) b1 b2 w
    · obtain ⟨p1, p2, p3⟩ := hpre j hj2 hj1 (fun h => b1 h.1)
      exact parts9_lo a b k _ _ ca cb q1 q2 q3 q4 q5 q6 q7 h8 c4 j _ hj1 hj2 hj3 p2 (cm _ _ p3 p1) (cl _ _ p3 rfl) b1 w
end Go.Proofs.Ytahpogbcodfdmaa
