/- NameSigns: a text with a sign that is none of a name's is none; a digit behind a name. -/
import Derived.Test.YtahpogbcodfdmaaNmSignsLaw
namespace Go.Proofs.Ytahpogbcodfdmaa
open Go Go.RowKit
set_option linter.unusedVariables false

theorem digit_behind {l : List UInt8} (h : 0 < lenN l) : mayN (l ++ [55]) = decide (lenN l < 8) := by
  have hm : mayN l = true := by unfold mayN; exact decide_eq_true h
  obtain ⟨cs, hn, e, hs⟩ := name_form hm
  have hl : lenN l = cs.length := by rw [e, len_mk hn]
  have hs7 : signs (l ++ [55]) = cs ++ [55] := by
    rw [e, signs_enc cs hn.all]
    rw [show signs [55] = [55] from signs_name (cs := [55]) (by decide)]
  have hok : okS true (cs ++ [55]) = true := by rw [okS_app _ _ _ hn.2.1, hn.1]; rfl
  rw [Bool.eq_iff_iff, mayN_iff, decide_eq_true_eq, hs7, hl]
  constructor
  · intro h; have := h.2.2; rw [List.length_append] at this; simp at this; omega
  · intro h; exact ⟨hok, by simp, by rw [List.length_append]; simp; omega⟩

theorem nameSigns_walk (w : World) (s : ByteArray) (ws : s.size ≤ maxLen) (c : Int) (wc : (Lit.int .u8 c).wf = true) (k : Int) (wk : (Lit.int .i64 k).wf = true) :
    Calls Try.prog 7 #[.string s, .int .u8 c, .int .i64 k] w fun e w' => e = .returned (.bool true) ∧ Below w.heap.size w w' := by
  by_cases hs : 200 < s.size
  · exact signs_long s c k hs w
  have hs : s.size ≤ 200 := by omega
  by_cases hk : k < 0
  · exact signs_neg s c k hs hk w
  by_cases hk2 : (s.size : Int) < k
  · exact signs_big s c k hs hk hk2 w
  obtain ⟨j, rfl⟩ : ∃ j : Nat, k = (j : Int) := ⟨k.toNat, by omega⟩
  have hj : j ≤ s.size := by omega
  have hc : 0 ≤ c ∧ c ≤ 255 := by
    simp [Lit.wf, IntKind.min, IntKind.max, IntKind.signed, IntKind.bits] at wc
    omega
  have cl : ∀ (s : ByteArray) (n : Nat), s.size ≤ 9223372036854775807 → lenN s.data.toList = n → ∀ W : World, Calls Try.prog 15 #[.string s] W fun e w' => e = .returned (.int .i64 (n : Nat)) ∧ Below W.heap.size W w' := fun s n hs h W => h ▸ Len_any s W hs
  have cm : ∀ (s : ByteArray) (v : Bool), s.size ≤ 9223372036854775807 → mayN s.data.toList = v → ∀ W : World, Calls Try.prog 14 #[.string s] W fun e w' => e = .returned (.bool v) ∧ Below W.heap.size W w' := fun s v hs h W => h ▸ nmay_any s W hs
  have c2 := cl s _ (by omega) rfl
  have z7 : (s ++ ⟨#[55]⟩).size ≤ 9223372036854775807 := by rw [ByteArray.size_append]; show s.size + 1 ≤ _; omega
  have e7 : (s ++ ⟨#[55]⟩).data.toList = s.data.toList ++ [55] := by rw [ByteArray.data_append, Array.toList_append]
  have d3 : ∀ v : Bool, 0 < lenN s.data.toList → decide (lenN s.data.toList < 8) = v → ∀ W : World, Calls Try.prog 14 #[.string (s ++ ⟨#[55]⟩)] W fun e w' => e = .returned (.bool v) ∧ Below W.heap.size W w' := fun v h h2 => cm _ v z7 (by rw [e7, digit_behind h]; exact h2)
  have zx : (s.extract 0 j ++ ⟨#[UInt8.ofNat c.toNat]⟩ ++ s.extract j s.size).size ≤ 9223372036854775807 := by
    rw [ByteArray.size_append, ByteArray.size_append, ByteArray.size_extract, ByteArray.size_extract]; show _ + 1 + _ ≤ _; omega
  have hodd : ¬ (97 ≤ c ∧ c ≤ 122) → ¬ (48 ≤ c ∧ c ≤ 57) → ¬ 128 ≤ c → mayN (s.extract 0 j ++ ⟨#[UInt8.ofNat c.toNat]⟩ ++ s.extract j s.size).data.toList = false := by
    intro h1 h2 h3
    rw [Bool.eq_false_iff]
    intro hm
    have := name_plain hm (UInt8.ofNat c.toNat) (by
      rw [ByteArray.data_append, ByteArray.data_append, Array.toList_append, Array.toList_append]
      simp)
    unfold plainB at this
    have e : (UInt8.ofNat c.toNat).toNat = c.toNat := by simp; omega
    rw [e] at this
    omega
  obtain ⟨n, hn⟩ : ∃ n, lenN s.data.toList = n := ⟨_, rfl⟩
  rw [hn] at c2 d3
  rcases (by omega : n = 0 ∨ (0 < n ∧ n < 8) ∨ (0 < n ∧ ¬ n < 8)) with h0 | ⟨h0, h8⟩ | ⟨h0, h8⟩
  · by_cases c1 : 97 ≤ c
    · by_cases c2' : c ≤ 122
      · exact signs_a0 s c j n hs hj c1 c2' c2 h0 w
      · by_cases c5 : 128 ≤ c
        · exact signs_b0 s c j n hs hj c1 c2' (by omega) (by omega) c5 c2 h0 w
        · exact signs_d0 s c j n hs hj c1 c2' (by omega) (by omega) c5 (cm _ _ zx (hodd (by omega) (by omega) c5)) c2 h0 w
    · by_cases c3 : 48 ≤ c
      · by_cases c4 : c ≤ 57
        · exact signs_c0 s c j n hs hj c1 c3 c4 c2 h0 w
        · exact signs_e0 s c j n hs hj c1 c3 c4 (by omega) (cm _ _ zx (hodd (by omega) (by omega) (by omega))) c2 h0 w
      · exact signs_f0 s c j n hs hj c1 c3 (by omega) (cm _ _ zx (hodd (by omega) (by omega) (by omega))) c2 h0 w
  · have c7 := d3 true h0 (decide_eq_true h8)
    by_cases c1 : 97 ≤ c
    · by_cases c2' : c ≤ 122
      · exact signs_a7 s c j n hs hj c1 c2' c2 h0 h8 c7 w
      · by_cases c5 : 128 ≤ c
        · exact signs_b7 s c j n hs hj c1 c2' (by omega) (by omega) c5 c2 h0 h8 c7 w
        · exact signs_d7 s c j n hs hj c1 c2' (by omega) (by omega) c5 (cm _ _ zx (hodd (by omega) (by omega) c5)) c2 h0 h8 c7 w
    · by_cases c3 : 48 ≤ c
      · by_cases c4 : c ≤ 57
        · exact signs_c7 s c j n hs hj c1 c3 c4 c2 h0 h8 c7 w
        · exact signs_e7 s c j n hs hj c1 c3 c4 (by omega) (cm _ _ zx (hodd (by omega) (by omega) (by omega))) c2 h0 h8 c7 w
      · exact signs_f7 s c j n hs hj c1 c3 (by omega) (cm _ _ zx (hodd (by omega) (by omega) (by omega))) c2 h0 h8 c7 w
  · have c7 := d3 false h0 (decide_eq_false h8)
    by_cases c1 : 97 ≤ c
    · by_cases c2' : c ≤ 122
      · exact signs_a8 s c j n hs hj c1 c2' c2 h0 h8 c7 w
      · by_cases c5 : 128 ≤ c
        · exact signs_b8 s c j n hs hj c1 c2' (by omega) (by omega) c5 c2 h0 h8 c7 w
        · exact signs_d8 s c j n hs hj c1 c2' (by omega) (by omega) c5 (cm _ _ zx (hodd (by omega) (by omega) c5)) c2 h0 h8 c7 w
    · by_cases c3 : 48 ≤ c
      · by_cases c4 : c ≤ 57
        · exact signs_c8 s c j n hs hj c1 c3 c4 c2 h0 h8 c7 w
        · exact signs_e8 s c j n hs hj c1 c3 c4 (by omega) (cm _ _ zx (hodd (by omega) (by omega) (by omega))) c2 h0 h8 c7 w
      · exact signs_f8 s c j n hs hj c1 c3 (by omega) (cm _ _ zx (hodd (by omega) (by omega) (by omega))) c2 h0 h8 c7 w
end Go.Proofs.Ytahpogbcodfdmaa
