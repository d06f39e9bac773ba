/- Names as lists of signs: a name's bytes are its signs', one after the other. -/
import Derived.Test.YtahpogbcodfdmaaNmLen
namespace Go.Proofs.Ytahpogbcodfdmaa
open Go Go.RowKit
set_option linter.unusedVariables false

/-- A sign that a name may have. -/
def nsg (c : Nat) : Bool := letterB c || digitB c

theorem nsg_iff {c : Nat} : nsg c = true ↔ (97 ≤ c ∧ c ≤ 122) ∨ (223 ≤ c ∧ c ≤ 255 ∧ c ≠ 247) ∨ (48 ≤ c ∧ c ≤ 57) := by
  simp [nsg, letterB, digitB]
  omega

/-- Its bytes. -/
def encS (c : Nat) : List UInt8 := if c < 128 then [UInt8.ofNat c] else [195, UInt8.ofNat (c - 64)]

theorem u8_of {b : UInt8} {c : Nat} (h : b.toNat = c) : b = UInt8.ofNat c := by
  subst h; simp

theorem dec_sign (l : List UInt8) (hl : 0 < l.length) (h : nsg (dec l).1 = true) : l = encS (dec l).1 ++ l.drop (dec l).2 ∧ (dec l).2 = (encS (dec l).1).length := by
  rw [nsg_iff] at h
  match l, hl with
  | b0 :: t, _ =>
    unfold dec Lib.decodeN at *
    simp only [List.getD_cons_zero, List.getD_cons_succ] at *
    have hb0 := b0.toNat_lt
    by_cases h0 : b0.toNat < 128
    · rw [if_pos h0] at *
      simp only at *
      simp [encS, h0]
    · rw [if_neg h0] at *
      by_cases h1 : b0.toNat / 32 = 6 ∧ (1 < (b0 :: t).length ∧ (t.getD 0 0).toNat / 64 = 2)
      · rw [if_pos h1] at *
        split at h
        · rename_i h2
          simp only at h
          rw [if_pos h2]
          simp only
          match t, h1 with
          | b1 :: t', h1 =>
            simp only [List.getD_cons_zero] at *
            have hb1 := b1.toNat_lt
            have e0 : b0 = 195 := by
              have : b0.toNat = 195 := by omega
              have := u8_of this
              simpa using this
            have e1 : b1 = UInt8.ofNat (b0.toNat % 32 * 64 + b1.toNat % 64 - 64) := u8_of (by omega)
            have hc : ¬ (b0.toNat % 32 * 64 + b1.toNat % 64 < 128) := by omega
            unfold encS
            rw [if_neg hc]
            refine ⟨?_, rfl⟩
            rw [← e1, e0]
            rfl
        · simp only at h
          omega
      · rw [if_neg h1] at *
        exfalso
        repeat' split at h
        all_goals (simp only at h; omega)

theorem dec_enc (c : Nat) (r : List UInt8) (h : nsg c = true) : dec (encS c ++ r) = (c, (encS c).length) := by
  rw [nsg_iff] at h
  unfold encS
  by_cases h1 : c < 128
  · rw [if_pos h1]
    have e : (UInt8.ofNat c).toNat = c := by simp; omega
    unfold dec Lib.decodeN
    simp only [List.cons_append, List.nil_append, List.getD_cons_zero, e]
    rw [if_pos h1]
    rfl
  · rw [if_neg h1]
    have e : (UInt8.ofNat (c - 64)).toNat = c - 64 := by simp; omega
    have e0 : (195 : UInt8).toNat = 195 := rfl
    unfold dec Lib.decodeN
    simp only [List.cons_append, List.nil_append, List.getD_cons_zero, List.getD_cons_succ, e, e0, List.length_cons]
    rw [if_neg (by omega), if_pos (show True ∧ 1 < r.length + 1 + 1 ∧ (c - 64) / 64 = 2 from ⟨trivial, by omega, by omega⟩), if_pos (by omega)]
    refine Prod.ext ?_ rfl
    simp only
    omega

theorem encS_pos (c : Nat) : 0 < (encS c).length ∧ (encS c).length ≤ 2 := by unfold encS; split <;> simp

theorem signs_enc : ∀ (cs : List Nat) (h : ∀ c ∈ cs, nsg c = true) (r : List UInt8), signs (cs.flatMap encS ++ r) = cs ++ signs r
  | [], _, r => by simp
  | c :: cs, h, r => by
    have hc := h c (by simp)
    rw [List.flatMap_cons, List.append_assoc, signs_cons _ (by rw [List.length_append]; have := encS_pos c; omega), dec_enc c _ hc]
    simp only
    rw [List.drop_left, signs_enc cs (fun x hx => h x (by simp [hx])) r]
    rfl

theorem enc_signs (l : List UInt8) (h : ∀ c ∈ signs l, nsg c = true) : l = (signs l).flatMap encS := by
  induction hn : l.length using Nat.strongRecOn generalizing l with
  | ind n ih =>
    by_cases h0 : 0 < l.length
    · rw [signs_cons l h0] at h ⊢
      obtain ⟨e1, e2⟩ := dec_sign l h0 (h _ (by simp))
      have hw := dec_width l h0
      rw [List.flatMap_cons]
      rw [← ih _ (by rw [List.length_drop]; omega) (l.drop (dec l).2) (fun c hc => h c (by simp [hc])) rfl]
      exact e1
    · have : l = [] := List.eq_nil_of_length_eq_zero (by omega)
      subst this
      rw [signs_nil]
      rfl

theorem okS_all : ∀ (f : Bool) (cs : List Nat), okS f cs = true → ∀ c ∈ cs, nsg c = true
  | _, [], _ => by simp
  | f, c :: cs, h => by
    unfold okS at h
    rw [Bool.and_eq_true] at h
    intro x hx
    rw [List.mem_cons] at hx
    rcases hx with rfl | hx
    · have := h.1
      unfold nsg
      rw [Bool.or_eq_true] at this ⊢
      rcases this with h | h
      · exact .inl h
      · rw [Bool.and_eq_true] at h; exact .inr h.2
    · exact okS_all false cs h.2 x hx

theorem okS_false_all : ∀ (cs : List Nat), (∀ c ∈ cs, nsg c = true) → okS false cs = true
  | [], _ => rfl
  | c :: cs, h => by
    unfold okS
    rw [okS_false_all cs (fun x hx => h x (by simp [hx]))]
    have := h c (by simp)
    unfold nsg at this
    simpa using this

theorem okS_app : ∀ (f : Bool) (a b : List Nat), a ≠ [] → okS f (a ++ b) = (okS f a && okS false b)
  | f, [], b, h => absurd rfl h
  | f, [x], b, _ => by simp [okS]
  | f, x :: y :: a, b, _ => by
    have := okS_app false (y :: a) b (by simp)
    show (_ && okS false (y :: a ++ b)) = ((_ && okS false (y :: a)) && _)
    rw [this, Bool.and_assoc]

/-- A list of signs that is a name. -/
def isN (cs : List Nat) : Prop := okS true cs = true ∧ cs ≠ [] ∧ cs.length ≤ 8
theorem isN.all {cs : List Nat} (h : isN cs) : ∀ c ∈ cs, nsg c = true := okS_all _ _ h.1
theorem isN.weak {cs : List Nat} (h : isN cs) : okS false cs = true := okS_false_all _ h.all

theorem lenN_pos {l : List UInt8} : 0 < lenN l ↔ isN (signs l) := by
  unfold lenN isN
  split
  · rename_i h
    rw [← List.length_pos_iff]
    exact ⟨fun h2 => ⟨h.1, h2, h.2⟩, fun h2 => h2.2.1⟩
  · rename_i h
    exact ⟨fun h2 => by omega, fun h2 => absurd ⟨h2.1, h2.2.2⟩ h⟩
theorem lenN_of {l : List UInt8} (h : isN (signs l)) : lenN l = (signs l).length := by
  unfold lenN; rw [if_pos ⟨h.1, h.2.2⟩]
theorem lenN_not {l : List UInt8} (h : ¬ isN (signs l)) : lenN l = 0 := by
  have := mt lenN_pos.1 h
  omega
theorem mayN_iff {l : List UInt8} : mayN l = true ↔ isN (signs l) := by
  unfold mayN
  rw [decide_eq_true_eq, lenN_pos]

theorem name_form {l : List UInt8} (h : mayN l = true) : ∃ cs, isN cs ∧ l = cs.flatMap encS ∧ signs l = cs := by
  have h := mayN_iff.1 h
  exact ⟨_, h, enc_signs l h.all, rfl⟩
theorem signs_name {cs : List Nat} (h : ∀ c ∈ cs, nsg c = true) : signs (cs.flatMap encS) = cs := by
  have := signs_enc cs h []
  rw [List.append_nil, signs_nil, List.append_nil] at this
  exact this
theorem may_mk {cs : List Nat} (h : isN cs) : mayN (cs.flatMap encS) = true := by
  rw [mayN_iff, signs_name h.all]; exact h
theorem len_mk {cs : List Nat} (h : isN cs) : lenN (cs.flatMap encS) = cs.length := by
  rw [lenN_of (by rw [signs_name h.all]; exact h), signs_name h.all]
theorem name_len {l : List UInt8} {cs : List Nat} (hl : l = cs.flatMap encS) : cs.length ≤ l.length ∧ l.length ≤ 2 * cs.length := by
  subst hl
  induction cs with
  | nil => simp
  | cons c cs ih =>
    have := encS_pos c
    rw [List.flatMap_cons, List.length_append, List.length_cons]
    omega
theorem name_small {l : List UInt8} (h : mayN l = true) : l.length ≤ 16 := by
  obtain ⟨cs, h1, h2, _⟩ := name_form h
  have := name_len h2
  have := h1.2.2
  omega

/-- A byte that a name may have. -/
def plainB (b : UInt8) : Prop := (97 ≤ b.toNat ∧ b.toNat ≤ 122) ∨ (48 ≤ b.toNat ∧ b.toNat ≤ 57) ∨ 128 ≤ b.toNat
theorem encS_plain {c : Nat} (h : nsg c = true) : ∀ b ∈ encS c, plainB b := by
  rw [nsg_iff] at h
  intro b hb
  unfold encS at hb
  unfold plainB
  split at hb
  · simp at hb
    have : b.toNat = c := by rw [hb]; simp; omega
    omega
  · simp at hb
    rcases hb with rfl | hb
    · right; right; decide
    · have : b.toNat = c - 64 := by rw [hb]; simp; omega
      omega
theorem name_plain {l : List UInt8} (h : mayN l = true) : ∀ b ∈ l, plainB b := by
  obtain ⟨cs, h1, rfl, _⟩ := name_form h
  intro b hb
  rw [List.mem_flatMap] at hb
  obtain ⟨c, hc, hb⟩ := hb
  exact encS_plain (h1.all c hc) b hb
theorem name_no_dot {l : List UInt8} (h : mayN l = true) : (46 : UInt8) ∉ l := by
  intro hm
  have := name_plain h _ hm
  unfold plainB at this
  have e : (46 : UInt8).toNat = 46 := rfl
  omega

/-- Two names side by side. -/
theorem name_app {a b : List UInt8} (ha : mayN a = true) (hb : mayN b = true) : mayN (a ++ b) = decide (lenN a + lenN b ≤ 8) ∧ (mayN (a ++ b) = true → lenN (a ++ b) = lenN a + lenN b) := by
  obtain ⟨ca, h1, e1, s1⟩ := name_form ha
  obtain ⟨cb, h2, e2, s2⟩ := name_form hb
  have l1 : lenN a = ca.length := by rw [e1, len_mk h1]
  have l2 : lenN b = cb.length := by rw [e2, len_mk h2]
  have hs : signs (a ++ b) = ca ++ cb := by
    rw [e1, signs_enc ca h1.all, s2]
  have hok : okS true (ca ++ cb) = true := by rw [okS_app _ _ _ h1.2.1, h1.1, h2.weak]; rfl
  refine ⟨?_, fun h => ?_⟩
  · rw [Bool.eq_iff_iff, mayN_iff, decide_eq_true_eq, hs, l1, l2]
    constructor
    · intro h; have := h.2.2; rwa [List.length_append] at this
    · intro h; exact ⟨hok, by simp [h1.2.1], by rw [List.length_append]; exact h⟩
  · have h := mayN_iff.1 h
    rw [lenN_of h, hs, List.length_append, l1, l2]
end Go.Proofs.Ytahpogbcodfdmaa
