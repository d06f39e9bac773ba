/- NameOrder: what is ahead of what. -/
import Derived.Test.YtahpogbcodfdmaaNmOrder
namespace Go.Proofs.Ytahpogbcodfdmaa
open Go Go.RowKit
set_option linter.unusedVariables false

theorem cmpS_anti : ∀ x y : List Nat, cmpS y x = - cmpS x y
  | [], [] => rfl
  | [], _ :: _ => rfl
  | _ :: _, [] => rfl
  | x :: xs, y :: ys => by
    have := cmpS_anti xs ys
    simp only [cmpS]
    split <;> split <;> first | omega | rfl | exact this
theorem cmpS_zero : ∀ x y : List Nat, cmpS x y = 0 ↔ x = y
  | [], [] => by simp [cmpS]
  | [], _ :: _ => by simp [cmpS]
  | _ :: _, [] => by simp [cmpS]
  | x :: xs, y :: ys => by
    have := cmpS_zero xs ys
    simp only [cmpS, List.cons.injEq]
    split
    · exact ⟨fun h => by omega, fun h => by omega⟩
    · split
      · exact ⟨fun h => by omega, fun h => by omega⟩
      · rw [this]
        exact ⟨fun h => ⟨by omega, h⟩, fun h => h.2⟩
theorem cmpS_trans : ∀ x y z : List Nat, cmpS x y < 0 → cmpS y z < 0 → cmpS x z < 0
  | [], [], _ => fun h _ => absurd h (by simp [cmpS])
  | [], _ :: _, [] => fun _ h => absurd h (by simp [cmpS])
  | [], _ :: _, _ :: _ => fun _ _ => by simp [cmpS]
  | _ :: _, [], _ => fun h _ => absurd h (by simp [cmpS])
  | _ :: _, _ :: _, [] => fun _ h => absurd h (by simp [cmpS])
  | x :: xs, y :: ys, z :: zs => by
    have := cmpS_trans xs ys zs
    simp only [cmpS]
    intro h1 h2
    split at h1
    · split at h2
      · rw [if_pos (by omega)]; omega
      · split at h2
        · omega
        · rw [if_pos (by omega)]; omega
    · split at h1
      · omega
      · split at h2
        · rw [if_pos (by omega)]; omega
        · split at h2
          · omega
          · rw [if_neg (by omega), if_neg (by omega)]
            exact this h1 h2
theorem cmpS_pre (a b : List Nat) (h : b ≠ []) : cmpS a (a ++ b) < 0 := by
  induction a with
  | nil => cases b with
    | nil => exact absurd rfl h
    | cons x b => simp [cmpS]
  | cons x a ih =>
    simp only [List.cons_append, cmpS, Nat.lt_irrefl, if_false]
    exact ih

/-- Names of the same signs are the same. -/
theorem name_inj {a b : List UInt8} (ha : mayN a = true) (hb : mayN b = true) (h : signs a = signs b) : a = b := by
  obtain ⟨ca, h1, e1, s1⟩ := name_form ha
  obtain ⟨cb, h2, e2, s2⟩ := name_form hb
  rw [e1, e2, ← s1, ← s2, h]

theorem bool_of {p : Prop} [Decidable p] {b : Bool} (h : decide p = b) : (b = true ↔ p) := by rw [← h, decide_eq_true_eq]

theorem nameOrder_walk (w : World) (a : ByteArray) (wa : a.size ≤ maxLen) (b : ByteArray) (wb : b.size ≤ maxLen) (c : ByteArray) (wc : c.size ≤ maxLen) :
    Calls Try.prog 4 #[.string a, .string b, .string c] w fun e w' => e = .returned (.bool true) ∧ Below w.heap.size w w' := by
  unfold maxLen at wa wb wc
  have sz : ∀ s : ByteArray, s.data.toList.length = s.size := fun s => by rw [Array.length_toList]; rfl
  have cm := fun (s : ByteArray) (hs : s.size ≤ 9223372036854775807) W => nmay_any s W hs
  cases ma : mayN a.data.toList with
  | false => exact order_a a b c (fun W => by have := cm a wa W; rwa [ma] at this) w
  | true =>
    have ca : ∀ W : World, Calls Try.prog 14 #[.string a] W fun e w' => e = .returned (.bool true) ∧ Below W.heap.size W w' := fun W => by have := cm a wa W; rwa [ma] at this
    cases mb : mayN b.data.toList with
    | false => exact order_b a b c ca (fun W => by have := cm b wb W; rwa [mb] at this) w
    | true =>
      have cb : ∀ W : World, Calls Try.prog 14 #[.string b] W fun e w' => e = .returned (.bool true) ∧ Below W.heap.size W w' := fun W => by have := cm b wb W; rwa [mb] at this
      by_cases hc : 200 < c.size
      · exact order_c a b c ca cb hc w
      have hc : c.size ≤ 200 := by omega
      have ha := name_small ma
      have hb := name_small mb
      rw [sz] at ha hb
      have cl := fun (s t : ByteArray) (hs : s.size ≤ 400) (ht : t.size ≤ 400) (v : Bool) (h : ltN s.data.toList t.data.toList = v) (W : World) => (show Calls Try.prog 17 #[.string s, .string t] W fun e w' => e = .returned (.bool v) ∧ Below W.heap.size W w' from h ▸ NLess_any s t W (by omega) (by omega))
      have cd : ∀ (v : Bool), mayN c.data.toList = v → ∀ W : World, Calls Try.prog 14 #[.string c] W fun e w' => e = .returned (.bool v) ∧ Below W.heap.size W w' := fun v h W => by have := cm c wc W; rwa [h] at this
      have cpre : mayN c.data.toList = true → ltN a.data.toList (a ++ c).data.toList = true := by
        intro mc
        obtain ⟨sa, h1, e1, s1⟩ := name_form ma
        obtain ⟨sc, h2, e2, s2⟩ := name_form mc
        unfold ltN
        rw [decide_eq_true_eq, s1, show (a ++ c).data.toList = a.data.toList ++ c.data.toList by rw [ByteArray.data_append, Array.toList_append], e1, signs_enc sa h1.all, s2]
        exact cmpS_pre _ _ h2.2.1
      have ceq : (a.toList == b.toList) = decide (signs a.data.toList = signs b.data.toList) := by
        rw [Bool.eq_iff_iff, beq_iff_eq, decide_eq_true_eq, Lib.toList_data, Lib.toList_data]
        exact ⟨fun h => by rw [h], fun h => name_inj ma mb h⟩
      have hsac : (a ++ c).size ≤ 400 := by rw [ByteArray.size_append]; omega
      cases mc : mayN c.data.toList
      all_goals
        obtain ⟨x, hx⟩ : ∃ x, ltN a.data.toList b.data.toList = x := ⟨_, rfl⟩
        obtain ⟨y, hy⟩ : ∃ x, ltN b.data.toList a.data.toList = x := ⟨_, rfl⟩
        obtain ⟨p, hp⟩ : ∃ x, ltN b.data.toList c.data.toList = x := ⟨_, rfl⟩
        obtain ⟨q, hq⟩ : ∃ x, ltN a.data.toList c.data.toList = x := ⟨_, rfl⟩
        have fx := bool_of hx
        have fy := bool_of hy
        have fp := bool_of hp
        have fq := bool_of hq
        have an := cmpS_anti (signs a.data.toList) (signs b.data.toList)
        have ze := cmpS_zero (signs a.data.toList) (signs b.data.toList)
        have tr := cmpS_trans (signs a.data.toList) (signs b.data.toList) (signs c.data.toList)
        cases x
        · cases y
          · have : signs a.data.toList = signs b.data.toList := by
              rw [← ze]; simp at fx fy; omega
            rw [decide_eq_true this] at ceq
            first
            | exact order_eqn a b c ca cb hc ha (cl a b (by omega) (by omega) _ hx) (cl b a (by omega) (by omega) _ hy) ceq (cd _ mc) w
            | exact order_eqy a b c ca cb hc ha (cl a b (by omega) (by omega) _ hx) (cl b a (by omega) (by omega) _ hy) ceq (cd _ mc) (cl a _ (by omega) hsac _ (cpre mc)) w
          · have : ¬ signs a.data.toList = signs b.data.toList := by
              rw [← ze]; simp at fx fy; omega
            rw [decide_eq_false this] at ceq
            first
            | exact order_gtn a b c ca cb hc ha (cl a b (by omega) (by omega) _ hx) (cl b a (by omega) (by omega) _ hy) ceq (cd _ mc) w
            | exact order_gty a b c ca cb hc ha (cl a b (by omega) (by omega) _ hx) (cl b a (by omega) (by omega) _ hy) ceq (cd _ mc) (cl a _ (by omega) hsac _ (cpre mc)) w
        · have fxx := fx.1 rfl
          have hne : ¬ signs a.data.toList = signs b.data.toList := by
            rw [← ze]; omega
          rw [decide_eq_false hne] at ceq
          obtain rfl : y = false := by
            cases y
            · rfl
            · have := fy.1 rfl; omega
          cases p
          · first
            | exact order_lt0n a b c ca cb hc ha (cl a b (by omega) (by omega) _ hx) (cl b a (by omega) (by omega) _ hy) ceq (cl b c (by omega) (by omega) _ hp) (cd _ mc) w
            | exact order_lt0y a b c ca cb hc ha (cl a b (by omega) (by omega) _ hx) (cl b a (by omega) (by omega) _ hy) ceq (cl b c (by omega) (by omega) _ hp) (cd _ mc) (cl a _ (by omega) hsac _ (cpre mc)) w
          · obtain rfl : q = true := fq.2 (tr fxx (fp.1 rfl))
            first
            | exact order_lt1n a b c ca cb hc ha (cl a b (by omega) (by omega) _ hx) (cl b a (by omega) (by omega) _ hy) ceq (cl b c (by omega) (by omega) _ hp) (cl a c (by omega) (by omega) _ hq) (cd _ mc) w
            | exact order_lt1y a b c ca cb hc ha (cl a b (by omega) (by omega) _ hx) (cl b a (by omega) (by omega) _ hy) ceq (cl b c (by omega) (by omega) _ hp) (cl a c (by omega) (by omega) _ hq) (cd _ mc) (cl a _ (by omega) hsac _ (cpre mc)) w
end Go.Proofs.Ytahpogbcodfdmaa
