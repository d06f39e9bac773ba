/- slices.EqualFunc at counts and pages, and at tables. -/
import Derived.Test.YtoogobenjhmjjaaTbWords
import Derived.Test.YtoogobenjhmjjaaCopy
namespace Go.Proofs.Ytoogobenjhmjjaa
open Go Go.RowKit
set_option linter.unusedVariables false

/-- Do two lists agree, one by one? -/
def eqR {α β : Type} (p : α → β → Bool) : List α → List β → Bool
  | [], [] => true
  | x :: xs, y :: ys => p x y && eqR p xs ys
  | _, _ => false
theorem eqR_len {α β : Type} {p : α → β → Bool} : ∀ {xs : List α} {ys : List β}, eqR p xs ys = true → xs.length = ys.length
  | [], [], _ => rfl
  | x :: xs, y :: ys, h => by
    unfold eqR at h
    rw [Bool.and_eq_true] at h
    simp [eqR_len h.2]
  | [], _ :: _, h => by simp [eqR] at h
  | _ :: _, [], h => by simp [eqR] at h
theorem eqR_at {α β : Type} {p : α → β → Bool} : ∀ {xs : List α} {ys : List β} (k : Nat) (h1 : k < xs.length) (h2 : k < ys.length), eqR p xs ys = true → p xs[k] ys[k] = true
  | [], _, k, h1, _, _ => by simp at h1
  | x :: xs, [], k, _, h2, _ => by simp at h2
  | x :: xs, y :: ys, k, h1, h2, h => by
    unfold eqR at h
    rw [Bool.and_eq_true] at h
    cases k with
    | zero => exact h.1
    | succ k => exact eqR_at k (by simpa using h1) (by simpa using h2) h.2
theorem eqR_all {α β : Type} {p : α → β → Bool} : ∀ {xs : List α} {ys : List β}, xs.length = ys.length → (∀ k (h1 : k < xs.length) (h2 : k < ys.length), p xs[k] ys[k] = true) → eqR p xs ys = true
  | [], [], _, _ => rfl
  | x :: xs, y :: ys, hl, h => by
    unfold eqR
    rw [Bool.and_eq_true]
    exact ⟨h 0 (by simp) (by simp), eqR_all (by simpa using hl) fun k h1 h2 => h (k + 1) (by simpa using h1) (by simpa using h2)⟩
  | [], _ :: _, hl, _ => by simp at hl
  | _ :: _, [], hl, _ => by simp at hl

def isRefs (n : Int) (p : Pg) : Bool := n == p.r

set_option maxHeartbeats 400000 in
theorem isrefs_any (n : Int) (p : Pg) (w : World) : Calls Try.prog 32 #[.int .i64 n, .agg (encP p).toArray] w fun e w' => e = .returned (.bool (isRefs n p)) ∧ Below w.heap.size w w' := by
  unfold isRefs
  simp only [encP]
  go_enter Try.func32, Try.ntmps32
  go_wp2
  go_ret
  exact ⟨rfl, (Below.refl _ _).alloc (Nat.le_refl _) _⟩

set_option maxHeartbeats 4000000 in
theorem eqf_refs (v1 v2 : Value) (xs : List Int) (ys : List Pg) (w : World) (hv : Sl w 1 v1 xs.length (xs.flatMap encI)) (hv2 : Sl w 5 v2 ys.length (ys.flatMap encP)) :
    Calls Try.prog 31 #[v1, v2, .func (.func 32) #[] #[]] w fun e w' => e = .returned (.bool (eqR isRefs xs ys)) ∧ Below w.heap.size w w' := by
  have eg : ∀ args w, (callFunc 32 args).run Try.prog w = .ok (.enter 32 args) w := enters_of Try.func32 (by kernel_rfl) rfl
  obtain ⟨A1, c1, rfl, hc1, hm1⟩ := hv.form
  obtain ⟨A2, c2, rfl, hc2, hm2⟩ := hv2.form
  by_cases hlen : xs.length = ys.length
  · have HX := Lib.hid (fun h : 0 < xs.length => ints_elem hv h)
    have HY := Lib.hid (fun h : 0 < ys.length => Sl.pos encP encP_len hv2 h)
    have HL := Lib.hid hlen
    obtain ⟨n, hn⟩ : ∃ n, xs.length = n := ⟨_, rfl⟩
    have hn2 : ys.length = n := by rw [← hlen, hn]
    have HN := Lib.hid hn
    have HN2 := Lib.hid hn2
    rw [hn, hn2]
    have hbig : n ≤ 9223372036854775807 := by unfold maxLen at hm1; omega
    clear hv hv2 hc1 hc2 hm1 hm2 hn hn2 hlen
    go_enter Try.func31, Try.ntmps31
    go_wp2
    go_loopg [17] n (fun gg s17 wr => ∃ k : Nat, k ≤ n ∧ n - k ≤ gg ∧ s17 = .int .i64 k ∧ Below w.heap.size w wr ∧ Hid (∀ j (h : j < xs.length) (h2 : j < ys.length), j < k → isRefs xs[j] ys[j] = true))
    case atStart => exact ⟨0, Nat.zero_le _, Nat.le_refl _, rfl, Below.refl _ w, fun j _ _ hj => absurd hj (Nat.not_lt_zero _)⟩
    case round =>
      obtain ⟨k, hk, hg, rfl, BW, AA⟩ := hrel
      by_cases hlt : k < n
      · have hltz : (k : Int) < (n : Int) := by omega
        have hgez : (0 : Int) ≤ (k : Int) := by omega
        have hk1 : k < xs.length := by rw [HN.out]; exact hlt
        have hk2 : k < ys.length := by rw [HN2.out]; exact hlt
        obtain ⟨b1, o1, rfl, hb1, he1⟩ := HX.out (by omega)
        obtain ⟨b2, o2, rfl, hb2, he2⟩ := HY.out (by omega)
        have x0 := (BW.cell (p := ⟨b1, o1 + k, none⟩) hb1).trans (he1 k hk1)
        have l2 := he2 wr BW k hk2
        have y0 := l2 0 _ rfl
        have y1 := l2 1 _ rfl
        have y2 := l2 2 _ rfl
        have y3 := l2 3 _ rfl
        have y4 := l2 4 _ rfl
        simp only [Nat.add_zero] at y0
        have HQ0 := Lib.hid (fun h : isRefs xs[k] ys[k] = true => (show ∀ j (h : j < xs.length) (h2 : j < ys.length), j < k + 1 → isRefs xs[j] ys[j] = true from fun j h1 h2 hj => by
          by_cases e : j = k
          · subst e; exact h
          · exact AA.out j h1 h2 (by omega)))
        have HQ1 := Lib.hid (fun h : isRefs xs[k] ys[k] = false => (show eqR isRefs xs ys = false from by
          cases he : eqR isRefs xs ys with
          | false => rfl
          | true => have := eqR_at k hk1 hk2 he; rw [h] at this; cases this))
        have cR := fun w => isrefs_any xs[k] ys[k] w
        clear he1 he2 l2 HX HY
        generalize xs[k] = x at *
        generalize ys[k] = y at *
        simp only [encP] at cR
        cases hq : isRefs x y with
        | true =>
          rw [hq] at cR
          have HQ := Lib.hid (HQ0.out hq)
          clear hq HQ0 HQ1
          go_wp2_with (go_at_fn 32; refine (cR _).mono ?_; rintro e w' ⟨rfl, hb'⟩)
          have hY := ((BW.alloc BW.size (.cells #[.int .i64 y.r, .int .i64 y.a, .int .i64 y.b, .int .i64 y.c, .int .i64 y.d] 54)).trans (hb'.mono (by simp; have := BW.size; omega)))
          clear hb'
          go_roundg (n - (k + 1))
          case measure => omega
          case rel => exact ⟨k + 1, by omega, by omega, by go_num, hY, HQ.out⟩
        | false =>
          rw [hq] at cR
          have HQ := Lib.hid (HQ1.out hq)
          clear hq HQ0 HQ1
          go_wp2_with (go_at_fn 32; refine (cR _).mono ?_; rintro e w' ⟨rfl, hb'⟩)
          have hY := ((BW.alloc BW.size (.cells #[.int .i64 y.r, .int .i64 y.a, .int .i64 y.b, .int .i64 y.c, .int .i64 y.d] 54)).trans (hb'.mono (by simp; have := BW.size; omega)))
          go_ret
          exact ⟨by rw [HQ.out]; rfl, hY⟩
      · obtain rfl : k = n := by omega
        have HQ := Lib.hid (show eqR isRefs xs ys = true from eqR_all HL.out fun j h1 h2 => AA.out j h1 h2 (by rw [← HN.out]; exact h1))
        clear HX HY
        go_wp2
        go_ret
        exact ⟨by rw [HQ.out]; rfl, BW⟩
  · have HQ := Lib.hid (show eqR isRefs xs ys = false from by
      cases h : eqR isRefs xs ys with
      | false => rfl
      | true => exact absurd (eqR_len h) hlen)
    rw [HQ.out]
    clear hv hv2 HQ
    generalize xs.length = n at *
    generalize ys.length = m at *
    have hne : ((n : Int) != (m : Int)) = true := by simp; omega
    clear hlen
    go_enter Try.func31, Try.ntmps31
    go_wp2
    go_ret
    exact ⟨rfl, Below.refl _ _⟩
end Go.Proofs.Ytoogobenjhmjjaa
