/- page.odd, and the closure of alloc; page.May. -/
import Derived.Test.YtoogobenjhmjjaaPgEq
namespace Go.Proofs.Ytoogobenjhmjjaa
open Go Go.RowKit

def oddP (p : Pg) : Bool := decide (p.r < 0) || (decide (1000 < p.r) || (p.r == 0 && !pgEq p ⟨0, 0, 0, 0, 0⟩))

set_option maxHeartbeats 400000 in
theorem odd_any (x : Pg) (w : World) : Calls Try.prog 54 #[.agg (encP x).toArray] w fun e w' => e = .returned (.bool (oddP x)) ∧ Below w.heap.size w w' := by
  have hne := fun w => neq_page x ⟨0, 0, 0, 0, 0⟩ w
  have hgd := fun a b w => guard_page .neq a b x ⟨0, 0, 0, 0, 0⟩ w
  generalize hq : pgEq x ⟨0, 0, 0, 0, 0⟩ = q at hne
  have HQ := Lib.hid hq
  clear hq
  simp only [encP] at hne hgd ⊢
  by_cases h1 : x.r < 0
  · have ho : oddP x = true := by simp [oddP, h1]
    rw [ho]
    clear ho
    go_enter Try.func54, Try.ntmps54
    go_wp2
    go_ret
    exact ⟨rfl, (Below.refl _ _).alloc (Nat.le_refl _) _⟩
  · by_cases h2 : 1000 < x.r
    · have ho : oddP x = true := by simp [oddP, h2]
      rw [ho]
      clear ho
      go_enter Try.func54, Try.ntmps54
      go_wp2
      go_ret
      exact ⟨rfl, (Below.refl _ _).alloc (Nat.le_refl _) _⟩
    · by_cases h3 : x.r = 0
      · have ho : oddP x = !q := by simp [oddP, h3, HQ.out]
        rw [ho]
        clear ho
        have h3' : (x.r == 0) = true := by simp [h3]
        clear h3
        go_enter Try.func54, Try.ntmps54
        go_wp2
        go_ret
        exact ⟨rfl, (Below.refl _ _).alloc (Nat.le_refl _) _⟩
      · have ho : oddP x = false := by simp [oddP, h1, h2, h3]
        rw [ho]
        clear ho
        have h3' : (x.r == 0) = false := by simp [h3]
        go_enter Try.func54, Try.ntmps54
        go_wp2
        go_ret
        exact ⟨rfl, (Below.refl _ _).alloc (Nat.le_refl _) _⟩
end Go.Proofs.Ytoogobenjhmjjaa
