/- page.May. -/
import Derived.Test.YtoogobenjhmjjaaPgOdd
namespace Go.Proofs.Ytoogobenjhmjjaa
open Go Go.RowKit

/-- May a store be? -/
def mayP (cap : Int) (ps : List Pg) : Bool := decide (0 ≤ cap) && (decide (cap ≤ 12) && (decide ((ps.length : Int) ≤ cap) && !ps.any oddP))

theorem odd_pred (w : World) : PredB Try.prog 54 #[] (fun x : Pg => Value.agg (encP x).toArray) oddP w := fun W x _ => odd_any x W

set_option maxHeartbeats 400000 in
theorem may_any (cap : Int) (sv : Value) (ps : List Pg) (w : World) (hv : Sl w 5 sv ps.length (ps.flatMap encP)) :
    Calls Try.prog 29 #[.agg #[.int .i64 cap, sv]] w fun e w' => e = .returned (.bool (mayP cap ps)) ∧ Below w.heap.size w w' := by
  have eg : ∀ args w, (callFunc 54 args).run Try.prog w = .ok (.enter 54 args) w := enters_of Try.func54 (by kernel_rfl) rfl
  have hcon := fun (W : World) (hb : Below w.heap.size w W) => contains_page oddP 54 #[] eg sv ps W (odd_pred W) (hv.below hb)
  obtain ⟨A, c, rfl, hc, hm⟩ := hv.form
  clear hv eg
  generalize hq : ps.any oddP = q at hcon
  have HQ := Lib.hid hq
  clear hq
  by_cases h1 : 0 ≤ cap
  · by_cases h2 : cap ≤ 12
    · by_cases h3 : (ps.length : Int) ≤ cap
      · have ho : mayP cap ps = !q := by simp [mayP, h1, h2, h3, HQ.out]
        rw [ho]
        clear ho HQ
        generalize ps.length = n at *
        go_enter Try.func29, Try.ntmps29
        go_wp2_with (go_at_call 53; refine (hcon _ ((Below.refl _ _).alloc (Nat.le_refl _) _)).mono ?_; rintro e w' ⟨rfl, hb'⟩)
        go_ret
        exact ⟨rfl, ((Below.refl _ w).alloc (Nat.le_refl _) _).trans (hb'.mono (by simp))⟩
      · have ho : mayP cap ps = false := by simp [mayP, h3]
        rw [ho]
        clear ho HQ hcon
        generalize ps.length = n at *
        go_enter Try.func29, Try.ntmps29
        go_wp2
        go_ret
        exact ⟨rfl, (Below.refl _ w).alloc (Nat.le_refl _) _⟩
    · have ho : mayP cap ps = false := by simp [mayP, h2]
      rw [ho]
      clear ho HQ hcon
      generalize ps.length = n at *
      go_enter Try.func29, Try.ntmps29
      go_wp2
      go_ret
      exact ⟨rfl, (Below.refl _ w).alloc (Nat.le_refl _) _⟩
  · have ho : mayP cap ps = false := by simp [mayP, h1]
    rw [ho]
    clear ho HQ hcon
    generalize ps.length = n at *
    go_enter Try.func29, Try.ntmps29
    go_wp2
    go_ret
    exact ⟨rfl, (Below.refl _ w).alloc (Nat.le_refl _) _⟩
end Go.Proofs.Ytoogobenjhmjjaa
