/- page.own. -/
import Derived.Test.YtoogobenjhmjjaaPgMay
namespace Go.Proofs.Ytoogobenjhmjjaa
open Go Go.RowKit

theorem encP_one (ps : List Pg) : ∀ u ∈ ps.flatMap encP, u.oneCell' = true := by
  intro u hu
  obtain ⟨p, _, hp⟩ := List.mem_flatMap.1 hu
  simp only [encP, List.mem_cons, List.not_mem_nil, or_false] at hp
  rcases hp with rfl | rfl | rfl | rfl | rfl <;> rfl

/-- A store at work: the pointer p leads to a block of its own, from base on, of a store with these pages, whose row is its own too. -/
def OwnSt (w : World) (base : Nat) (p : Value) (cap : Int) (ps : List Pg) : Prop :=
  ∃ B sv, p = .pointer (some ⟨B, 0, none⟩) ∧ base ≤ B ∧ Blk w B 90 #[.int .i64 cap, sv] ∧ w.ownsRow base 54 5 sv ps.length (ps.flatMap encP)

set_option maxHeartbeats 400000 in
theorem own_any (cap : Int) (sv : Value) (ps : List Pg) (w : World) (hv : Sl w 5 sv ps.length (ps.flatMap encP)) (hn : ps.length ≤ 1000) :
    Calls Try.prog 59 #[.agg #[.int .i64 cap, sv]] w fun e w' => ∃ p, e = .returned p ∧ OwnSt w' w.heap.size p cap ps ∧ Below w.heap.size w w' := by
  have hcon := clone_page sv ps.length (ps.flatMap encP) (w.alloc (.cells #[.int .i64 cap, sv] 25)) (hv.below ((Below.refl _ _).alloc (Nat.le_refl _) _)) (encP_one ps) (by omega)
  obtain ⟨A, c, rfl, hc, hm⟩ := hv.form
  clear hv
  go_enter Try.func59, Try.ntmps59
  go_wp2_with fail
  refine hcon.mono ?_
  rintro e w1 ⟨v1, rfl, hown, hb⟩
  obtain ⟨A1, c1, rfl, _, _⟩ := (Sl.of_own hown).form
  obtain ⟨hc, hf⟩ := bcell hb
  have hz := hb.size
  simp at hz
  go_wp2
  go_ret
  refine ⟨_, rfl, ⟨w1.heap.size, .slice A1 ps.length c1, rfl, by omega, ?_, ?_⟩, ?_⟩
  · exact Blk.new_ _ _ _ _ (by simp [World.setCell])
  · refine World.ownsRow.alloc ?_ _
    exact ownsRow_mono (ownsRow_setCell_below hown (by simp) _) (by simp)
  · exact ((((Below.refl w.heap.size w).alloc (Nat.le_refl _) _).trans (hb.mono (by simp))).setCell (Nat.le_refl _) _).alloc (by simp [World.setCell]; omega) _
end Go.Proofs.Ytoogobenjhmjjaa
