/- (*page.store).alloc, where no page is free. -/
import Derived.Test.YtoogobenjhmjjaaPgAlloc
namespace Go.Proofs.Ytoogobenjhmjjaa
open Go Go.RowKit

set_option maxHeartbeats 400000 in
theorem alloc_full (base : Nat) (pv : Value) (cap : Int) (ps : List Pg) (x : Pg) (w : World) (hs : OwnSt w base pv cap ps) (hb0 : base ≤ w.heap.size) (hat' : idxF freeP ps = -1) (hfull : (ps.length : Int) = cap) :
    Calls Try.prog 60 #[pv, .agg (encP x).toArray] w fun e w' => e = .returned (.tuple #[.int .i64 (-1), .int .i64 8]) ∧ OwnSt w' base pv cap ps ∧ Below base w w' := by
  obtain ⟨B, sv, rfl, hB, hblk, hown⟩ := hs
  have eg : ∀ args w, (callFunc 72 args).run Try.prog w = .ok (.enter 72 args) w := enters_of Try.func72 (by kernel_rfl) rfl
  have hcon := fun (W : World) (hb : Below w.heap.size w W) => index_page freeP 72 #[] eg sv ps W (free_pred W) ((Sl.of_own hown).below hb)
  rw [hat'] at hcon
  obtain ⟨A, c, rfl, _, _⟩ := (Sl.of_own hown).form
  have c0 := hblk.cell 0
  have c1 := hblk.cell 1
  have hBlt := hblk.lt
  simp only [encP]
  clear eg hat'
  subst hfull
  generalize hn : ps.length = n at *
  have HN := Lib.hid hn
  clear hn
  go_enter Try.func60, Try.ntmps60
  go_wp2_with fail
  refine (hcon _ (by exact (Below.refl _ _).alloc (Nat.le_refl _) _)).mono ?_
  rintro e w1 ⟨rfl, hb⟩
  clear hcon
  have hbw : Below w.heap.size w w1 := ((Below.refl w.heap.size w).alloc (Nat.le_refl _) _).trans (hb.mono (by simp))
  have r0 : w1.cell? ⟨B, 0, none⟩ = some (.int .i64 n) := (hbw.cell (p := ⟨B, 0, none⟩) hBlt).trans (by rw [c0]; rfl)
  have r1 : w1.cell? ⟨B, 1, none⟩ = some (.slice A n c) := (hbw.cell (p := ⟨B, 1, none⟩) hBlt).trans (by rw [c1]; rfl)
  clear c0 c1
  go_wp2_with fail
  go_quiet (fail)
  go_wp2
  go_ret2
  refine ⟨rfl, ⟨B, .slice A n c, rfl, hB, (hblk.below hbw hBlt).drewN _, ?_⟩, below_drewN (hbw.mono hb0) _⟩
  rw [HN.out]
  exact own_drewN (own_below hown hbw) _


end Go.Proofs.Ytoogobenjhmjjaa
