/- Ranges over functions: what several walks share. Nothing of a program is named here. -/
import Derived.Test.YtmcbnpeihedcaaaWords
import Derived.RangeFuncNested
import Derived.RangeFuncBound
import Derived.RangeFuncCalls
import Derived.RangeFuncLeaves
import Derived.Shelf.Abstract
import Derived.Shelf.RegionOpen
import Derived.WalkKit
import Derived.OwnWalkIn
import Derived.TacticsInMore
import Derived.LoopNIn
import Derived.LoopIn
namespace Go.Proofs.Ytmcbnpeihedcaaa
open Go Go.RowKit Go.Shelf
set_option linter.unusedVariables false

section
variable {F : Fence} {n : Nat} {P : Program}

/-- A loop inside a fence; the round's way back is kept out of the walk's sight. -/
theorem wpIn_loop_k {c : Code} {Q : Exit → Act → World → Prop} {a : Act} {w : World} (I : Act → World → Prop) (μ : Act → World → Nat) (h₀ : I a w)
    (round : ∀ a w, I a w → ∀ K : Act → World → Prop, Hid (∀ a' w', I a' w' → μ a' w' < μ a w → K a' w') → c.wpIn F n P (Exit.then K Q) a w) : (Code.loop c).wpIn F n P Q a w :=
  wpIn_loop I μ h₀ fun a w h => round a w h _ fun _ _ h1 h2 => ⟨h1, h2⟩

/-- The mark of a loop over a function. -/
def markD (D : Nat) : Deferred := { target := .collected D, args := #[] }

/-- Nothing has turned but blocks from B on that are no cells, none of them a block of cells. -/
def QuietD (B : Nat) (W W' : World) : Prop := (∀ g t cs, Blk W g t cs → Blk W' g t cs) ∧ Below B W W'
theorem QuietD.refl (B : Nat) (W : World) : QuietD B W W := ⟨fun _ _ _ h => h, Below.refl _ _⟩
theorem QuietD.trans {B : Nat} {W W' W2 : World} (h : QuietD B W W') (h2 : QuietD B W' W2) : QuietD B W W2 := ⟨fun g t cs h3 => h2.1 g t cs (h.1 g t cs h3), h.2.trans h2.2⟩
theorem QuietD.putObj {B : Nat} {W : World} {D : Nat} {o : Obj} (o' : Obj) (h : W.heap[D]? = some o) (ho : o.isCells = false) (hB : B ≤ D) : QuietD B W (W.putObj D o') := by
  refine ⟨fun g t cs hb => ?_, ?_⟩
  · have hne : g ≠ D := by
      intro e
      subst e
      unfold Blk at hb
      rw [h] at hb
      injection hb with hb
      subst hb
      simp [Obj.isCells] at ho
    exact (World.putObj_heap_other hne).trans hb
  · exact (Below.refl B W).grown (grownBy_putObj' W D o') (by have := (Array.getElem?_eq_some_iff.1 h).1; omega) (fun k e => by cases e; exact hB)

theorem QuietD.own {B : Nat} {W W' : World} (h : QuietD B W W') {base : Nat} {e : TypeId} {k n : Nat} {v : Value} {xs : List Value} (hr : W.ownsRow base e k v n xs) : W'.ownsRow base e k v n xs := by
  refine ⟨hr.1, ?_⟩
  rcases hr.2 with h1 | ⟨g, cap, cur, rfl, h1, h2, h3⟩
  · exact .inl h1
  · exact .inr ⟨g, cap, cur, rfl, h1, h.1 g _ _ h2, h3⟩

/-- A function leaves, with marks of loops that nothing was deferred in. -/
theorem leaves_marks {fn : Func} {tmps : Array Value} {R : Ending → World → Prop} {B : Nat} : ∀ (Ds : List Nat) (W : World), Ds.Nodup → (∀ D ∈ Ds, B ≤ D ∧ W.heap[D]? = some (.deferred (some []))) →
    (∀ W', QuietD B W W' → ∃ v, (results fn tmps).run P W' = .ok v W' ∧ R (.returned v) W') → LeavesInM F n P fn tmps R (Ds.map markD) .returning W
  | [], W, _, _, h => h W (QuietD.refl B W)
  | D :: Ds, W, hn, hD, h => by
    rw [List.nodup_cons] at hn
    refine ⟨by simp, .inl ⟨D, W.putObj D (.deferred none), rfl, run_takeDeferred (hD D (by simp)).2, ?_⟩⟩
    have hq := QuietD.putObj (B := B) (.deferred none) (hD D (by simp)).2 rfl (hD D (by simp)).1
    refine leaves_marks Ds _ hn.2 (fun D' hD' => ⟨(hD D' (by simp [hD'])).1, ?_⟩) fun W' h' => h W' (hq.trans h')
    have hne : D' ≠ D := fun e => hn.1 (by rw [← e]; exact hD')
    exact (World.putObj_heap_other hne).trans (hD D' (by simp [hD'])).2

/-- Blocks of cells abide what a loop over a function keeps its books with. -/
theorem blk_own {β : Type} (f : β → Nat) (t : β → TypeId) (cs : β → Array Value) : Own (fun s W => Blk W (f s) (t s) (cs s)) := by
  intro s W W' row hs hg hr
  refine hs.grown hg ?_
  intro e
  obtain ⟨o, ho, hc⟩ := hr _ e.symm
  have hs : W.heap[f s]? = some (.cells (cs s) (t s) (0, 0)) := hs
  rw [hs] at ho
  injection ho with ho
  subst ho
  simp [Obj.isCells] at hc
theorem mark_own {β : Type} {B : Nat} (D : β → Nat → Prop) (hB : ∀ s d, D s d → d < B) : OwnFrom B (fun s W => ∀ d, D s d → W.heap[d]? = some (.deferred (some []))) := by
  intro s W W' row hs hg hr d hd
  have h1 := hs d hd
  refine (hg.block d (Array.getElem?_eq_some_iff.1 h1).1 ?_).trans h1
  intro e
  have := (hr _ e.symm).1
  have := hB s d hd
  omega
theorem mark_far {W : World} {d g o : Nat} {u : Value} (h : W.heap[d]? = some (.deferred (some []))) (hne : d ≠ g) : (W.setCell ⟨g, o, none⟩ u).heap[d]? = some (.deferred (some [])) :=
  (Below.heap_setCell W ⟨g, o, none⟩ u d hne).trans h
theorem keeps_below {B : Nat} {W W' : World} (_h : B ≤ W.heap.size) (hb : Below W.heap.size W W') : KeepsFrom B W W' :=
  ⟨hb.size, fun k o _ hk _ => (hb.block k (Array.getElem?_eq_some_iff.1 hk).1).trans hk⟩
theorem keeps_setCell (B : Nat) (W : World) (a : Addr) (v : Value) : KeepsFrom B W (W.setCell a v) := (KeepsOthers.setCell W a v).from B
end
end Go.Proofs.Ytmcbnpeihedcaaa
