/- A region that draws its order, in a round of a loop over a function: walked as outside of it. Nothing of a program is named here. -/
import Derived.Test.YtmcbnpeihedcaaaRfKit
import Derived.Deep.RegionHeld3
namespace Go.Proofs.Ytmcbnpeihedcaaa
open Go Go.RowKit Go.Shelf
set_option linter.unusedVariables false

/-- Q where all goes on, and nowhere else. -/
def NormOnly (Q : Exit → Act → World → Prop) : Exit → Act → World → Prop
  | .normal, a, w => Q .normal a w
  | _, _, _ => False
theorem NormOnly.imp {Q : Exit → Act → World → Prop} : ∀ (e : Exit) (a : Act) (w : World), NormOnly Q e a w → Q e a w := fun e a w h => by
  cases e <;> first | exact h | exact (h : False).elim

def noDefer (ops : Array Oper) : Bool := ops.all fun o => match o.op with | .defer _ => false | _ => true

theorem rowsIn_round {l n : Nat} {P : Program} {row : String} {args : Array Value} {w : World} {R : Value → World → Prop} (h : Rows P row args w R) : RowsIn (Fence.wide.inRound l) n P row args w R :=
  fun c cs _ => let ⟨v, w', r, s⟩ := h c cs; ⟨v, w', r, stepsIn_wide.2 s⟩

theorem wpOpsIn_round {l n : Nat} {P : Program} {ops : Array Oper} {Q : Exit → Act → World → Prop} (hnd : ∀ (i : Nat) (o : Oper), ops[i]? = some o → ∀ c, o.op ≠ .defer c) :
    ∀ (sched : List Nat) (a : Act) (w : World), wpOps P ops (NormOnly Q) sched a w → wpOpsIn (Fence.wide.inRound l) n P ops (NormOnly Q) sched a w
  | [], a, w, h => h
  | i :: rest, a, w, h => by
    have ih := wpOpsIn_round (l := l) (n := n) (P := P) (Q := Q) hnd rest
    unfold wpOps at h
    unfold wpOpsIn
    cases ho : ops[i]? with
    | none => rw [ho] at h; exact ih _ _ h
    | some o =>
      rw [ho] at h
      simp only at h ⊢
      split
      · rename_i hw
        rw [if_pos hw] at h
        rcases h with h | ⟨_, a', w', h⟩
        · refine ⟨fun _ _ => trivial, ?_⟩
          rw [show (Fence.wide.inRound l).round = some l from rfl, Oper.semAt_some l _ o (hnd i o ho)]
          unfold Oper.wp at h
          generalize (execOp a.eval o).run P w = r at h ⊢
          cases r with
          | ok x w2 =>
            cases x with
            | value v => exact ih _ _ h
            | skip => exact ih _ _ h
            | defer d => exact ih _ _ h
            | enter f args =>
              refine ⟨fun hd => by simp [Fence.wide, Fence.inRound] at hd, ?_⟩
              refine ((callsIn_wide (n := n - 1)).2 h).inRound l |>.mono fun e w3 he => ?_
              cases e with
              | returned v => exact ih _ _ he
              | panicked c => exact he
              | outgrown => exact he
            | row row args =>
              refine ⟨fun hd => by simp [Fence.wide, Fence.inRound] at hd, rowsIn_round (h.mono fun v w3 he => ih _ _ he)⟩
            | _ => exact (h : False).elim
          | halt x w2 =>
            cases x <;> exact (h : False).elim
        · exact (h : False).elim
      · rename_i hw
        rw [if_neg hw] at h
        exact ⟨fun _ _ => trivial, ih _ _ h⟩

theorem wpIn_region_held_round {l n : Nat} {P : Program} {ops : Array Oper} {Q : Exit → Act → World → Prop} {S : World → Prop} {id : Nat} {a : Act} {w : World} (hm : P.follows .mixedOrders = true) (hnd : noDefer ops = true) (hS : S w.drew)
    (h : S w.drew → wpAnyH P .any ops (NormOnly Q) S ops.size (Array.replicate ops.size false) a w.drew) : (Code.region id ops true).wpIn (Fence.wide.inRound l) n P Q a w := by
  refine Code.wpIn_mono NormOnly.imp (wpIn_region_draw fun t => ?_)
  simp only [Region.schedule, hm, Bool.true_or, if_true]
  refine wpOpsIn_round ?_ _ _ _ (wpAny_sound ops.size t _ a _ (wpAny_of_held _ _ _ _ (h hS)))
  intro i o ho c hc
  unfold noDefer at hnd
  rw [Array.all_eq_true] at hnd
  obtain ⟨hi, e⟩ := Array.getElem?_eq_some_iff.1 ho
  have := hnd i hi
  rw [e, hc] at this
  simp at this
end Go.Proofs.Ytmcbnpeihedcaaa
