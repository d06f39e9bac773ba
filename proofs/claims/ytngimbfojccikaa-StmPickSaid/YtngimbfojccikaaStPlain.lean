/- Plain laws: what is the same, and who is idle, with addresses left out. -/
import Derived.Test.YtngimbfojccikaaStBound
import Derived.Test.YtngimbfojccikaaStFew
namespace Go.Proofs.Ytngimbfojccikaa
set_option linter.unusedSimpArgs false
open Go
set_option linter.unusedVariables false

theorem eqL_iff' {α : Type} {q : α → α → Bool} (hq : ∀ x y, q x y = true ↔ x = y) : ∀ {xs ys : List α}, eqL q xs ys = true ↔ xs = ys := by
  intro xs ys
  constructor
  · intro h
    have hl := eqL_len h
    refine List.ext_getElem hl fun i h1 h2 => ?_
    exact (hq _ _).1 ((eqL_at hl i h1 h).symm ▸ rfl)
  · rintro rfl
    exact eqL_all rfl fun j h1 => (hq _ _).2 rfl
theorem sameL_iff' {n1 m1 n2 m2 : Int} {xs ys : List Lk} : sameL n1 m1 xs n2 m2 ys = true ↔ n1 = n2 ∧ m1 = m2 ∧ xs = ys := by
  unfold sameL
  rw [Bool.and_eq_true, Bool.and_eq_true, beq_iff_eq, beq_iff_eq, eqL_iff' (q := lkEq) (fun x y => lkEq_iff)]
theorem eqR_iff {α β γ : Type} {q : α → β → Bool} {f : α → γ} {g : β → γ} (hq : ∀ x y, q x y = true ↔ f x = g y) : ∀ {xs : List α} {ys : List β}, eqR q xs ys = true ↔ xs.map f = ys.map g
  | [], [] => by simp [eqR]
  | [], _ :: _ => by simp [eqR]
  | _ :: _, [] => by simp [eqR]
  | x :: xs, y :: ys => by
    unfold eqR
    rw [Bool.and_eq_true, hq, eqR_iff hq]
    simp
theorem txEq_iff (x y : Tx) : txEq x y = true ↔ erT x = erT y := by
  unfold txEq erT
  simp only [Bool.and_eq_true, beq_iff_eq, eqL_iff' (q := prEq) (fun x y => prEq_iff), Tx.mk.injEq]
  constructor
  · rintro ⟨h1, h2, h3, h4, h5, h6, h7, h8, h9, h10, h11⟩
    exact ⟨h1, h2, h3, h4, h5, h6, h7, trivial, trivial, h10, trivial, trivial, h11, h8, h9⟩
  · rintro ⟨h1, h2, h3, h4, h5, h6, h7, -, -, h10, -, -, h11, h8, h9⟩
    exact ⟨h1, h2, h3, h4, h5, h6, h7, h8, h9, h10, h11⟩
theorem rxEq_iff (x y : Rx) : rxEq x y = true ↔ erX x = erX y := by
  unfold rxEq erX
  simp only [Bool.and_eq_true, beq_iff_eq, eqL_iff' (q := prEq) (fun x y => prEq_iff), Rx.mk.injEq]
  constructor
  · rintro ⟨h1, h2, h3, h4, h5, h6, h7, h8, h9, h10⟩
    exact ⟨h1, h2, h3, h4, h5, h6, trivial, trivial, h9, trivial, trivial, h10, h7, h8⟩
  · rintro ⟨h1, h2, h3, h4, h5, h6, -, -, h9, -, -, h10, h7, h8⟩
    exact ⟨h1, h2, h3, h4, h5, h6, h7, h8, h9, h10⟩
theorem memEq_iff (m n : Mm) : memEq m n = true ↔ m.er = n.er := by
  unfold memEq
  rw [Bool.and_eq_true, Bool.and_eq_true, Bool.and_eq_true, Bool.and_eq_true, eqL_iff' (q := intEq) (fun x y => by unfold intEq; exact beq_iff_eq), eqR_iff txEq_iff, eqR_iff rxEq_iff, beq_iff_eq, sameL_iff']
  unfold Mm.er
  rw [Mm.mk.injEq]
  constructor
  · rintro ⟨h1, ⟨h2, h3, h4⟩, h5, h6, h7⟩
    exact ⟨h1, h2, h3, h4, h5, h6, h7⟩
  · rintro ⟨h1, h2, h3, h4, h5, h6, h7⟩
    exact ⟨h1, ⟨h2, h3, h4⟩, h5, h6, h7⟩
theorem idleL_er (pl : List (List (List Ac))) (m : Mm) (who : Int) : idleL pl m.er who = idleL pl m who := by
  unfold idleL
  rw [er_T]
  cases m.T[who.toNat]? with
  | none => rfl
  | some t => cases pl[who.toNat]? <;> rfl

/-! ### The chapter's example -/
def aP : List (List (List Ac)) := [[[⟨1, 0, 7⟩]]]
def aK : List Int := [0, 0, 0, 0, 0, 0, 0, 0]
def aM : Mm := ⟨[7], 1, 5, [⟨1, -1⟩], [{ Tx.zero with tx := 1 }], [⟨0, 0, 1, 0, 0, 1, none, 0, [], none, 0, [⟨0, 7⟩], 0, 5⟩], 8⟩
theorem aRun : runM 1 5 aP aK = aM := by rfl
theorem aMay : mayP 1 5 aP = true := by rfl
theorem aIdle : idleL aP aM 0 = true := by rfl
theorem aBound : boundL 1 5 aP 0 = 10 := by rfl
end Go.Proofs.Ytngimbfojccikaa
