/- StmTells: whatever is picked, what comes of it is what the document says. No conditions. -/
import Derived.Test.YtngimbfojccikaaStmTellsA
import Derived.Test.YtngimbfojccikaaStLawTellsm
namespace Go.Proofs.Ytngimbfojccikaa
set_option linter.unusedSimpArgs false
open Go Go.ChangeShapes Go.WideShapes Go.ChangeAt Go.RowKit
set_option linter.unusedVariables false

set_option maxRecDepth 100000 in
theorem stmTells_lifted (os : Os) (started : os.Started) (H : Type) (enc : TypeId × Value → H) :
    ReturnsInHanded {} Try.checked os 3 .any (Rows.stmTellsSpec.pre6 enc Try.prog Try.f3 Rows.stmTellsRow.domain false) (Rows.stmTellsSpec.post enc Try.prog Try.f3 false true false false) := by
  refine returnsInHanded_of_change (C := Try.checked) own started (by kernel_rfl) Try.func3
    (ChangeSpec.witness6 (enc := enc) (C := Try.checked) false ⟨#[], #[.agg #[.int .i64 0, .int .i64 0, .slice none 0 0], .slice none 0 0, .int .i64 0], []⟩ 8 (by kernel_rfl) (by kernel_rfl) (by kernel_rfl) (by kernel_rfl)) ?_
  intro W base args ds gs before hval0 hW hcnd _
  have hval : ∀ (j : Nat) t v, Try.f3.params[j]? = some t → args[j]? = some v → Value.okWide Try.prog W .any base t v := hval0
  obtain ⟨p, q, hA0, hV, -, -, -⟩ := id hW
  have hA : DataW.TrodAll enc Try.prog W 0 (fun _ => true) true Try.f3.params.toList args.toList ds p := hA0
  rw [Try.params3] at hA hval
  obtain ⟨v0, vs0, d0, ds0, p0, q0, hargs, rfl, -, h0, r0⟩ := trodAll_cons hA
  obtain ⟨v1, vs1, d1, ds1, p1, q1, rfl, rfl, -, h1, r1⟩ := trodAll_cons r0
  obtain ⟨v2, vs2, d2, ds2, p2, q2, rfl, rfl, -, h2, r2⟩ := trodAll_cons r1
  obtain ⟨rfl, rfl, -⟩ := trodAll_nil r2
  obtain rfl : args = #[v0, v1, v2] := by cases args; simp_all
  obtain ⟨rfl, -⟩ := trodVars_none hV
  obtain ⟨words0, mx0, pv0, pl0, rfl, hst0, ww0, wm0⟩ := open_plan (hval 0 24 v0 rfl rfl) h0
  obtain ⟨l1, hst1, hok1⟩ := open_picks (hval 1 25 v1 rfl rfl) h1
  obtain ⟨a2, rfl, -, -, w2⟩ := open_int Try.underlying3 (hval 2 3 v2 rfl rfl) h2
  refine (stmTells_walk W words0 mx0 pv0 pl0 hst0 ww0 wm0 v1 l1 hst1 hok1 a2 w2).mono fun e W' ⟨he, hb⟩ => ?_
  subst he
  exact ⟨_, rfl, post_law laidOut Try.underlying4 (by kernel_rfl) (fun t ht => by have h := List.all_eq_true.1 (show (Try.f3.params.toList.all fun t => Try.prog.readableRec t && decide (t < Try.prog.types.size)) = true from by kernel_rfl) t ht; rw [Bool.and_eq_true, decide_eq_true_eq] at h; exact h) rfl hW rfl hb⟩

theorem stmTells_holds : Rows.StmTellsSaid :=
  show Rows.stmTellsRow.holds Try.pinned (OpenSpec.ofChange Rows.stmTellsSpec) from
  OpenClaim.holds_of_wide 3 Try.f3 rfl rfl rfl rfl rfl rfl rfl ⟨rfl, rfl, rfl, rfl, rfl⟩ rfl rfl rfl rfl rfl (by kernel_rfl) Try.func3 (by kernel_rfl)
    (of_decide_eq_true (by kernel_rfl)) (by unfold Func.isWrapper; first | (rw [if_pos (by decide +kernel)]; kernel_rfl) | (rw [if_neg (by decide +kernel)]; exact ⟨rfl, rfl⟩))
    (fun os started H enc _ => stmTells_lifted os started H enc)

#print axioms stmTells_holds
end Go.Proofs.Ytngimbfojccikaa
