/- StmBegins: as it begins each word is 0, and nobody has done anything; of nothing but picks of no thread that stays so. No conditions. -/
import Derived.Test.YtngimbfojccikaaLawKit
import Derived.Test.YtngimbfojccikaaStLawBegins
namespace Go.Proofs.Ytngimbfojccikaa
set_option linter.unusedSimpArgs false
open Go Go.ChangeShapes Go.WideShapes Go.ChangeAt Go.RowKit
set_option linter.unusedVariables false

set_option maxRecDepth 100000 in
theorem stmBegins_lifted (os : Os) (started : os.Started) (H : Type) (enc : TypeId × Value → H) :
    ReturnsInHanded {} Try.checked os 9 .any (Rows.stmBeginsSpec.pre6 enc Try.prog Try.f9 Rows.stmBeginsRow.domain false) (Rows.stmBeginsSpec.post enc Try.prog Try.f9 false true false false) := by
  refine returnsInHanded_of_change (C := Try.checked) own started (by kernel_rfl) Try.func9
    (ChangeSpec.witness6 (enc := enc) (C := Try.checked) false ⟨#[], #[.agg #[.int .i64 0, .int .i64 0, .slice none 0 0], .slice none 0 0], []⟩ 8 (by kernel_rfl) (by kernel_rfl) (by kernel_rfl) (by kernel_rfl)) ?_
  intro W base args ds gs before hval0 hW hcnd _
  have hval : ∀ (j : Nat) t v, Try.f9.params[j]? = some t → args[j]? = some v → Value.okWide Try.prog W .any base t v := hval0
  obtain ⟨p, q, hA0, hV, -, -, -⟩ := id hW
  have hA : DataW.TrodAll enc Try.prog W 0 (fun _ => true) true Try.f9.params.toList args.toList ds p := hA0
  rw [Try.params9] at hA hval
  obtain ⟨v0, vs0, d0, ds0, p0, q0, hargs, rfl, -, h0, r0⟩ := trodAll_cons hA
  obtain ⟨v1, vs1, d1, ds1, p1, q1, rfl, rfl, -, h1, r1⟩ := trodAll_cons r0
  obtain ⟨rfl, rfl, -⟩ := trodAll_nil r1
  obtain rfl : args = #[v0, v1] := by cases args; simp_all
  obtain ⟨rfl, -⟩ := trodVars_none hV
  obtain ⟨words0, mx0, pv0, pl0, rfl, hst0, ww0, wm0⟩ := open_plan (hval 0 24 v0 rfl rfl) h0
  obtain ⟨l1, hst1, hok1⟩ := open_picks (hval 1 25 v1 rfl rfl) h1
  refine (stmBegins_walk W words0 mx0 pv0 pl0 hst0 ww0 wm0 v1 l1 hst1 hok1).mono fun e W' ⟨he, hb⟩ => ?_
  subst he
  exact ⟨_, rfl, post_law laidOut Try.underlying4 (by kernel_rfl) (fun t ht => by have h := List.all_eq_true.1 (show (Try.f9.params.toList.all fun t => Try.prog.readableRec t && decide (t < Try.prog.types.size)) = true from by kernel_rfl) t ht; rw [Bool.and_eq_true, decide_eq_true_eq] at h; exact h) rfl hW rfl hb⟩

theorem stmBegins_holds : Rows.StmBeginsSaid :=
  show Rows.stmBeginsRow.holds Try.pinned (OpenSpec.ofChange Rows.stmBeginsSpec) from
  OpenClaim.holds_of_wide 9 Try.f9 rfl rfl rfl rfl rfl rfl rfl ⟨rfl, rfl, rfl, rfl, rfl⟩ rfl rfl rfl rfl rfl (by kernel_rfl) Try.func9 (by kernel_rfl)
    (of_decide_eq_true (by kernel_rfl)) (by unfold Func.isWrapper; first | (rw [if_pos (by decide +kernel)]; kernel_rfl) | (rw [if_neg (by decide +kernel)]; exact ⟨rfl, rfl⟩))
    (fun os started H enc _ => stmBegins_lifted os started H enc)

#print axioms stmBegins_holds
end Go.Proofs.Ytngimbfojccikaa
