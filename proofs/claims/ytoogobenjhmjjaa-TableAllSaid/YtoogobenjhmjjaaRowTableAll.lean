/- TableAll: the row. -/
import Derived.Test.YtoogobenjhmjjaaLawKit
import Derived.Test.YtoogobenjhmjjaaTbLawAll
namespace Go.Proofs.Ytoogobenjhmjjaa
open Go Go.ChangeShapes Go.WideShapes Go.ChangeAt Go.RowKit
set_option linter.unusedVariables false

set_option maxRecDepth 100000 in
theorem tableAll_lifted (os : Os) (started : os.Started) (H : Type) (enc : TypeId × Value → H) :
    ReturnsInHanded {} Try.checked os 9 .any (Rows.tableAllSpec.pre6 enc Try.prog Try.f9 Rows.tableAllRow.domain false) (Rows.tableAllSpec.post enc Try.prog Try.f9 false true false false) := by
  refine returnsInHanded_of_change (C := Try.checked) own started (by kernel_rfl) Try.func9
    (ChangeSpec.witness6 (enc := enc) (C := Try.checked) false ⟨#[], #[.agg #[.int .i64 0, .slice none 0 0, .slice none 0 0]], []⟩ 8 (by kernel_rfl) (by kernel_rfl) (by kernel_rfl) (by kernel_rfl)) ?_
  intro W base args ds gs before hval0 hW hcnd _
  have hval : ∀ (j : Nat) t v, Try.f9.params[j]? = some t → args[j]? = some v → Value.okWide Try.prog W .any base t v := hval0
  obtain ⟨p, q, hA0, hV, -, -, -⟩ := id hW
  have hA : DataW.TrodAll enc Try.prog W 0 (fun _ => true) true Try.f9.params.toList args.toList ds p := hA0
  rw [Try.params9] at hA hval
  obtain ⟨v0, vs0, d0, ds0, p0, q0, hargs, rfl, -, h0, r0⟩ := trodAll_cons hA
  obtain ⟨rfl, rfl, -⟩ := trodAll_nil r0
  obtain rfl : args = #[v0] := by cases args; simp_all
  obtain ⟨rfl, -⟩ := trodVars_none hV
  obtain ⟨cap0, ps0, ts0, hst0, wc0, hok0, hot0⟩ := open_heap (hval 0 28 v0 rfl rfl) h0
  refine (tableAll_walk W v0 cap0 ps0 ts0 hst0 wc0 hok0 hot0).mono fun e W' ⟨he, hb⟩ => ?_
  subst he
  exact ⟨_, rfl, post_law laidOut Try.underlying4 (by kernel_rfl) (fun t ht => by have h := List.all_eq_true.1 (show (Try.f9.params.toList.all fun t => Try.prog.readableRec t && decide (t < Try.prog.types.size)) = true from by kernel_rfl) t ht; rw [Bool.and_eq_true, decide_eq_true_eq] at h; exact h) rfl hW rfl hb⟩

theorem tableAll_holds : Rows.TableAllSaid :=
  show Rows.tableAllRow.holds Try.pinned (OpenSpec.ofChange Rows.tableAllSpec) from
  OpenClaim.holds_of_wide 9 Try.f9 rfl rfl rfl rfl rfl rfl rfl ⟨rfl, rfl, rfl, rfl, rfl⟩ rfl rfl rfl rfl rfl (by kernel_rfl) Try.func9 (by kernel_rfl)
    (of_decide_eq_true (by kernel_rfl)) (by unfold Func.isWrapper; first | (rw [if_pos (by decide +kernel)]; kernel_rfl) | (rw [if_neg (by decide +kernel)]; exact ⟨rfl, rfl⟩))
    (fun os started H enc _ => tableAll_lifted os started H enc)

#print axioms tableAll_holds
end Go.Proofs.Ytoogobenjhmjjaa
