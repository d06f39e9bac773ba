/- slices.Clone at []api.Page. -/
import Derived.Test.YtoogobenjhmjjaaProg
import Derived.Test.YtoogobenjhmjjaaWords
namespace Go.Proofs.Ytoogobenjhmjjaa
open Go Go.RowKit

theorem clone_page_info : (Try.prog.info? 54).map (fun i => (i.zero, i.size, i.bytes)) = some (some (.agg #[.int .i64 0, .int .i64 0, .int .i64 0, .int .i64 0, .int .i64 0]), 5, 40) := by kernel_rfl

set_option maxHeartbeats 400000 in
theorem clone_page (v : Value) (n : Nat) (vs : List Value) (w : World) (hv : Sl w 5 v n vs) (h1 : ∀ u ∈ vs, u.oneCell' = true) (hn : n * 40 ≤ 140737488355328) :
    Calls Try.prog 56 #[v] w fun e w' => ∃ v', e = .returned v' ∧ w'.ownsRow w.heap.size 54 5 v' n vs ∧ Below w.heap.size w w' := by
  obtain ⟨i0, hi0, hz0, hz1, hz2⟩ := info_parts clone_page_info
  have e1 := @Lib.run_eql_slice_nil
  obtain ⟨hl, ⟨rfl, rfl⟩ | ⟨a, c, rfl, hc, hm, hr⟩⟩ := hv
  · go_enter Try.func56, Try.ntmps56
    go_wp2_with fail
    go_ret
    obtain rfl : vs = [] := List.eq_nil_of_length_eq_zero (by omega)
    exact ⟨_, rfl, World.ownsRow_nil _ _ _ _, Below.refl _ _⟩
  · have hnews : ∀ j u, vs[j]? = some u → (w.alloc (.cells #[] 54)).cell? (a.add j) = some u := by
      intro j u hu
      have hn0 : 0 < n := by
        rcases Nat.eq_zero_or_pos n with h | h
        · subst h; have := (List.getElem?_eq_some_iff.1 hu).1; omega
        · exact h
      obtain ⟨hs, hb, hC⟩ := hr hn0
      obtain ⟨b, o, s⟩ := a
      simp only at hs hb hC; subst hs
      rw [add_none, World.cell?_alloc_lt _ _ _ hb]
      exact hC j u hu
    go_enter Try.func56, Try.ntmps56
    go_wp2_with (at_builtin; refine wpList_append_own_at _ rfl (.tmp 5) (.tmp 6) _ rfl w.heap.size 54 i0 _ 5 40 Try.underlying23 hi0 hz0 hz1 hz2 rfl (by omega) (.slice (some ⟨w.heap.size, 0, none⟩) 0 0) 0 [] rfl (World.ownsRow_made w #[] 0 (Nat.le_refl _) (by unfold maxLen; omega) rfl) a n c vs rfl hl hnews h1 (by omega) (by omega) (by simp) ?_; intro v1 w1 hown hgrow _ _)
    go_ret
    simp only [Nat.zero_add, List.nil_append] at hown
    exact ⟨_, rfl, hown, ((Below.refl w.heap.size w).alloc (Nat.le_refl _) _).grown hgrow (by simp) (by simp [Value.ownBlock])⟩
end Go.Proofs.Ytoogobenjhmjjaa
