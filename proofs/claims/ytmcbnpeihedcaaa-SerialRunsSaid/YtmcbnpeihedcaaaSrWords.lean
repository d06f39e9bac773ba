/- A try as data: its numbers, and the pairs that it read and wrote; slices.Clone, IndexFunc, ContainsFunc at []api.Rec and []api.Pair. -/
import Derived.Test.YtmcbnpeihedcaaaStRec
namespace Go.Proofs.Ytmcbnpeihedcaaa
set_option linter.unusedSimpArgs false
open Go Go.RowKit

theorem clone_rec_info : (Try.prog.info? 27).map (fun i => (i.zero, i.size, i.bytes)) = some (some (.agg #[.int .i64 0, .int .i64 0, .int .i64 0, .int .i64 0, .int .i64 0, .int .i64 0, .slice none 0 0, .slice none 0 0, .int .i64 0, .int .i64 0]), 10, 112) := by kernel_rfl

set_option maxHeartbeats 400000 in
theorem clone_rec (v : Value) (n : Nat) (vs : List Value) (w : World) (hv : Sl w 10 v n vs) (h1 : ∀ u ∈ vs, u.oneCell' = true) (hn : n * 112 ≤ 140737488355328) :
    Calls Try.prog 22 #[v] w fun e w' => ∃ v', e = .returned v' ∧ w'.ownsRow w.heap.size 27 10 v' n vs ∧ Below w.heap.size w w' := by
  obtain ⟨i0, hi0, hz0, hz1, hz2⟩ := info_parts clone_rec_info
  have e1 := @Lib.run_eql_slice_nil
  obtain ⟨hl, ⟨rfl, rfl⟩ | ⟨a, c, rfl, hc, hm, hr⟩⟩ := hv
  · go_enter Try.func22, Try.ntmps22
    go_wp2_with fail
    go_ret
    obtain rfl : vs = [] := List.eq_nil_of_length_eq_zero (by omega)
    exact ⟨_, rfl, World.ownsRow_nil _ _ _ _, Below.refl _ _⟩
  · have hnews : ∀ j u, vs[j]? = some u → (w.alloc (.cells #[] 27)).cell? (a.add j) = some u := by
      intro j u hu
      have hn0 : 0 < n := by
        rcases Nat.eq_zero_or_pos n with h | h
        · subst h; have := (List.getElem?_eq_some_iff.1 hu).1; omega
        · exact h
      obtain ⟨hs, hb, hC⟩ := hr hn0
      obtain ⟨b, o, s⟩ := a
      simp only at hs hb hC; subst hs
      rw [add_none, World.cell?_alloc_lt _ _ _ hb]
      exact hC j u hu
    go_enter Try.func22, Try.ntmps22
    go_wp2_with (at_builtin; refine wpList_append_own_at _ rfl (.tmp 5) (.tmp 6) _ rfl w.heap.size 27 i0 _ 10 112 Try.underlying22 hi0 hz0 hz1 hz2 rfl (by omega) (.slice (some ⟨w.heap.size, 0, none⟩) 0 0) 0 [] rfl (World.ownsRow_made w #[] 0 (Nat.le_refl _) (by unfold maxLen; omega) rfl) a n c vs rfl hl hnews h1 (by omega) (by omega) (by simp) ?_; intro v1 w1 hown hgrow _ _)
    go_ret
    simp only [Nat.zero_add, List.nil_append] at hown
    exact ⟨_, rfl, hown, ((Below.refl w.heap.size w).alloc (Nat.le_refl _) _).grown hgrow (by simp) (by simp [Value.ownBlock])⟩
set_option maxHeartbeats 1000000 in
theorem index_rec (p : Rx → Bool) (g : Nat) (lb : Array Value) (eg : ∀ args w, (callFunc g args).run Try.prog w = .ok (.enter g args) w) (v : Value) (zs : List (Rx)) (w : World)
    (hp : PredB Try.prog g lb (fun x : Rx => Value.agg (encRx x).toArray) p w) (hv : Sl w 10 v zs.length (zs.flatMap encRx)) :
    Calls Try.prog 36 #[v, .func (.func g) #[] lb] w fun e w' => e = .returned (.int .i64 (idxF p zs)) ∧ Below w.heap.size w w' := by
  have hk : ∀ x, (encRx x).length = 10 := fun _ => rfl
  obtain ⟨hl, ⟨rfl, hz⟩ | ⟨a, c, rfl, hc, hm, hr⟩⟩ := hv
  · obtain rfl : zs = [] := List.eq_nil_of_length_eq_zero hz
    clear hl hz
    go_enter Try.func36, Try.ntmps36
    go_wp2
    refine wp_loop_rounds 1 ?_
    rw [rounds_succ]
    go_wp2
    go_ret
    exact ⟨rfl, Below.refl _ _⟩
  · obtain ⟨n, hn⟩ : ∃ n, zs.length = n := ⟨_, rfl⟩
    rw [hn] at hl hc hr ⊢
    have hbig : n ≤ 9223372036854775807 := by unfold maxLen at hm; omega
    have hrow : ∀ (W : World), Below w.heap.size w W → ∀ j (hj : j < zs.length), a.spot = none ∧ ∀ i u, (encRx zs[j])[i]? = some u → W.cell? ⟨a.block, a.off + j * 10 + i, none⟩ = some u := fun W hW j hj => by
      obtain ⟨hs, hC⟩ := hr (by omega)
      refine ⟨hs, fun i u hi => ?_⟩
      rw [Nat.add_assoc]
      exact (hC.same hW).2 _ _ (flat_get encRx hk zs j hj i u hi)
    clear hr
    have HN := Lib.hid hn
    clear hn hl hk hm hc
    go_enter Try.func36, Try.ntmps36
    go_wp2
    go_loopg [5, 8] n (fun gg _ s8 wr => ∃ kk : Nat, kk ≤ n ∧ n - kk ≤ gg ∧ s8 = .int .i64 kk ∧ Hid (Below w.heap.size w wr) ∧ Hid (∀ j (h : j < zs.length), j < kk → p zs[j] = false))
    case atStart => exact ⟨0, Nat.zero_le _, by omega, rfl, Below.refl _ w, fun j _ hj => absurd hj (Nat.not_lt_zero _)⟩
    case round =>
      obtain ⟨kk, hkk, hg, rfl, BW, AA⟩ := hrel
      by_cases hlt : kk < n
      · have hltz : (kk : Int) < (n : Int) := by omega
        have hlt' : kk < zs.length := by rw [HN.out]; exact hlt
        obtain ⟨hs, l2⟩ := hrow wr BW.out kk hlt'
        have hcall := hp wr zs[kk] BW.out
        clear hrow hp
        obtain ⟨b, o, s⟩ := a
        simp only at hs l2
        subst hs
        generalize hy : zs[kk] = y at l2 hcall
        have B : Hid (zs[kk] = y) := hy
        clear hy
        (have c0 := l2 0 _ rfl; have c1 := l2 1 _ rfl; have c2 := l2 2 _ rfl; have c3 := l2 3 _ rfl; have c4 := l2 4 _ rfl; have c5 := l2 5 _ rfl; have c6 := l2 6 _ rfl; have c7 := l2 7 _ rfl; have c8 := l2 8 _ rfl; have c9 := l2 9 _ rfl; simp only [Nat.add_zero] at c0)
        clear l2
        cases hq : p y with
        | true =>
          rw [hq] at hcall
          have HQ := Lib.hid hq
          clear hq
          go_wp2_with (go_at_fn g; refine hcall.mono ?_; rintro e w' ⟨rfl, hb'⟩)
          go_ret
          refine ⟨?_, BW.out.trans (hb'.mono BW.out.size)⟩
          rw [idxF_hit p zs kk hlt' (by rw [B.out]; exact HQ.out) (fun j hj => AA.out j (by omega) hj)]
          rfl
        | false =>
          rw [hq] at hcall
          have HQ := Lib.hid hq
          clear hq
          go_wp2_with (go_at_fn g; refine hcall.mono ?_; rintro e w' ⟨rfl, hb'⟩)
          go_roundg (n - (kk + 1))
          case measure => omega
          case rel =>
            refine ⟨kk + 1, by omega, by omega, by go_num, BW.out.trans (hb'.mono BW.out.size), (show Hid _ from fun j h hj => ?_)⟩
            by_cases e : j = kk
            · subst e
              rw [B.out]; exact HQ.out
            · exact AA.out j h (by omega)
      · have hltz : ¬ (kk : Int) < (n : Int) := by omega
        obtain rfl : n = kk := by omega
        go_wp2
        go_ret
        refine ⟨?_, BW.out⟩
        rw [idxF_miss p zs (fun j h => AA.out j h (by rw [HN.out] at h; exact h))]
        rfl
theorem idxF_any {α : Type} (p : α → Bool) (xs : List α) : decide (0 ≤ idxF p xs) = xs.any p := by
  unfold idxF
  by_cases h : xs.findIdx p < xs.length
  · rw [if_pos h, List.any_eq_true.2 (List.findIdx_lt_length.1 h)]
    simp
  · rw [if_neg h]
    have : ¬ ∃ x, x ∈ xs ∧ p x = true := fun hx => h (List.findIdx_lt_length.2 hx)
    rw [Bool.eq_false_iff.2 (fun hh => this (List.any_eq_true.1 hh))]
    rfl

set_option maxHeartbeats 400000 in
theorem contains_rec (p : Rx → Bool) (g : Nat) (lb : Array Value) (eg : ∀ args w, (callFunc g args).run Try.prog w = .ok (.enter g args) w) (v : Value) (zs : List (Rx)) (w : World)
    (hp : PredB Try.prog g lb (fun x : Rx => Value.agg (encRx x).toArray) p w) (hv : Sl w 10 v zs.length (zs.flatMap encRx)) :
    Calls Try.prog 19 #[v, .func (.func g) #[] lb] w fun e w' => e = .returned (.bool (zs.any p)) ∧ Below w.heap.size w w' := by
  rw [← idxF_any]
  have hcon := index_rec p g lb eg v zs w hp hv
  clear hp hv eg
  generalize idxF p zs = r at hcon ⊢
  go_enter Try.func19, Try.ntmps19
  go_wp2_with (go_at_call 36; refine hcon.mono ?_; rintro e w' ⟨rfl, hb'⟩)
  go_ret
  exact ⟨rfl, hb'⟩
end Go.Proofs.Ytmcbnpeihedcaaa
