/- slices.Clone, IndexFunc, ContainsFunc at []api.Page: a page as data, and what they come to. -/
import Derived.Test.YtoogobenjhmjjaaPgClone
namespace Go.Proofs.Ytoogobenjhmjjaa
open Go Go.RowKit

/-- A page: how often it is had, and its four words. -/
structure Pg where
  r : Int
  a : Int
  b : Int
  c : Int
  d : Int

/-- Its five cells. -/
def encP (p : Pg) : List Value := [.int .i64 p.r, .int .i64 p.a, .int .i64 p.b, .int .i64 p.c, .int .i64 p.d]

theorem encP_len : ∀ x : Pg, (encP x).length = 5 := fun _ => rfl

set_option maxHeartbeats 1000000 in
theorem index_page (p : Pg → Bool) (g : Nat) (lb : Array Value) (eg : ∀ args w, (callFunc g args).run Try.prog w = .ok (.enter g args) w) (v : Value) (zs : List (Pg)) (w : World)
    (hp : PredB Try.prog g lb (fun x : Pg => Value.agg (encP x).toArray) p w) (hv : Sl w 5 v zs.length (zs.flatMap encP)) :
    Calls Try.prog 71 #[v, .func (.func g) #[] lb] w fun e w' => e = .returned (.int .i64 (idxF p zs)) ∧ Below w.heap.size w w' := by
  have hk : ∀ x, (encP x).length = 5 := fun _ => rfl
  obtain ⟨hl, ⟨rfl, hz⟩ | ⟨a, c, rfl, hc, hm, hr⟩⟩ := hv
  · obtain rfl : zs = [] := List.eq_nil_of_length_eq_zero hz
    clear hl hz
    go_enter Try.func71, Try.ntmps71
    go_wp2
    refine wp_loop_rounds 1 ?_
    rw [rounds_succ]
    go_wp2
    go_ret
    exact ⟨rfl, Below.refl _ _⟩
  · obtain ⟨n, hn⟩ : ∃ n, zs.length = n := ⟨_, rfl⟩
    rw [hn] at hl hc hr ⊢
    have hbig : n ≤ 9223372036854775807 := by unfold maxLen at hm; omega
    have hrow : ∀ (W : World), Below w.heap.size w W → ∀ j (hj : j < zs.length), a.spot = none ∧ ∀ i u, (encP zs[j])[i]? = some u → W.cell? ⟨a.block, a.off + j * 5 + i, none⟩ = some u := fun W hW j hj => by
      obtain ⟨hs, hC⟩ := hr (by omega)
      refine ⟨hs, fun i u hi => ?_⟩
      rw [Nat.add_assoc]
      exact (hC.same hW).2 _ _ (flat_get encP hk zs j hj i u hi)
    clear hr
    have HN := Lib.hid hn
    clear hn hl hk hm hc
    go_enter Try.func71, Try.ntmps71
    go_wp2
    go_loopg [5, 8] n (fun gg _ s8 wr => ∃ kk : Nat, kk ≤ n ∧ n - kk ≤ gg ∧ s8 = .int .i64 kk ∧ Hid (Below w.heap.size w wr) ∧ Hid (∀ j (h : j < zs.length), j < kk → p zs[j] = false))
    case atStart => exact ⟨0, Nat.zero_le _, by omega, rfl, Below.refl _ w, fun j _ hj => absurd hj (Nat.not_lt_zero _)⟩
    case round =>
      obtain ⟨kk, hkk, hg, rfl, BW, AA⟩ := hrel
      by_cases hlt : kk < n
      · have hltz : (kk : Int) < (n : Int) := by omega
        have hlt' : kk < zs.length := by rw [HN.out]; exact hlt
        obtain ⟨hs, l2⟩ := hrow wr BW.out kk hlt'
        have hcall := hp wr zs[kk] BW.out
        clear hrow hp
        obtain ⟨b, o, s⟩ := a
        simp only at hs l2
        subst hs
        generalize hy : zs[kk] = y at l2 hcall
        have B : Hid (zs[kk] = y) := hy
        clear hy
        (have c0 := l2 0 _ rfl; have c1 := l2 1 _ rfl; have c2 := l2 2 _ rfl; have c3 := l2 3 _ rfl; have c4 := l2 4 _ rfl; simp only [Nat.add_zero] at c0)
        clear l2
        cases hq : p y with
        | true =>
          rw [hq] at hcall
          have HQ := Lib.hid hq
          clear hq
          go_wp2_with (go_at_fn g; refine hcall.mono ?_; rintro e w' ⟨rfl, hb'⟩)
          go_ret
          refine ⟨?_, BW.out.trans (hb'.mono BW.out.size)⟩
          rw [idxF_hit p zs kk hlt' (by rw [B.out]; exact HQ.out) (fun j hj => AA.out j (by omega) hj)]
          rfl
        | false =>
          rw [hq] at hcall
          have HQ := Lib.hid hq
          clear hq
          go_wp2_with (go_at_fn g; refine hcall.mono ?_; rintro e w' ⟨rfl, hb'⟩)
          go_roundg (n - (kk + 1))
          case measure => omega
          case rel =>
            refine ⟨kk + 1, by omega, by omega, by go_num, BW.out.trans (hb'.mono BW.out.size), (show Hid _ from fun j h hj => ?_)⟩
            by_cases e : j = kk
            · subst e
              rw [B.out]; exact HQ.out
            · exact AA.out j h (by omega)
      · have hltz : ¬ (kk : Int) < (n : Int) := by omega
        obtain rfl : n = kk := by omega
        go_wp2
        go_ret
        refine ⟨?_, BW.out⟩
        rw [idxF_miss p zs (fun j h => AA.out j h (by rw [HN.out] at h; exact h))]
        rfl
theorem idxF_any {α : Type} (p : α → Bool) (xs : List α) : decide (0 ≤ idxF p xs) = xs.any p := by
  unfold idxF
  by_cases h : xs.findIdx p < xs.length
  · rw [if_pos h, List.any_eq_true.2 (List.findIdx_lt_length.1 h)]
    simp
  · rw [if_neg h]
    have : ¬ ∃ x, x ∈ xs ∧ p x = true := fun hx => h (List.findIdx_lt_length.2 hx)
    rw [Bool.eq_false_iff.2 (fun hh => this (List.any_eq_true.1 hh))]
    rfl

set_option maxHeartbeats 400000 in
theorem contains_page (p : Pg → Bool) (g : Nat) (lb : Array Value) (eg : ∀ args w, (callFunc g args).run Try.prog w = .ok (.enter g args) w) (v : Value) (zs : List (Pg)) (w : World)
    (hp : PredB Try.prog g lb (fun x : Pg => Value.agg (encP x).toArray) p w) (hv : Sl w 5 v zs.length (zs.flatMap encP)) :
    Calls Try.prog 53 #[v, .func (.func g) #[] lb] w fun e w' => e = .returned (.bool (zs.any p)) ∧ Below w.heap.size w w' := by
  rw [← idxF_any]
  have hcon := index_page p g lb eg v zs w hp hv
  clear hp hv eg
  generalize idxF p zs = r at hcon ⊢
  go_enter Try.func53, Try.ntmps53
  go_wp2_with (go_at_call 71; refine hcon.mono ?_; rintro e w' ⟨rfl, hb'⟩)
  go_ret
  exact ⟨rfl, hb'⟩
end Go.Proofs.Ytoogobenjhmjjaa
