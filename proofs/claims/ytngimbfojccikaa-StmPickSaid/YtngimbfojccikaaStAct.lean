/- act, May. -/
import Derived.Test.YtngimbfojccikaaStStep
namespace Go.Proofs.Ytngimbfojccikaa
set_option linter.unusedSimpArgs false
open Go Go.RowKit
set_option linter.unusedVariables false
set_option maxRecDepth 100000

set_option maxHeartbeats 1000000 in
theorem index_act (p : Ac → Bool) (g : Nat) (lb : Array Value) (eg : ∀ args w, (callFunc g args).run Try.prog w = .ok (.enter g args) w) (v : Value) (zs : List (Ac)) (w : World)
    (hp : PredB Try.prog g lb (fun x : Ac => Value.agg (encAc x).toArray) p w) (hv : Sl w 3 v zs.length (zs.flatMap encAc)) :
    Calls Try.prog 56 #[v, .func (.func g) #[] lb] w fun e w' => e = .returned (.int .i64 (idxF p zs)) ∧ Below w.heap.size w w' := by
  have hk : ∀ x, (encAc x).length = 3 := fun _ => rfl
  obtain ⟨hl, ⟨rfl, hz⟩ | ⟨a, c, rfl, hc, hm, hr⟩⟩ := hv
  · obtain rfl : zs = [] := List.eq_nil_of_length_eq_zero hz
    clear hl hz
    go_enter Try.func56, Try.ntmps56
    go_wp2
    refine wp_loop_rounds 1 ?_
    rw [rounds_succ]
    go_wp2
    go_ret
    exact ⟨rfl, Below.refl _ _⟩
  · obtain ⟨n, hn⟩ : ∃ n, zs.length = n := ⟨_, rfl⟩
    rw [hn] at hl hc hr ⊢
    have hbig : n ≤ 9223372036854775807 := by unfold maxLen at hm; omega
    have hrow : ∀ (W : World), Below w.heap.size w W → ∀ j (hj : j < zs.length), a.spot = none ∧ ∀ i u, (encAc zs[j])[i]? = some u → W.cell? ⟨a.block, a.off + j * 3 + i, none⟩ = some u := fun W hW j hj => by
      obtain ⟨hs, hC⟩ := hr (by omega)
      refine ⟨hs, fun i u hi => ?_⟩
      rw [Nat.add_assoc]
      exact (hC.same hW).2 _ _ (flat_get encAc hk zs j hj i u hi)
    clear hr
    have HN := Lib.hid hn
    clear hn hl hk hm hc
    go_enter Try.func56, Try.ntmps56
    go_wp2
    go_loopg [5, 8] n (fun gg _ s8 wr => ∃ kk : Nat, kk ≤ n ∧ n - kk ≤ gg ∧ s8 = .int .i64 kk ∧ Hid (Below w.heap.size w wr) ∧ Hid (∀ j (h : j < zs.length), j < kk → p zs[j] = false))
    case atStart => exact ⟨0, Nat.zero_le _, by omega, rfl, Below.refl _ w, fun j _ hj => absurd hj (Nat.not_lt_zero _)⟩
    case round =>
      obtain ⟨kk, hkk, hg, rfl, BW, AA⟩ := hrel
      by_cases hlt : kk < n
      · have hltz : (kk : Int) < (n : Int) := by omega
        have hlt' : kk < zs.length := by rw [HN.out]; exact hlt
        obtain ⟨hs, l2⟩ := hrow wr BW.out kk hlt'
        have hcall := hp wr zs[kk] BW.out
        clear hrow hp
        obtain ⟨b, o, s⟩ := a
        simp only at hs l2
        subst hs
        generalize hy : zs[kk] = y at l2 hcall
        have B : Hid (zs[kk] = y) := hy
        clear hy
        (have c0 := l2 0 _ rfl; have c1 := l2 1 _ rfl; have c2 := l2 2 _ rfl; simp only [Nat.add_zero] at c0)
        clear l2
        cases hq : p y with
        | true =>
          rw [hq] at hcall
          have HQ := Lib.hid hq
          clear hq
          go_wp2_with (go_at_fn g; refine hcall.mono ?_; rintro e w' ⟨rfl, hb'⟩)
          go_ret
          refine ⟨?_, BW.out.trans (hb'.mono BW.out.size)⟩
          rw [idxF_hit p zs kk hlt' (by rw [B.out]; exact HQ.out) (fun j hj => AA.out j (by omega) hj)]
          rfl
        | false =>
          rw [hq] at hcall
          have HQ := Lib.hid hq
          clear hq
          go_wp2_with (go_at_fn g; refine hcall.mono ?_; rintro e w' ⟨rfl, hb'⟩)
          go_roundg (n - (kk + 1))
          case measure => omega
          case rel =>
            refine ⟨kk + 1, by omega, by omega, by go_num, BW.out.trans (hb'.mono BW.out.size), (show Hid _ from fun j h hj => ?_)⟩
            by_cases e : j = kk
            · subst e
              rw [B.out]; exact HQ.out
            · exact AA.out j h (by omega)
      · have hltz : ¬ (kk : Int) < (n : Int) := by omega
        obtain rfl : n = kk := by omega
        go_wp2
        go_ret
        refine ⟨?_, BW.out⟩
        rw [idxF_miss p zs (fun j h => AA.out j h (by rw [HN.out] at h; exact h))]
        rfl
set_option maxHeartbeats 400000 in
theorem contains_act (p : Ac → Bool) (g : Nat) (lb : Array Value) (eg : ∀ args w, (callFunc g args).run Try.prog w = .ok (.enter g args) w) (v : Value) (zs : List (Ac)) (w : World)
    (hp : PredB Try.prog g lb (fun x : Ac => Value.agg (encAc x).toArray) p w) (hv : Sl w 3 v zs.length (zs.flatMap encAc)) :
    Calls Try.prog 31 #[v, .func (.func g) #[] lb] w fun e w' => e = .returned (.bool (zs.any p)) ∧ Below w.heap.size w w' := by
  rw [← idxF_any]
  have hcon := index_act p g lb eg v zs w hp hv
  clear hp hv eg
  generalize idxF p zs = r at hcon ⊢
  go_enter Try.func31, Try.ntmps31
  go_wp2_with (go_at_call 56; refine hcon.mono ?_; rintro e w' ⟨rfl, hb'⟩)
  go_ret
  exact ⟨rfl, hb'⟩

/-- May an act be? -/
def actB (words : Int) (x : Ac) : Bool := decide (0 ≤ x.d) && (decide (x.d < 3) && (decide (0 ≤ x.at_) && (decide (x.at_ < words) && (decide (-1048576 ≤ x.v) && decide (x.v ≤ 1048576)))))
def lB (words : Int) (l : List Ac) : Bool := decide (l.length ≤ 6) && l.all (actB words)
def txB (words : Int) (txs : List (List Ac)) : Bool := decide (txs.length ≤ 4) && txs.all (lB words)
def mayP (words mx : Int) (pl : List (List (List Ac))) : Bool := newOk words mx && (decide (1 ≤ pl.length) && (decide (pl.length ≤ 4) && pl.all (txB words)))
/-- A plan's value. -/
def planV (words mx : Int) (pv : Value) : Value := .agg #[.int .i64 words, .int .i64 mx, pv]

set_option maxHeartbeats 4000000 in
theorem act_any (words mx : Int) (pv : Value) (x : Ac) (w : World) :
    Calls Try.prog 33 #[planV words mx pv, .agg (encAc x).toArray] w fun e w' => e = .returned (.bool (actB words x)) ∧ Below w.heap.size w w' := by
  have hb0 : Below w.heap.size w ((w.alloc (.cells #[.int .i64 words, .int .i64 mx, pv] 24)).alloc (.cells (encAc x).toArray 53)) := ((Below.refl _ w).alloc (Nat.le_refl _) _).alloc (by simp) _
  simp only [planV, encAc] at hb0 ⊢
  obtain ⟨d, a, v⟩ := x
  by_cases q0 : 0 ≤ d
  case neg =>
    have hq : actB words ⟨d, a, v⟩ = false := by unfold actB; simp [q0]
    rw [hq]
    clear hq
    go_enter Try.func33, Try.ntmps33
    go_wp2
    go_ret
    exact ⟨rfl, hb0⟩
  by_cases q1 : d < 3
  case neg =>
    have hq : actB words ⟨d, a, v⟩ = false := by unfold actB; simp [q0, q1]
    rw [hq]
    clear hq
    go_enter Try.func33, Try.ntmps33
    go_wp2
    go_ret
    exact ⟨rfl, hb0⟩
  by_cases q2 : 0 ≤ a
  case neg =>
    have hq : actB words ⟨d, a, v⟩ = false := by unfold actB; simp [q0, q1, q2]
    rw [hq]
    clear hq
    go_enter Try.func33, Try.ntmps33
    go_wp2
    go_ret
    exact ⟨rfl, hb0⟩
  by_cases q3 : a < words
  case neg =>
    have hq : actB words ⟨d, a, v⟩ = false := by unfold actB; simp [q0, q1, q2, q3]
    rw [hq]
    clear hq
    go_enter Try.func33, Try.ntmps33
    go_wp2
    go_ret
    exact ⟨rfl, hb0⟩
  by_cases q4 : -1048576 ≤ v
  case neg =>
    have hq : actB words ⟨d, a, v⟩ = false := by unfold actB; simp [q0, q1, q2, q3, q4]
    rw [hq]
    clear hq
    go_enter Try.func33, Try.ntmps33
    go_wp2
    go_ret
    exact ⟨rfl, hb0⟩
  by_cases q5 : v ≤ 1048576
  case neg =>
    have hq : actB words ⟨d, a, v⟩ = false := by unfold actB; simp [q0, q1, q2, q3, q4, q5]
    rw [hq]
    clear hq
    go_enter Try.func33, Try.ntmps33
    go_wp2
    go_ret
    exact ⟨rfl, hb0⟩
  have hq : actB words ⟨d, a, v⟩ = true := by unfold actB; simp [q0, q1, q2, q3, q4, q5]
  rw [hq]
  clear hq
  go_enter Try.func33, Try.ntmps33
  go_wp2
  go_ret
  exact ⟨rfl, hb0⟩

set_option maxHeartbeats 4000000 in
theorem may1_any (words mx : Int) (pv : Value) (x : Ac) (B : Nat) (w : World) (hB : B < w.heap.size) (hc : Blk w B 24 #[.int .i64 words, .int .i64 mx, pv]) :
    Calls Try.prog 32 #[.agg (encAc x).toArray, .pointer (some ⟨B, 0, none⟩)] w fun e w' => e = .returned (.bool (!actB words x)) ∧ Below w.heap.size w w' := by
  have hb0 : Below w.heap.size w (w.alloc (.cells (encAc x).toArray 53)) := (Below.refl _ w).alloc (Nat.le_refl _) _
  have HA := Lib.hid (fun W => act_any words mx pv x W)
  have c0 : w.cell? ⟨B, 0, none⟩ = some (.int .i64 words) := by rw [hc.cell]; rfl
  have c1 : w.cell? ⟨B, 1, none⟩ = some (.int .i64 mx) := by rw [hc.cell]; rfl
  have c2 : w.cell? ⟨B, 2, none⟩ = some pv := by rw [hc.cell]; rfl
  unfold planV at HA
  simp only [encAc] at hb0 HA ⊢
  generalize actB words x = q at *
  clear hc
  go_enter Try.func32, Try.ntmps32
  go_wp2_with fail
  refine (HA.out _).mono ?_
  rintro e w' ⟨rfl, hb'⟩
  have HB := Lib.hid (hb0.trans (hb'.mono hb0.size))
  clear hb' hb0
  go_wp2
  go_ret
  exact ⟨rfl, HB.out⟩
end Go.Proofs.Ytngimbfojccikaa
