/- slices.EqualFunc at threads and at tries: printed by st_eqf.py. -/
import Derived.Test.YtngimbfojccikaaStSame2m
namespace Go.Proofs.Ytngimbfojccikaa
set_option linter.unusedSimpArgs false
open Go Go.RowKit
set_option linter.unusedVariables false

/-- Do two lists agree, one by one? -/
def eqR {α β : Type} (p : α → β → Bool) : List α → List β → Bool
  | [], [] => true
  | x :: xs, y :: ys => p x y && eqR p xs ys
  | _, _ => false
theorem eqR_len {α β : Type} {p : α → β → Bool} : ∀ {xs : List α} {ys : List β}, eqR p xs ys = true → xs.length = ys.length
  | [], [], _ => rfl
  | x :: xs, y :: ys, h => by
    unfold eqR at h
    rw [Bool.and_eq_true] at h
    simp [eqR_len h.2]
  | [], _ :: _, h => by simp [eqR] at h
  | _ :: _, [], h => by simp [eqR] at h
theorem eqR_at {α β : Type} {p : α → β → Bool} : ∀ {xs : List α} {ys : List β} (k : Nat) (h1 : k < xs.length) (h2 : k < ys.length), eqR p xs ys = true → p xs[k] ys[k] = true
  | [], _, k, h1, _, _ => by simp at h1
  | x :: xs, [], k, _, h2, _ => by simp at h2
  | x :: xs, y :: ys, k, h1, h2, h => by
    unfold eqR at h
    rw [Bool.and_eq_true] at h
    cases k with
    | zero => exact h.1
    | succ k => exact eqR_at k (by simpa using h1) (by simpa using h2) h.2
theorem eqR_all {α β : Type} {p : α → β → Bool} : ∀ {xs : List α} {ys : List β}, xs.length = ys.length → (∀ k (h1 : k < xs.length) (h2 : k < ys.length), p xs[k] ys[k] = true) → eqR p xs ys = true
  | [], [], _, _ => rfl
  | x :: xs, y :: ys, hl, h => by
    unfold eqR
    rw [Bool.and_eq_true]
    exact ⟨h 0 (by simp) (by simp), eqR_all (by simpa using hl) fun k h1 h2 => h (k + 1) (by simpa using h1) (by simpa using h2)⟩
  | [], _ :: _, hl, _ => by simp at hl
  | _ :: _, [], hl, _ => by simp at hl



set_option maxRecDepth 100000 in
set_option maxHeartbeats 8000000 in
theorem eqf_thread (v1 v2 : Value) (xs ys : List Tx) (w : World) (hv : Sl w 11 v1 xs.length (xs.flatMap encTx)) (hv2 : Sl w 11 v2 ys.length (ys.flatMap encTx)) (hxs : ∀ t ∈ xs, Sl w 2 (.slice t.rA t.R.length t.rc) t.R.length (t.R.flatMap encPr) ∧ Sl w 2 (.slice t.wA t.W.length t.wc) t.W.length (t.W.flatMap encPr)) (hys : ∀ t ∈ ys, Sl w 2 (.slice t.rA t.R.length t.rc) t.R.length (t.R.flatMap encPr) ∧ Sl w 2 (.slice t.wA t.W.length t.wc) t.W.length (t.W.flatMap encPr)) :
    Calls Try.prog 36 #[v1, v2, .func (.func 37) #[] #[]] w fun e w' => e = .returned (.bool (eqR txEq xs ys)) ∧ Below w.heap.size w w' := by
  have eg : ∀ args w, (callFunc 37 args).run Try.prog w = .ok (.enter 37 args) w := enters_of Try.func37 (by kernel_rfl) rfl
  obtain ⟨A1, c1, rfl, hc1, hm1⟩ := hv.form
  obtain ⟨A2, c2, rfl, hc2, hm2⟩ := hv2.form
  by_cases hlen : xs.length = ys.length
  · have HX := Lib.hid (fun h : 0 < xs.length => Sl.pos encTx encTx_len hv h)
    have HY := Lib.hid (fun h : 0 < ys.length => Sl.pos encTx encTx_len hv2 h)
    have HXS := Lib.hid hxs
    have HYS := Lib.hid hys
    have HL := Lib.hid hlen
    obtain ⟨n, hn⟩ : ∃ n, xs.length = n := ⟨_, rfl⟩
    have hn2 : ys.length = n := by rw [← hlen, hn]
    have HN := Lib.hid hn
    have HN2 := Lib.hid hn2
    rw [hn, hn2]
    have hbig : n ≤ 9223372036854775807 := by unfold maxLen at hm1; omega
    clear hv hv2 hc1 hc2 hm1 hm2 hn hn2 hlen hxs hys
    go_enter Try.func36, Try.ntmps36
    go_wp2
    go_loopg [17] n (fun gg s17 wr => ∃ k : Nat, k ≤ n ∧ n - k ≤ gg ∧ s17 = .int .i64 k ∧ Below w.heap.size w wr ∧ Hid (∀ j (h : j < xs.length) (h2 : j < ys.length), j < k → txEq xs[j] ys[j] = true))
    case atStart => exact ⟨0, Nat.zero_le _, Nat.le_refl _, rfl, Below.refl _ w, fun j _ _ hj => absurd hj (Nat.not_lt_zero _)⟩
    case round =>
      obtain ⟨k, hk, hg, rfl, BW, AA⟩ := hrel
      by_cases hlt : k < n
      · have hltz : (k : Int) < (n : Int) := by omega
        have hgez : (0 : Int) ≤ (k : Int) := by omega
        have hk1 : k < xs.length := by rw [HN.out]; exact hlt
        have hk2 : k < ys.length := by rw [HN2.out]; exact hlt
        obtain ⟨b1, o1, rfl, hb1, he1⟩ := HX.out (by omega)
        obtain ⟨b2, o2, rfl, hb2, he2⟩ := HY.out (by omega)
        have l1 := he1 wr BW k hk1
        have x0 := l1 0 _ rfl; have x1 := l1 1 _ rfl; have x2 := l1 2 _ rfl; have x3 := l1 3 _ rfl; have x4 := l1 4 _ rfl; have x5 := l1 5 _ rfl; have x6 := l1 6 _ rfl; have x7 := l1 7 _ rfl; have x8 := l1 8 _ rfl; have x9 := l1 9 _ rfl; have x10 := l1 10 _ rfl
        simp only [Nat.add_zero] at x0
        have HQ0 := Lib.hid (fun h : txEq xs[k] ys[k] = true => (show ∀ j (h : j < xs.length) (h2 : j < ys.length), j < k + 1 → txEq xs[j] ys[j] = true from fun j h1 h2 hj => by
          by_cases e : j = k
          · subst e; exact h
          · exact AA.out j h1 h2 (by omega)))
        have HQ1 := Lib.hid (fun h : txEq xs[k] ys[k] = false => (show eqR txEq xs ys = false from by
          cases he : eqR txEq xs ys with
          | false => rfl
          | true => have := eqR_at k hk1 hk2 he; rw [h] at this; cases this))
        have cR := fun W (hb : Below w.heap.size w W) => thread_any xs[k] ys[k] W ⟨(HXS.out _ (List.getElem_mem hk1)).1.below hb, (HXS.out _ (List.getElem_mem hk1)).2.below hb⟩ ⟨(HYS.out _ (List.getElem_mem hk2)).1.below hb, (HYS.out _ (List.getElem_mem hk2)).2.below hb⟩
        have HCR := Lib.hid cR
        have hB1 := BW.alloc BW.size (.cells (encTx xs[k]).toArray 46)
        have HB1 := Lib.hid hB1
        have l2 := he2 _ hB1 k hk2
        have y0 := l2 0 _ rfl; have y1 := l2 1 _ rfl; have y2 := l2 2 _ rfl; have y3 := l2 3 _ rfl; have y4 := l2 4 _ rfl; have y5 := l2 5 _ rfl; have y6 := l2 6 _ rfl; have y7 := l2 7 _ rfl; have y8 := l2 8 _ rfl; have y9 := l2 9 _ rfl; have y10 := l2 10 _ rfl
        simp only [Nat.add_zero] at y0
        clear he1 he2 l1 l2 HX HY hB1 cR
        generalize xs[k] = x at *
        generalize ys[k] = y at *
        simp only [encTx] at HCR HB1 y0 y1 y2 y3 y4 y5 y6 y7 y8 y9 y10
        cases hq : txEq x y with
        | true =>
          rw [hq] at HCR
          have HQ := Lib.hid (HQ0.out hq)
          clear hq HQ0 HQ1
          go_wp2_with (go_at_fn 37; refine (HCR.out _ ((BW.alloc BW.size _).alloc (by simp; have := BW.size; omega) _)).mono ?_; rintro e w' ⟨rfl, hb'⟩)
          have hY := (((BW.alloc BW.size _).alloc (by simp; have := BW.size; omega) _).trans (hb'.mono (by simp; have := BW.size; omega)))
          clear hb'
          go_roundg (n - (k + 1))
          case measure => omega
          case rel => exact ⟨k + 1, by omega, by omega, by go_num, hY, HQ.out⟩
        | false =>
          rw [hq] at HCR
          have HQ := Lib.hid (HQ1.out hq)
          clear hq HQ0 HQ1
          go_wp2_with (go_at_fn 37; refine (HCR.out _ ((BW.alloc BW.size _).alloc (by simp; have := BW.size; omega) _)).mono ?_; rintro e w' ⟨rfl, hb'⟩)
          have hY := (((BW.alloc BW.size _).alloc (by simp; have := BW.size; omega) _).trans (hb'.mono (by simp; have := BW.size; omega)))
          go_ret
          exact ⟨by rw [HQ.out]; rfl, hY⟩
      · obtain rfl : k = n := by omega
        have HQ := Lib.hid (show eqR txEq xs ys = true from eqR_all HL.out fun j h1 h2 => AA.out j h1 h2 (by rw [← HN.out]; exact h1))
        clear HX HY
        go_wp2
        go_ret
        exact ⟨by rw [HQ.out]; rfl, BW⟩
  · have HQ := Lib.hid (show eqR txEq xs ys = false from by
      cases h : eqR txEq xs ys with
      | false => rfl
      | true => exact absurd (eqR_len h) hlen)
    rw [HQ.out]
    clear hv hv2 HQ hxs hys
    generalize xs.length = n at *
    generalize ys.length = m at *
    have hne : ((n : Int) != (m : Int)) = true := by simp; omega
    clear hlen
    go_enter Try.func36, Try.ntmps36
    go_wp2
    go_ret
    exact ⟨rfl, Below.refl _ _⟩


set_option maxRecDepth 100000 in
set_option maxHeartbeats 8000000 in
theorem eqf_rec (v1 v2 : Value) (xs ys : List Rx) (w : World) (hv : Sl w 10 v1 xs.length (xs.flatMap encRx)) (hv2 : Sl w 10 v2 ys.length (ys.flatMap encRx)) (hxs : ∀ t ∈ xs, Sl w 2 (.slice t.rA t.R.length t.rc) t.R.length (t.R.flatMap encPr) ∧ Sl w 2 (.slice t.wA t.W.length t.wc) t.W.length (t.W.flatMap encPr)) (hys : ∀ t ∈ ys, Sl w 2 (.slice t.rA t.R.length t.rc) t.R.length (t.R.flatMap encPr) ∧ Sl w 2 (.slice t.wA t.W.length t.wc) t.W.length (t.W.flatMap encPr)) :
    Calls Try.prog 38 #[v1, v2, .func (.func 39) #[] #[]] w fun e w' => e = .returned (.bool (eqR rxEq xs ys)) ∧ Below w.heap.size w w' := by
  have eg : ∀ args w, (callFunc 39 args).run Try.prog w = .ok (.enter 39 args) w := enters_of Try.func39 (by kernel_rfl) rfl
  obtain ⟨A1, c1, rfl, hc1, hm1⟩ := hv.form
  obtain ⟨A2, c2, rfl, hc2, hm2⟩ := hv2.form
  by_cases hlen : xs.length = ys.length
  · have HX := Lib.hid (fun h : 0 < xs.length => Sl.pos encRx encRx_len hv h)
    have HY := Lib.hid (fun h : 0 < ys.length => Sl.pos encRx encRx_len hv2 h)
    have HXS := Lib.hid hxs
    have HYS := Lib.hid hys
    have HL := Lib.hid hlen
    obtain ⟨n, hn⟩ : ∃ n, xs.length = n := ⟨_, rfl⟩
    have hn2 : ys.length = n := by rw [← hlen, hn]
    have HN := Lib.hid hn
    have HN2 := Lib.hid hn2
    rw [hn, hn2]
    have hbig : n ≤ 9223372036854775807 := by unfold maxLen at hm1; omega
    clear hv hv2 hc1 hc2 hm1 hm2 hn hn2 hlen hxs hys
    go_enter Try.func38, Try.ntmps38
    go_wp2
    go_loopg [17] n (fun gg s17 wr => ∃ k : Nat, k ≤ n ∧ n - k ≤ gg ∧ s17 = .int .i64 k ∧ Below w.heap.size w wr ∧ Hid (∀ j (h : j < xs.length) (h2 : j < ys.length), j < k → rxEq xs[j] ys[j] = true))
    case atStart => exact ⟨0, Nat.zero_le _, Nat.le_refl _, rfl, Below.refl _ w, fun j _ _ hj => absurd hj (Nat.not_lt_zero _)⟩
    case round =>
      obtain ⟨k, hk, hg, rfl, BW, AA⟩ := hrel
      by_cases hlt : k < n
      · have hltz : (k : Int) < (n : Int) := by omega
        have hgez : (0 : Int) ≤ (k : Int) := by omega
        have hk1 : k < xs.length := by rw [HN.out]; exact hlt
        have hk2 : k < ys.length := by rw [HN2.out]; exact hlt
        obtain ⟨b1, o1, rfl, hb1, he1⟩ := HX.out (by omega)
        obtain ⟨b2, o2, rfl, hb2, he2⟩ := HY.out (by omega)
        have l1 := he1 wr BW k hk1
        have x0 := l1 0 _ rfl; have x1 := l1 1 _ rfl; have x2 := l1 2 _ rfl; have x3 := l1 3 _ rfl; have x4 := l1 4 _ rfl; have x5 := l1 5 _ rfl; have x6 := l1 6 _ rfl; have x7 := l1 7 _ rfl; have x8 := l1 8 _ rfl; have x9 := l1 9 _ rfl
        simp only [Nat.add_zero] at x0
        have HQ0 := Lib.hid (fun h : rxEq xs[k] ys[k] = true => (show ∀ j (h : j < xs.length) (h2 : j < ys.length), j < k + 1 → rxEq xs[j] ys[j] = true from fun j h1 h2 hj => by
          by_cases e : j = k
          · subst e; exact h
          · exact AA.out j h1 h2 (by omega)))
        have HQ1 := Lib.hid (fun h : rxEq xs[k] ys[k] = false => (show eqR rxEq xs ys = false from by
          cases he : eqR rxEq xs ys with
          | false => rfl
          | true => have := eqR_at k hk1 hk2 he; rw [h] at this; cases this))
        have cR := fun W (hb : Below w.heap.size w W) => rec_any xs[k] ys[k] W ⟨(HXS.out _ (List.getElem_mem hk1)).1.below hb, (HXS.out _ (List.getElem_mem hk1)).2.below hb⟩ ⟨(HYS.out _ (List.getElem_mem hk2)).1.below hb, (HYS.out _ (List.getElem_mem hk2)).2.below hb⟩
        have HCR := Lib.hid cR
        have hB1 := BW.alloc BW.size (.cells (encRx xs[k]).toArray 50)
        have HB1 := Lib.hid hB1
        have l2 := he2 _ hB1 k hk2
        have y0 := l2 0 _ rfl; have y1 := l2 1 _ rfl; have y2 := l2 2 _ rfl; have y3 := l2 3 _ rfl; have y4 := l2 4 _ rfl; have y5 := l2 5 _ rfl; have y6 := l2 6 _ rfl; have y7 := l2 7 _ rfl; have y8 := l2 8 _ rfl; have y9 := l2 9 _ rfl
        simp only [Nat.add_zero] at y0
        clear he1 he2 l1 l2 HX HY hB1 cR
        generalize xs[k] = x at *
        generalize ys[k] = y at *
        simp only [encRx] at HCR HB1 y0 y1 y2 y3 y4 y5 y6 y7 y8 y9
        cases hq : rxEq x y with
        | true =>
          rw [hq] at HCR
          have HQ := Lib.hid (HQ0.out hq)
          clear hq HQ0 HQ1
          go_wp2_with (go_at_fn 39; refine (HCR.out _ ((BW.alloc BW.size _).alloc (by simp; have := BW.size; omega) _)).mono ?_; rintro e w' ⟨rfl, hb'⟩)
          have hY := (((BW.alloc BW.size _).alloc (by simp; have := BW.size; omega) _).trans (hb'.mono (by simp; have := BW.size; omega)))
          clear hb'
          go_roundg (n - (k + 1))
          case measure => omega
          case rel => exact ⟨k + 1, by omega, by omega, by go_num, hY, HQ.out⟩
        | false =>
          rw [hq] at HCR
          have HQ := Lib.hid (HQ1.out hq)
          clear hq HQ0 HQ1
          go_wp2_with (go_at_fn 39; refine (HCR.out _ ((BW.alloc BW.size _).alloc (by simp; have := BW.size; omega) _)).mono ?_; rintro e w' ⟨rfl, hb'⟩)
          have hY := (((BW.alloc BW.size _).alloc (by simp; have := BW.size; omega) _).trans (hb'.mono (by simp; have := BW.size; omega)))
          go_ret
          exact ⟨by rw [HQ.out]; rfl, hY⟩
      · obtain rfl : k = n := by omega
        have HQ := Lib.hid (show eqR rxEq xs ys = true from eqR_all HL.out fun j h1 h2 => AA.out j h1 h2 (by rw [← HN.out]; exact h1))
        clear HX HY
        go_wp2
        go_ret
        exact ⟨by rw [HQ.out]; rfl, BW⟩
  · have HQ := Lib.hid (show eqR rxEq xs ys = false from by
      cases h : eqR rxEq xs ys with
      | false => rfl
      | true => exact absurd (eqR_len h) hlen)
    rw [HQ.out]
    clear hv hv2 HQ hxs hys
    generalize xs.length = n at *
    generalize ys.length = m at *
    have hne : ((n : Int) != (m : Int)) = true := by simp; omega
    clear hlen
    go_enter Try.func38, Try.ntmps38
    go_wp2
    go_ret
    exact ⟨rfl, Below.refl _ _⟩

end Go.Proofs.Ytngimbfojccikaa
