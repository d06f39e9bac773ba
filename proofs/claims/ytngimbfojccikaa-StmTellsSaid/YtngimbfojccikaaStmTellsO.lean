/- Several texts in one: RqSame, RqNew. -/
import Derived.Test.YtngimbfojccikaaRqApi2m
namespace Go.Proofs.Ytngimbfojccikaa
set_option linter.unusedSimpArgs false
open Go Go.RowKit
set_option linter.unusedVariables false
attribute [local go_sem ↓] Go.wp_at_zero Go.wp_at_succ

set_option maxRecDepth 100000 in
set_option maxHeartbeats 4000000 in
theorem RSame_any (v1 v2 : Value) (n1 m1 n2 m2 : Int) (xs ys : List Lk) (w : World) (hv1 : LkV w v1 n1 m1 xs) (hv2 : LkV w v2 n2 m2 ys) :
    Calls Try.prog 27 #[v1, v2] w fun e w' => e = .returned (.bool (sameL n1 m1 xs n2 m2 ys)) ∧ Below w.heap.size w w' := by
  obtain ⟨A1, c1, rfl, hv1⟩ := hv1.form
  obtain ⟨A2, c2, rfl, hv2⟩ := hv2.form
  have hb0 : Below w.heap.size w ((w.alloc (.cells #[.int .i64 n1, .int .i64 m1, .slice A1 xs.length c1] 30)).alloc (.cells #[.int .i64 n2, .int .i64 m2, .slice A2 ys.length c2] 30)) := ((Below.refl _ w).alloc (Nat.le_refl _) _).alloc (by simp) _
  cases h1 : (n1 == n2) with
  | false =>
    rw [show sameL n1 m1 xs n2 m2 ys = false from by simp [sameL, h1]]
    have h1' : (n1 != n2) = true := by simpa using h1
    go_enter Try.func27, Try.ntmps27
    go_wp2
    go_ret
    exact ⟨rfl, hb0⟩
  | true =>
    obtain rfl : n1 = n2 := by simpa using h1
    cases h2 : (m1 == m2) with
    | false =>
      rw [show sameL n1 m1 xs n1 m2 ys = false from by simp [sameL, h2]]
      have h2' : (m1 != m2) = true := by simpa using h2
      go_enter Try.func27, Try.ntmps27
      go_wp2
      go_ret
      exact ⟨rfl, hb0⟩
    | true =>
      obtain rfl : m1 = m2 := by simpa using h2
      rw [show sameL n1 m1 xs n1 m1 ys = eqL lkEq xs ys from by simp [sameL]]
      clear h1 h2
      by_cases hlen : xs.length = ys.length
      · have hs1 := hv1.sl
        have hs2 := hv2.sl
        have hp1 : 0 < xs.length → ∃ b o, A1 = some ⟨b, o, none⟩ ∧ b < w.heap.size ∧ ∀ (W : World), Below w.heap.size w W → ∀ j (hj : j < xs.length) i u, (encL xs[j])[i]? = some u → W.cell? ⟨b, o + j * 2 + i, none⟩ = some u := fun h => Sl.pos encL encL_len hs1 h
        have hp2 : 0 < ys.length → ∃ b o, A2 = some ⟨b, o, none⟩ ∧ b < w.heap.size ∧ ∀ (W : World), Below w.heap.size w W → ∀ j (hj : j < ys.length) i u, (encL ys[j])[i]? = some u → W.cell? ⟨b, o + j * 2 + i, none⟩ = some u := fun h => Sl.pos encL encL_len hs2 h
        obtain ⟨_, _, _, hc, hm⟩ := hs1.form
        have hbig : xs.length ≤ 9223372036854775807 := by unfold maxLen at hm; omega
        clear hs1 hs2 hv1 hv2 hc hm
        obtain ⟨n, hn⟩ : ∃ n, xs.length = n := ⟨_, rfl⟩
        have hn2 : ys.length = n := by rw [← hlen, hn]
        rw [hn] at hbig
        rw [hn, hn2] at hb0 ⊢
        have k0 : Blk ((w.alloc (.cells #[.int .i64 n1, .int .i64 m1, .slice A1 n c1] 30)).alloc (.cells #[.int .i64 n1, .int .i64 m1, .slice A2 n c2] 30)) w.heap.size 30 #[.int .i64 n1, .int .i64 m1, .slice A1 n c1] := (Blk.new_ w _ _ _ rfl).alloc _
        have k1 : Blk ((w.alloc (.cells #[.int .i64 n1, .int .i64 m1, .slice A1 n c1] 30)).alloc (.cells #[.int .i64 n1, .int .i64 m1, .slice A2 n c2] 30)) (w.heap.size + 1) 30 #[.int .i64 n1, .int .i64 m1, .slice A2 n c2] := Blk.new_ _ _ _ _ (by simp)
        have HN := Lib.hid hn
        have HN2 := Lib.hid hn2
        have HL := Lib.hid hlen
        have HP1 := Lib.hid hp1
        have HP2 := Lib.hid hp2
        obtain ⟨w1, hw1⟩ : ∃ x, ((w.alloc (.cells #[.int .i64 n1, .int .i64 m1, .slice A1 n c1] 30)).alloc (.cells #[.int .i64 n1, .int .i64 m1, .slice A2 n c2] 30)) = x := ⟨_, rfl⟩
        have HB := Lib.hid (hw1 ▸ hb0)
        have K0 := Lib.hid (hw1 ▸ k0)
        have K1 := Lib.hid (hw1 ▸ k1)
        have HW := Lib.hid hw1
        clear hn hn2 hlen hp1 hp2 hb0 k0 k1 hw1
        go_enter Try.func27, Try.ntmps27
        go_wp2
        rw [HW.out]
        clear HW
        go_loopg [5] n (fun gg s5 wr => ∃ kk : Nat, kk ≤ n ∧ n - kk ≤ gg ∧ s5 = .int .i64 kk ∧ Hid (Below w1.heap.size w1 wr) ∧ Hid (∀ j (h : j < xs.length) (h2 : j < ys.length), j < kk → lkEq xs[j] ys[j] = true))
        case atStart => exact ⟨0, Nat.zero_le _, by omega, rfl, Below.refl _ _, fun j _ _ hj => absurd hj (Nat.not_lt_zero _)⟩
        case round =>
          obtain ⟨kk, hkk, hg, rfl, BW, AA⟩ := hrel
          have q0 := K0.out.keep BW.out
          have q1 := K1.out.keep BW.out
          have l0 := q0.lt
          have l1 := q1.lt
          have s0 : wr.cell? ⟨w.heap.size, 0, none⟩ = some (.int .i64 n1) := by rw [q0.cell]; rfl
          have s1 : wr.cell? ⟨w.heap.size, 1, none⟩ = some (.int .i64 m1) := by rw [q0.cell]; rfl
          have s2 : wr.cell? ⟨w.heap.size, 2, none⟩ = some (.slice A1 n c1) := by rw [q0.cell]; rfl
          have sf0 : wr.frozen? ⟨w.heap.size, 0, none⟩ = false := q0.free 0
          have sf1 : wr.frozen? ⟨w.heap.size, 1, none⟩ = false := q0.free 1
          have sf2 : wr.frozen? ⟨w.heap.size, 2, none⟩ = false := q0.free 2
          have t0 : wr.cell? ⟨w.heap.size + 1, 0, none⟩ = some (.int .i64 n1) := by rw [q1.cell]; rfl
          have t1 : wr.cell? ⟨w.heap.size + 1, 1, none⟩ = some (.int .i64 m1) := by rw [q1.cell]; rfl
          have t2 : wr.cell? ⟨w.heap.size + 1, 2, none⟩ = some (.slice A2 n c2) := by rw [q1.cell]; rfl
          have tf0 : wr.frozen? ⟨w.heap.size + 1, 0, none⟩ = false := q1.free 0
          have tf1 : wr.frozen? ⟨w.heap.size + 1, 1, none⟩ = false := q1.free 1
          have tf2 : wr.frozen? ⟨w.heap.size + 1, 2, none⟩ = false := q1.free 2
          clear q0 q1
          by_cases hlt : kk < n
          · have hltz : (kk : Int) < (n : Int) := by omega
            have hgez : (0 : Int) ≤ (kk : Int) := by omega
            have hlt1 : kk < xs.length := by rw [HN.out]; exact hlt
            have hlt2 : kk < ys.length := by rw [HN2.out]; exact hlt
            obtain ⟨b1, o1, rfl, hb1, he1⟩ := HP1.out (by omega)
            obtain ⟨b2, o2, rfl, hb2, he2⟩ := HP2.out (by omega)
            have hYW := HB.out.trans (BW.out.mono HB.out.size)
            have x0 := he1 wr hYW kk hlt1 0 _ rfl
            have x1 := he1 wr hYW kk hlt1 1 _ rfl
            have y0 := he2 wr hYW kk hlt2 0 _ rfl
            have y1 := he2 wr hYW kk hlt2 1 _ rfl
            simp only [Nat.add_zero] at x0 y0
            have lb1 : b1 < wr.heap.size := Nat.lt_of_lt_of_le hb1 hYW.size
            have lb2 : b2 < wr.heap.size := Nat.lt_of_lt_of_le hb2 hYW.size
            clear he1 he2 HP1 HP2 hYW
            have hne := fun w => neq_lock xs[kk] ys[kk] w
            have hgd := fun a b w => guard_lock .neq a b xs[kk] ys[kk] w
            generalize hX : xs[kk] = x at x0 x1 hne hgd
            generalize hY : ys[kk] = y at y0 y1 hne hgd
            have HX := Lib.hid hX
            have HY := Lib.hid hY
            clear hX hY
            simp only [encL] at hne hgd
            have BD := (Below.refl wr.heap.size wr).drew
            cases hq : lkEq x y with
            | true =>
              rw [hq] at hne
              have HQ := Lib.hid hq
              clear hq
              go_wp2_with fail
              refine wp_region_held_drew (S := fun w' => w'.cell? ⟨w.heap.size, 2, none⟩ = some (.slice (some ⟨b1, o1, none⟩) n c1) ∧ w'.cell? ⟨w.heap.size + 1, 2, none⟩ = some (.slice (some ⟨b2, o2, none⟩) n c2) ∧ w'.cell? ⟨b1, o1 + kk * 2, none⟩ = some (.int .i64 x.v) ∧ w'.cell? ⟨b1, o1 + kk * 2 + 1, none⟩ = some (.int .i64 x.o) ∧ w'.cell? ⟨b2, o2 + kk * 2, none⟩ = some (.int .i64 y.v) ∧ w'.cell? ⟨b2, o2 + kk * 2 + 1, none⟩ = some (.int .i64 y.o)) (by kernel_rfl) ?_ (fun hbr => ?_)
              · exact ⟨s2, t2, x0, x1, y0, y1⟩
              refine tkA 0 ?_
              refine tkA 1 ?_
              refine tkA 2 ?_
              refine tkA 3 ?_
              refine tkA 4 ?_
              refine tkA 5 ?_
              refine tkA 6 ?_
              refine tkA 7 ?_
              refine tkA 8 ?_
              refine tkA 9 ?_
              refine tkA 10 ?_
              refine wpAnyH_done (by kernel_rfl) ?_ _
              go_wp2
              go_roundg (n - (kk + 1))
              case measure => omega
              case rel =>
                refine ⟨kk + 1, by omega, by omega, by go_num, BW.out.drew, (show Hid _ from fun j h h2 hj => ?_)⟩
                by_cases e : j = kk
                · subst e
                  rw [HX.out, HY.out]; exact HQ.out
                · exact AA.out j h h2 (by omega)
            | false =>
              rw [hq] at hne
              have HQ := Lib.hid hq
              clear hq
              go_wp2_with fail
              refine wp_region_held_drew (S := fun w' => w'.cell? ⟨w.heap.size, 2, none⟩ = some (.slice (some ⟨b1, o1, none⟩) n c1) ∧ w'.cell? ⟨w.heap.size + 1, 2, none⟩ = some (.slice (some ⟨b2, o2, none⟩) n c2) ∧ w'.cell? ⟨b1, o1 + kk * 2, none⟩ = some (.int .i64 x.v) ∧ w'.cell? ⟨b1, o1 + kk * 2 + 1, none⟩ = some (.int .i64 x.o) ∧ w'.cell? ⟨b2, o2 + kk * 2, none⟩ = some (.int .i64 y.v) ∧ w'.cell? ⟨b2, o2 + kk * 2 + 1, none⟩ = some (.int .i64 y.o)) (by kernel_rfl) ?_ (fun hcr => ?_)
              · exact ⟨s2, t2, x0, x1, y0, y1⟩
              refine tkA 0 ?_
              refine tkA 1 ?_
              refine tkA 2 ?_
              refine tkA 3 ?_
              refine tkA 4 ?_
              refine tkA 5 ?_
              refine tkA 6 ?_
              refine tkA 7 ?_
              refine tkA 8 ?_
              refine tkA 9 ?_
              refine tkA 10 ?_
              refine wpAnyH_done (by kernel_rfl) ?_ _
              go_wp2
              go_ret
              refine ⟨?_, HB.out.trans (BW.out.drew.mono HB.out.size)⟩
              have : eqL lkEq xs ys = false := by
                cases he : eqL lkEq xs ys with
                | false => rfl
                | true =>
                  have := eqL_at HL.out kk hlt1 he
                  rw [HX.out, HY.out, HQ.out] at this
                  exact this.symm
              rw [this]
              rfl
          · have hltz : ¬ (kk : Int) < (n : Int) := by omega
            obtain rfl : n = kk := by omega
            clear HP1 HP2
            go_wp2
            go_ret
            refine ⟨?_, HB.out.trans (BW.out.mono HB.out.size)⟩
            rw [eqL_all HL.out (fun j h => AA.out j h (by rw [← HL.out]; exact h) (by rw [HN.out] at h; exact h))]
            rfl
      · have he : eqL lkEq xs ys = false := by
          cases h : eqL lkEq xs ys with
          | false => rfl
          | true => exact absurd (eqL_len h) hlen
        rw [he]
        clear hv1 hv2 he
        generalize xs.length = n at *
        generalize ys.length = m at *
        have hne : ((n : Int) != (m : Int)) = true := by simp; omega
        clear hlen
        go_enter Try.func27, Try.ntmps27
        go_wp2
        go_ret
        exact ⟨rfl, hb0⟩
end Go.Proofs.Ytngimbfojccikaa
namespace Go.Proofs.Ytngimbfojccikaa
set_option linter.unusedSimpArgs false
open Go Go.RowKit
set_option linter.unusedVariables false

set_option maxHeartbeats 1000000 in
theorem RNew_no (n mx : Int) (w : World) (h : newOk n mx = false) :
    Calls Try.prog 25 #[.int .i64 n, .int .i64 mx] w fun e w' => e = .returned (.tuple #[.agg #[.int .i64 0, .int .i64 0, .slice none 0 0], .bool false]) ∧ Below w.heap.size w w' := by
  by_cases h1 : n < 1
  · clear h
    go_enter Try.func25, Try.ntmps25
    go_wp2
    exact bodyPost_ret (v := .tuple #[.agg #[.int .i64 0, .int .i64 0, .slice none 0 0], .bool false]) (by simp [results, Try.results25, go_sem]) rfl ⟨rfl, (Below.refl _ _).alloc (Nat.le_refl _) _⟩
  by_cases h2 : 8 < n
  · clear h
    go_enter Try.func25, Try.ntmps25
    go_wp2
    exact bodyPost_ret (v := .tuple #[.agg #[.int .i64 0, .int .i64 0, .slice none 0 0], .bool false]) (by simp [results, Try.results25, go_sem]) rfl ⟨rfl, (Below.refl _ _).alloc (Nat.le_refl _) _⟩
  by_cases h3 : mx < 0
  · clear h
    go_enter Try.func25, Try.ntmps25
    go_wp2
    exact bodyPost_ret (v := .tuple #[.agg #[.int .i64 0, .int .i64 0, .slice none 0 0], .bool false]) (by simp [results, Try.results25, go_sem]) rfl ⟨rfl, (Below.refl _ _).alloc (Nat.le_refl _) _⟩
  have h4 : 1000 < mx := by simp [newOk] at h; omega
  clear h
  go_enter Try.func25, Try.ntmps25
  go_wp2
  exact bodyPost_ret (v := .tuple #[.agg #[.int .i64 0, .int .i64 0, .slice none 0 0], .bool false]) (by simp [results, Try.results25, go_sem]) rfl ⟨rfl, (Below.refl _ _).alloc (Nat.le_refl _) _⟩

set_option maxRecDepth 100000 in
set_option maxHeartbeats 4000000 in
theorem RNew_yes (n : Nat) (mx : Int) (w : World) (h1 : 1 ≤ n) (h2 : n ≤ 8) (h3 : 0 ≤ mx) (h4 : mx ≤ 1000) :
    Calls Try.prog 25 #[.int .i64 (n : Int), .int .i64 mx] w fun e w' => ∃ v', e = .returned (.tuple #[v', .bool true]) ∧ LkO w' w.heap.size v' 0 mx (List.replicate n ⟨0, -1⟩) ∧ Below w.heap.size w w' := by
  obtain ⟨i0, hi0, hz0, hz1, hz2⟩ := info_parts clone_lock_info
  obtain ⟨w1, hw1⟩ : ∃ x, ((w.alloc (.cells #[.int .i64 0, .int .i64 0, .slice none 0 0] 30)).alloc (.cells #[.int .i64 0, .int .i64 mx, .slice none 0 0] 30)) = x := ⟨_, rfl⟩
  have HB := Lib.hid (show Below w.heap.size w w1 from hw1 ▸ ((Below.refl _ w).alloc (Nat.le_refl _) _).alloc (by simp) _)
  have K0 := Lib.hid (show Blk w1 w.heap.size 30 #[.int .i64 0, .int .i64 0, .slice none 0 0] from hw1 ▸ (Blk.new_ w _ _ _ rfl).alloc _)
  have K1 := Lib.hid (show Blk w1 (w.heap.size + 1) 30 #[.int .i64 0, .int .i64 mx, .slice none 0 0] from hw1 ▸ Blk.new_ _ _ _ _ (by simp))
  have HZ := Lib.hid (show w1.heap.size = w.heap.size + 2 by rw [← hw1]; simp)
  have HW := Lib.hid hw1
  clear hw1
  go_enter Try.func25, Try.ntmps25
  go_wp2
  rw [HW.out]
  clear HW
  go_loopg [7] n (fun gg s7 wr => ∃ (kk : Nat) (A : Option Addr) (c : Nat), kk ≤ n ∧ n - kk ≤ gg ∧ s7 = .int .i64 kk ∧ Hid (Below w.heap.size w wr) ∧ Hid (Blk wr w.heap.size 30 #[.int .i64 0, .int .i64 0, .slice none 0 0]) ∧
    Hid (Blk wr (w.heap.size + 1) 30 #[.int .i64 0, .int .i64 mx, .slice A kk c]) ∧ Hid (wr.ownsRow (w.heap.size + 2) 43 2 (.slice A kk c) kk (reps [.int .i64 0, .int .i64 (-1)] kk)))
  case atStart => exact ⟨0, none, 0, Nat.zero_le _, by omega, rfl, HB.out, K0.out, K1.out, World.ownsRow_nil _ _ _ _⟩
  case round =>
    obtain ⟨kk, A, c, hkk, hg, rfl, BW, B0, B1, OW⟩ := hrel
    clear HB K0 K1
    have k0 := B0.out
    have k1 := B1.out
    have l0 := k0.lt
    have l1 := k1.lt
    have s0 : wr.cell? ⟨w.heap.size, 0, none⟩ = some (.int .i64 0) := by rw [k0.cell]; rfl
    have s1 : wr.cell? ⟨w.heap.size, 1, none⟩ = some (.int .i64 0) := by rw [k0.cell]; rfl
    have s2 : wr.cell? ⟨w.heap.size, 2, none⟩ = some (.slice none 0 0) := by rw [k0.cell]; rfl
    have sf0 : wr.frozen? ⟨w.heap.size, 0, none⟩ = false := k0.free 0
    have sf1 : wr.frozen? ⟨w.heap.size, 1, none⟩ = false := k0.free 1
    have sf2 : wr.frozen? ⟨w.heap.size, 2, none⟩ = false := k0.free 2
    have t0 : wr.cell? ⟨w.heap.size + 1, 0, none⟩ = some (.int .i64 0) := by rw [k1.cell]; rfl
    have t1 : wr.cell? ⟨w.heap.size + 1, 1, none⟩ = some (.int .i64 mx) := by rw [k1.cell]; rfl
    have t2 : wr.cell? ⟨w.heap.size + 1, 2, none⟩ = some (.slice A kk c) := by rw [k1.cell]; rfl
    have tf0 : wr.frozen? ⟨w.heap.size + 1, 0, none⟩ = false := k1.free 0
    have tf1 : wr.frozen? ⟨w.heap.size + 1, 1, none⟩ = false := k1.free 1
    have tf2 : wr.frozen? ⟨w.heap.size + 1, 2, none⟩ = false := k1.free 2
    by_cases hlt : kk < n
    · have hltz : (kk : Int) < (n : Int) := by omega
      have hA1 := (Below.refl wr.heap.size wr).alloc (Nat.le_refl _) (.cells #[.int .i64 0, .int .i64 (-1)] 43)
      have hown := own_below OW.out hA1
      have k0a := k0.keep hA1
      have k1a := k1.keep hA1
      have hnB : Blk (wr.alloc (.cells #[.int .i64 0, .int .i64 (-1)] 43)) wr.heap.size 43 #[.int .i64 0, .int .i64 (-1)] := Blk.new _ _ _
      have hnews : ∀ j u, ([.int .i64 0, .int .i64 (-1)] : List Value)[j]? = some u → (wr.alloc (.cells #[.int .i64 0, .int .i64 (-1)] 43)).cell? ((⟨wr.heap.size, 0, none⟩ : Addr).add j) = some u := by
        intro j u hu
        rw [add_none, Nat.zero_add, hnB.cell]
        simpa using hu
      have hone : ∀ u ∈ ([.int .i64 0, .int .i64 (-1)] : List Value), u.oneCell' = true := by simp [Value.oneCell']
      have hnb := own_ne hown k1a (by decide)
      have hn0 := own_ne hown k0a (by decide)
      have hbw := BW.out.size
      have HBW := Lib.hid (BW.out.trans (hA1.mono BW.out.size))
      have HOWN := Lib.hid hown
      have HNEWS := Lib.hid hnews
      have K0A := Lib.hid k0a
      have K1A := Lib.hid k1a
      have HNB := Lib.hid hnb
      have HN0 := Lib.hid hn0
      clear hown hnews hnb hn0 k0a k1a k0 k1 hA1 hnB
      go_wp2_with (at_builtin; refine wpList_append_own_at _ rfl (.tmp 31) (.tmp 33) _ rfl (w.heap.size + 2) 43 i0 _ 2 16 Try.underlying28 hi0 hz0 hz1 hz2 rfl (by omega) (.slice A kk c) kk _ rfl HOWN.out ⟨wr.heap.size, 0, none⟩ 1 1 [.int .i64 0, .int .i64 (-1)] rfl rfl HNEWS.out hone (by unfold maxLen; omega) (by omega) (by have := HZ.out; simp; omega) ?_; intro v1 w2 hown1 hgrow _ hat; obtain ⟨g, cap, cur, rfl, hg1, hrow, _, _, _, _⟩ := own_form hown1 (by omega); have k0b := K0A.out.grown hgrow (Ne.symm HN0.out); have k1b := K1A.out.grown hgrow (Ne.symm HNB.out); have HG := Lib.hid hgrow; have HO := Lib.hid hown1; have HAT := Lib.hid hat; clear hgrow hown1 hat hrow; have u2 : w2.cell? ⟨w.heap.size + 1, 2, none⟩ = some (.slice A kk c) := (by rw [k1b.cell]; rfl); have uf2 : w2.frozen? ⟨w.heap.size + 1, 2, none⟩ = false := k1b.free 2)
      go_wp2
      go_roundg (n - (kk + 1))
      case measure => omega
      case rel =>
        refine ⟨kk + 1, some ⟨g, 0, none⟩, cap, by omega, by omega, by go_num, (show Below _ _ _ from ?_), (show Blk _ _ _ _ from ?_), (show Blk _ _ _ _ from ?_), (show World.ownsRow _ _ _ _ _ _ _ from ?_)⟩
        · refine (HBW.out.grown HG.out (by simp; omega) ?_).setCell (by simp) _
          intro k hk
          have := (HOWN.out.lt k hk).1
          omega
        · exact k0b.far (by simp) _
        · exact k1b.set_ 2 _
        · have h := HO.out
          rw [show reps [.int .i64 0, .int .i64 (-1)] kk ++ ([.int .i64 0, .int .i64 (-1)] : List Value) = reps [.int .i64 0, .int .i64 (-1)] (kk + 1) from by rw [reps_add]; simp [reps]] at h
          exact ownsRow_setCell_below h (by simp) _
    · obtain rfl : n = kk := by omega
      have hltz : ¬ (n : Int) < (n : Int) := by omega
      go_wp2
      refine bodyPost_ret (v := .tuple #[.agg #[.int .i64 0, .int .i64 mx, .slice A n c], .bool true]) (by simp [results, Try.results25, go_sem, s0, s1, s2]) rfl ⟨_, rfl, ⟨_, rfl, ?_⟩, ?_⟩
      · unfold RowL
        rw [← reps_enc, List.length_replicate]
        exact ownsRow_mono (ownsRow_setCell_below (ownsRow_setCell_below (ownsRow_setCell_below OW.out (a := ⟨w.heap.size, 0, none⟩) (by simp) _) (a := ⟨w.heap.size, 1, none⟩) (by simp) _) (a := ⟨w.heap.size, 2, none⟩) (by simp) _) (by omega)
      · exact ((BW.out.setCell (by simp) _).setCell (by simp) _).setCell (by simp) _
end Go.Proofs.Ytngimbfojccikaa
