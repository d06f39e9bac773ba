/- foliateref16.May. -/
import Derived.Test.YtelfkopoppfaaaaPgLawWrite
import Derived.Deep.DeepCutAuto
import Derived.Test.YtelfkopoppfaaaaCopy
namespace Go.Proofs.Ytelfkopoppfaaaa
open Go Go.RowKit
set_option linter.unusedVariables false
attribute [local go_sem ↓] Go.wp_at_zero Go.wp_at_succ

set_option maxHeartbeats 2000000 in
theorem rmay_any (cap : Int) (sv : Value) (ps : List Pg) (w : World) (hv : Sl w 5 sv ps.length (ps.flatMap encP)) :
    Calls Try.prog 24 #[.agg #[.int .i64 cap, sv]] w fun e w' => e = .returned (.bool (mayP cap ps)) ∧ Below w.heap.size w w' := by
  have hb0 : Below w.heap.size w (w.alloc (.cells #[.int .i64 cap, sv] 25)) := (Below.refl _ w).alloc (Nat.le_refl _) _
  have kB : Blk (w.alloc (.cells #[.int .i64 cap, sv] 25)) w.heap.size 25 #[.int .i64 cap, sv] := Blk.new_ w _ _ _ rfl
  obtain ⟨A, c, rfl, hc, hm⟩ := hv.form
  have hpos : 0 < ps.length → ∃ b o, A = some ⟨b, o, none⟩ ∧ b < w.heap.size ∧ ∀ (W : World), Below w.heap.size w W → ∀ j (hj : j < ps.length) i u, (encP ps[j])[i]? = some u → W.cell? ⟨b, o + j * 5 + i, none⟩ = some u := fun h => Sl.pos encP encP_len hv h
  clear hv
  obtain ⟨n, hn⟩ : ∃ n, ps.length = n := ⟨_, rfl⟩
  have HN := Lib.hid hn
  have hbig : n ≤ 9223372036854775807 := by unfold maxLen at hm; omega
  have HP := Lib.hid hpos
  rw [hn] at hb0 kB ⊢
  obtain ⟨w1, hw1⟩ : ∃ x, w.alloc (.cells #[.int .i64 cap, .slice A n c] 25) = x := ⟨_, rfl⟩
  have HW := Lib.hid hw1
  have HB := Lib.hid (hw1 ▸ hb0)
  have HK := Lib.hid (hw1 ▸ kB)
  clear hn hc hm hpos hb0 kB hw1
  go_enter Try.func24, Try.ntmps24
  go_wp2
  rw [HW.out]
  clear HW
  go_loopg [3] n (fun gg s3 wr => ∃ kk : Nat, kk ≤ n ∧ n - kk ≤ gg ∧ s3 = .int .i64 kk ∧ Hid (Below w.heap.size w wr) ∧ Hid (Blk wr w.heap.size 25 #[.int .i64 cap, .slice A n c]) ∧ Hid (∀ j (h : j < ps.length), j < kk → oddP ps[j] = false))
  case atStart => exact ⟨0, Nat.zero_le _, by omega, rfl, HB.out, HK.out, fun j _ hj => absurd hj (Nat.not_lt_zero _)⟩
  case round =>
    obtain ⟨kk, hkk, hg, rfl, BW, KW, AA⟩ := hrel
    clear HB HK
    have kC := KW.out
    have l0 := kC.lt
    have c0 : wr.cell? ⟨w.heap.size, 0, none⟩ = some (.int .i64 cap) := by rw [kC.cell]; rfl
    have c1 : wr.cell? ⟨w.heap.size, 1, none⟩ = some (.slice A n c) := by rw [kC.cell]; rfl
    clear kC
    by_cases hlt : kk < n
    · have hltz : (kk : Int) < (n : Int) := by omega
      have hgez : (0 : Int) ≤ (kk : Int) := by omega
      have hk : kk < ps.length := by rw [HN.out]; exact hlt
      obtain ⟨b, o, rfl, hb, hel⟩ := HP.out (by omega)
      have e0 := hel wr BW.out kk hk 0 _ rfl
      have e1 := hel wr BW.out kk hk 1 _ rfl
      have e2 := hel wr BW.out kk hk 2 _ rfl
      have e3 := hel wr BW.out kk hk 3 _ rfl
      have e4 := hel wr BW.out kk hk 4 _ rfl
      simp only [Nat.add_zero] at e0
      clear hel HP
      have hbw : b < wr.heap.size := Nat.lt_of_lt_of_le hb BW.out.size
      have hor : oddP ps[kk] = (decide (ps[kk].r < 0) || (decide (1000 < ps[kk].r) || (ps[kk].r == 0 && !pgEq ps[kk] ⟨0, 0, 0, 0, 0⟩))) := rfl
      have KEY := Lib.hid (fun h : oddP ps[kk] = true => show mayP cap ps = false from by
        cases hh : mayP cap ps with
        | false => rfl
        | true =>
          have := may_odd hh kk hk
          rw [h] at this
          cases this)
      have HO := Lib.hid hor
      clear hor
      generalize hx : ps[kk] = x at e0 e1 e2 e3 e4 KEY HO
      have HX := Lib.hid hx
      clear hx
      have HBW := Lib.hid (show Below w.heap.size w (wr.alloc (.cells #[.int .i64 x.r, .int .i64 x.a, .int .i64 x.b, .int .i64 x.c, .int .i64 x.d] 37)) from BW.out.alloc BW.out.size _)
      have KW2 := Lib.hid (Blk.alloc KW.out (.cells #[.int .i64 x.r, .int .i64 x.a, .int .i64 x.b, .int .i64 x.c, .int .i64 x.d] 37))
      have hne := fun w => neq_page x ⟨0, 0, 0, 0, 0⟩ w
      have hgd := fun a b w => guard_page .neq a b x ⟨0, 0, 0, 0, 0⟩ w
      generalize hq : pgEq x ⟨0, 0, 0, 0, 0⟩ = q at hne
      have HQ := Lib.hid hq
      clear hq
      simp only [encP] at hne hgd
      by_cases h1 : x.r < 0
      · go_wp2
        go_ret
        rw [KEY.out (by rw [HO.out]; simp [h1])]
        exact ⟨rfl, HBW.out⟩
      · by_cases h2 : 1000 < x.r
        · go_wp2
          go_ret
          rw [KEY.out (by rw [HO.out]; simp [h2])]
          exact ⟨rfl, HBW.out⟩
        · cases h3 : (x.r == 0) with
          | true =>
            cases q with
            | false =>
              go_wp2
              go_ret
              rw [KEY.out (by rw [HO.out]; simp [h3, HQ.out])]
              exact ⟨rfl, HBW.out⟩
            | true =>
              go_wp2
              go_roundg (n - (kk + 1))
              case measure => omega
              case rel =>
                refine ⟨kk + 1, by omega, by omega, by go_num, HBW.out, KW2.out, (show Hid _ from fun j h hj => ?_)⟩
                by_cases e : j = kk
                · subst e
                  rw [HX.out, HO.out]
                  simp [h1, h2, HQ.out]
                · exact AA.out j h (by omega)
          | false =>
            go_wp2
            go_roundg (n - (kk + 1))
            case measure => omega
            case rel =>
              refine ⟨kk + 1, by omega, by omega, by go_num, HBW.out, KW2.out, (show Hid _ from fun j h hj => ?_)⟩
              by_cases e : j = kk
              · subst e
                rw [HX.out, HO.out]
                simp [h1, h2, h3]
              · exact AA.out j h (by omega)
    · obtain rfl : n = kk := by omega
      have hltz : ¬ (n : Int) < (n : Int) := by omega
      have hany : ps.any oddP = false := by
        rw [List.any_eq_false]
        intro y hy
        obtain ⟨j, hj, rfl⟩ := List.getElem_of_mem hy
        rw [AA.out j hj (by rw [HN.out] at hj; exact hj)]
        simp
      have HM := Lib.hid (show mayP cap ps = (decide (0 ≤ cap) && (decide (cap ≤ 12) && decide ((n : Int) ≤ cap))) from by unfold mayP; rw [hany, HN.out]; simp)
      clear hany HP
      by_cases h0 : 0 ≤ cap
      · by_cases h1 : cap ≤ 12
        · go_wp2
          go_ret
          rw [HM.out]
          exact ⟨by simp [h0, h1], BW.out⟩
        · go_wp2
          go_ret
          rw [HM.out]
          exact ⟨by simp; intros; omega, BW.out⟩
      · go_wp2
        go_ret
        rw [HM.out]
        exact ⟨by simp; intros; omega, BW.out⟩

end Go.Proofs.Ytelfkopoppfaaaa
