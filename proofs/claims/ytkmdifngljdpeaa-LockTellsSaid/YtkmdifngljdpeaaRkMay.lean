/- foliateref18: May, Same. -/
import Derived.Test.YtkmdifngljdpeaaLkPlain
namespace Go.Proofs.Ytkmdifngljdpeaa
open Go Go.RowKit
set_option linter.unusedVariables false

set_option maxHeartbeats 2000000 in
theorem rmay_any (now mx : Int) (sv : Value) (ls : List Lk) (w : World) (hv : Sl w 2 sv ls.length (ls.flatMap encL)) :
    Calls Try.prog 20 #[.agg #[.int .i64 now, .int .i64 mx, sv]] w fun e w' => e = .returned (.bool (mayL now mx ls)) ∧ Below w.heap.size w w' := by
  have hb0 : Below w.heap.size w (w.alloc (.cells #[.int .i64 now, .int .i64 mx, sv] 24)) := (Below.refl _ w).alloc (Nat.le_refl _) _
  have kB : Blk (w.alloc (.cells #[.int .i64 now, .int .i64 mx, sv] 24)) w.heap.size 24 #[.int .i64 now, .int .i64 mx, sv] := Blk.new_ w _ _ _ rfl
  obtain ⟨A, c, rfl, hc, hm⟩ := hv.form
  have hpos : 0 < ls.length → ∃ b o, A = some ⟨b, o, none⟩ ∧ b < w.heap.size ∧ ∀ (W : World), Below w.heap.size w W → ∀ j (hj : j < ls.length) i u, (encL ls[j])[i]? = some u → W.cell? ⟨b, o + j * 2 + i, none⟩ = some u := fun h => Sl.pos encL encL_len hv h
  clear hv
  obtain ⟨n, hn⟩ : ∃ n, ls.length = n := ⟨_, rfl⟩
  have HN := Lib.hid hn
  have hbig : n ≤ 9223372036854775807 := by unfold maxLen at hm; omega
  have HP := Lib.hid hpos
  rw [hn] at hb0 kB ⊢
  obtain ⟨w1, hw1⟩ : ∃ x, w.alloc (.cells #[.int .i64 now, .int .i64 mx, .slice A n c] 24) = x := ⟨_, rfl⟩
  have HW := Lib.hid hw1
  have HB := Lib.hid (hw1 ▸ hb0)
  have HK := Lib.hid (hw1 ▸ kB)
  clear hn hc hm hpos hb0 kB hw1
  go_enter Try.func20, Try.ntmps20
  go_wp2
  rw [HW.out]
  clear HW
  go_loopg [3] n (fun gg s3 wr => ∃ kk : Nat, kk ≤ n ∧ n - kk ≤ gg ∧ s3 = .int .i64 kk ∧ Hid (Below w.heap.size w wr) ∧ Hid (Blk wr w.heap.size 24 #[.int .i64 now, .int .i64 mx, .slice A n c]) ∧ Hid (∀ j (h : j < ls.length), j < kk → oddL now ls[j] = false))
  case atStart => exact ⟨0, Nat.zero_le _, by omega, rfl, HB.out, HK.out, fun j _ hj => absurd hj (Nat.not_lt_zero _)⟩
  case round =>
    obtain ⟨kk, hkk, hg, rfl, BW, KW, AA⟩ := hrel
    clear HB HK
    have kC := KW.out
    have l0 := kC.lt
    have c0 : wr.cell? ⟨w.heap.size, 0, none⟩ = some (.int .i64 now) := by rw [kC.cell]; rfl
    have c1 : wr.cell? ⟨w.heap.size, 1, none⟩ = some (.int .i64 mx) := by rw [kC.cell]; rfl
    have c2 : wr.cell? ⟨w.heap.size, 2, none⟩ = some (.slice A n c) := by rw [kC.cell]; rfl
    clear kC
    by_cases hlt : kk < n
    · have hltz : (kk : Int) < (n : Int) := by omega
      have hgez : (0 : Int) ≤ (kk : Int) := by omega
      have hk : kk < ls.length := by rw [HN.out]; exact hlt
      obtain ⟨b, o, rfl, hb, hel⟩ := HP.out (by omega)
      have e0 := hel wr BW.out kk hk 0 _ rfl
      have e1 := hel wr BW.out kk hk 1 _ rfl
      simp only [Nat.add_zero] at e0
      clear hel HP
      have hbw : b < wr.heap.size := Nat.lt_of_lt_of_le hb BW.out.size
      have hor : oddL now ls[kk] = (decide (ls[kk].v < 0) || (decide (now < ls[kk].v) || (decide (ls[kk].o < -1) || decide (4 ≤ ls[kk].o)))) := rfl
      have key : oddL now ls[kk] = true → mayL now mx ls = false := fun h => by
        cases hh : mayL now mx ls with
        | false => rfl
        | true =>
          have := odd_iff.2 (may_at hh kk hk)
          rw [h] at this
          cases this
      have KEY := Lib.hid key
      have HO := Lib.hid hor
      clear key hor
      generalize hx : ls[kk] = x at e0 e1 KEY HO
      have HX := Lib.hid hx
      clear hx
      have hBW : Below w.heap.size w (wr.alloc (.cells #[.int .i64 x.v, .int .i64 x.o] 40)) := BW.out.alloc BW.out.size _
      have HBW := Lib.hid hBW
      have KW2 := Lib.hid (Blk.alloc KW.out (.cells #[.int .i64 x.v, .int .i64 x.o] 40))
      clear hBW
      by_cases h1 : x.v < 0
      · go_wp2
        go_ret
        rw [KEY.out (by rw [HO.out]; simp [h1])]
        exact ⟨rfl, HBW.out⟩
      · by_cases h2 : now < x.v
        · go_wp2
          go_ret
          rw [KEY.out (by rw [HO.out]; simp [h2])]
          exact ⟨rfl, HBW.out⟩
        · by_cases h3 : x.o < -1
          · go_wp2
            go_ret
            rw [KEY.out (by rw [HO.out]; simp [h3])]
            exact ⟨rfl, HBW.out⟩
          · by_cases h4 : 4 ≤ x.o
            · go_wp2
              go_ret
              rw [KEY.out (by rw [HO.out]; simp [h4])]
              exact ⟨rfl, HBW.out⟩
            · go_wp2
              go_roundg (n - (kk + 1))
              case measure => omega
              case rel =>
                refine ⟨kk + 1, by omega, by omega, by go_num, HBW.out, KW2.out, (show Hid _ from fun j h hj => ?_)⟩
                by_cases e : j = kk
                · subst e
                  rw [HX.out, HO.out]
                  simp [h1, h2, h3, h4]
                · exact AA.out j h (by omega)
    · obtain rfl : n = kk := by omega
      have hltz : ¬ (n : Int) < (n : Int) := by omega
      have hany : ls.any (oddL now) = false := by
        rw [List.any_eq_false]
        intro y hy
        obtain ⟨j, hj, rfl⟩ := List.getElem_of_mem hy
        rw [AA.out j hj (by rw [HN.out] at hj; exact hj)]
        simp
      have HM := Lib.hid (show mayL now mx ls = (decide (mx ≤ 1000) && (decide (0 ≤ now) && (decide (now ≤ mx) && (decide (0 < n) && decide (n ≤ 8))))) from by unfold mayL; rw [hany, HN.out]; simp)
      clear hany HP
      by_cases h0 : 0 ≤ mx
      · by_cases h1 : mx ≤ 1000
        · by_cases h2 : 0 ≤ now
          · by_cases h3 : now ≤ mx
            · by_cases h4 : 1 ≤ n
              · have h4' : (1 : Int) ≤ (n : Int) := by omega
                have h4'' : 0 < n := by omega
                by_cases h5 : n ≤ 8
                · have h5' : (n : Int) ≤ 8 := by omega
                  go_wp2
                  go_ret
                  rw [HM.out]
                  exact ⟨by simp [h1, h2, h3, h4'', h5], BW.out⟩
                · have h5' : ¬ (n : Int) ≤ 8 := by omega
                  go_wp2
                  go_ret
                  rw [HM.out]
                  exact ⟨by simp [h5], BW.out⟩
              · have h4' : ¬ (1 : Int) ≤ (n : Int) := by omega
                have h4'' : n = 0 := by omega
                go_wp2
                go_ret
                rw [HM.out]
                exact ⟨by simp [h4''], BW.out⟩
            · go_wp2
              go_ret
              rw [HM.out]
              exact ⟨by simp; intros; omega, BW.out⟩
          · go_wp2
            go_ret
            rw [HM.out]
            exact ⟨by simp; intros; omega, BW.out⟩
        · go_wp2
          go_ret
          rw [HM.out]
          exact ⟨by simp; intros; omega, BW.out⟩
      · go_wp2
        go_ret
        rw [HM.out]
        refine ⟨?_, BW.out⟩
        simp
        intros
        omega
end Go.Proofs.Ytkmdifngljdpeaa
