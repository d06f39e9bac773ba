/- Several texts in one: RqMay, RqWith. -/
import Derived.Test.YtngimbfojccikaaStmTellsE
import Derived.Deep.DeepCutAuto
namespace Go.Proofs.Ytngimbfojccikaa
set_option linter.unusedSimpArgs false
open Go Go.RowKit
set_option linter.unusedVariables false

set_option maxHeartbeats 2000000 in
theorem rmay_any (now mx : Int) (sv : Value) (ls : List Lk) (w : World) (hv : Sl w 2 sv ls.length (ls.flatMap encL)) :
    Calls Try.prog 93 #[.agg #[.int .i64 now, .int .i64 mx, sv]] w fun e w' => e = .returned (.bool (mayL now mx ls)) ∧ Below w.heap.size w w' := by
  have hb0 : Below w.heap.size w (w.alloc (.cells #[.int .i64 now, .int .i64 mx, sv] 30)) := (Below.refl _ w).alloc (Nat.le_refl _) _
  have kB : Blk (w.alloc (.cells #[.int .i64 now, .int .i64 mx, sv] 30)) w.heap.size 30 #[.int .i64 now, .int .i64 mx, sv] := Blk.new_ w _ _ _ rfl
  obtain ⟨A, c, rfl, hc, hm⟩ := hv.form
  have hpos : 0 < ls.length → ∃ b o, A = some ⟨b, o, none⟩ ∧ b < w.heap.size ∧ ∀ (W : World), Below w.heap.size w W → ∀ j (hj : j < ls.length) i u, (encL ls[j])[i]? = some u → W.cell? ⟨b, o + j * 2 + i, none⟩ = some u := fun h => Sl.pos encL encL_len hv h
  clear hv
  obtain ⟨n, hn⟩ : ∃ n, ls.length = n := ⟨_, rfl⟩
  have HN := Lib.hid hn
  have hbig : n ≤ 9223372036854775807 := by unfold maxLen at hm; omega
  have HP := Lib.hid hpos
  rw [hn] at hb0 kB ⊢
  obtain ⟨w1, hw1⟩ : ∃ x, w.alloc (.cells #[.int .i64 now, .int .i64 mx, .slice A n c] 30) = x := ⟨_, rfl⟩
  have HW := Lib.hid hw1
  have HB := Lib.hid (hw1 ▸ hb0)
  have HK := Lib.hid (hw1 ▸ kB)
  clear hn hc hm hpos hb0 kB hw1
  go_enter Try.func93, Try.ntmps93
  go_wp2
  rw [HW.out]
  clear HW
  go_loopg [3] n (fun gg s3 wr => ∃ kk : Nat, kk ≤ n ∧ n - kk ≤ gg ∧ s3 = .int .i64 kk ∧ Hid (Below w.heap.size w wr) ∧ Hid (Blk wr w.heap.size 30 #[.int .i64 now, .int .i64 mx, .slice A n c]) ∧ Hid (∀ j (h : j < ls.length), j < kk → oddL now ls[j] = false))
  case atStart => exact ⟨0, Nat.zero_le _, by omega, rfl, HB.out, HK.out, fun j _ hj => absurd hj (Nat.not_lt_zero _)⟩
  case round =>
    obtain ⟨kk, hkk, hg, rfl, BW, KW, AA⟩ := hrel
    clear HB HK
    have kC := KW.out
    have l0 := kC.lt
    have c0 : wr.cell? ⟨w.heap.size, 0, none⟩ = some (.int .i64 now) := by rw [kC.cell]; rfl
    have c1 : wr.cell? ⟨w.heap.size, 1, none⟩ = some (.int .i64 mx) := by rw [kC.cell]; rfl
    have c2 : wr.cell? ⟨w.heap.size, 2, none⟩ = some (.slice A n c) := by rw [kC.cell]; rfl
    clear kC
    by_cases hlt : kk < n
    · have hltz : (kk : Int) < (n : Int) := by omega
      have hgez : (0 : Int) ≤ (kk : Int) := by omega
      have hk : kk < ls.length := by rw [HN.out]; exact hlt
      obtain ⟨b, o, rfl, hb, hel⟩ := HP.out (by omega)
      have e0 := hel wr BW.out kk hk 0 _ rfl
      have e1 := hel wr BW.out kk hk 1 _ rfl
      simp only [Nat.add_zero] at e0
      clear hel HP
      have hbw : b < wr.heap.size := Nat.lt_of_lt_of_le hb BW.out.size
      have hor : oddL now ls[kk] = (decide (ls[kk].v < 0) || (decide (now < ls[kk].v) || (decide (ls[kk].o < -1) || decide (4 ≤ ls[kk].o)))) := rfl
      have key : oddL now ls[kk] = true → mayL now mx ls = false := fun h => by
        cases hh : mayL now mx ls with
        | false => rfl
        | true =>
          have := odd_iff.2 (may_at hh kk hk)
          rw [h] at this
          cases this
      have KEY := Lib.hid key
      have HO := Lib.hid hor
      clear key hor
      generalize hx : ls[kk] = x at e0 e1 KEY HO
      have HX := Lib.hid hx
      clear hx
      have hBW : Below w.heap.size w (wr.alloc (.cells #[.int .i64 x.v, .int .i64 x.o] 43)) := BW.out.alloc BW.out.size _
      have HBW := Lib.hid hBW
      have KW2 := Lib.hid (Blk.alloc KW.out (.cells #[.int .i64 x.v, .int .i64 x.o] 43))
      clear hBW
      by_cases h1 : x.v < 0
      · go_wp2
        go_ret
        rw [KEY.out (by rw [HO.out]; simp [h1])]
        exact ⟨rfl, HBW.out⟩
      · by_cases h2 : now < x.v
        · go_wp2
          go_ret
          rw [KEY.out (by rw [HO.out]; simp [h2])]
          exact ⟨rfl, HBW.out⟩
        · by_cases h3 : x.o < -1
          · go_wp2
            go_ret
            rw [KEY.out (by rw [HO.out]; simp [h3])]
            exact ⟨rfl, HBW.out⟩
          · by_cases h4 : 4 ≤ x.o
            · go_wp2
              go_ret
              rw [KEY.out (by rw [HO.out]; simp [h4])]
              exact ⟨rfl, HBW.out⟩
            · go_wp2
              go_roundg (n - (kk + 1))
              case measure => omega
              case rel =>
                refine ⟨kk + 1, by omega, by omega, by go_num, HBW.out, KW2.out, (show Hid _ from fun j h hj => ?_)⟩
                by_cases e : j = kk
                · subst e
                  rw [HX.out, HO.out]
                  simp [h1, h2, h3, h4]
                · exact AA.out j h (by omega)
    · obtain rfl : n = kk := by omega
      have hltz : ¬ (n : Int) < (n : Int) := by omega
      have hany : ls.any (oddL now) = false := by
        rw [List.any_eq_false]
        intro y hy
        obtain ⟨j, hj, rfl⟩ := List.getElem_of_mem hy
        rw [AA.out j hj (by rw [HN.out] at hj; exact hj)]
        simp
      have HM := Lib.hid (show mayL now mx ls = (decide (mx ≤ 1000) && (decide (0 ≤ now) && (decide (now ≤ mx) && (decide (0 < n) && decide (n ≤ 8))))) from by unfold mayL; rw [hany, HN.out]; simp)
      clear hany HP
      by_cases h0 : 0 ≤ mx
      · by_cases h1 : mx ≤ 1000
        · by_cases h2 : 0 ≤ now
          · by_cases h3 : now ≤ mx
            · by_cases h4 : 1 ≤ n
              · have h4' : (1 : Int) ≤ (n : Int) := by omega
                have h4'' : 0 < n := by omega
                by_cases h5 : n ≤ 8
                · have h5' : (n : Int) ≤ 8 := by omega
                  go_wp2
                  go_ret
                  rw [HM.out]
                  exact ⟨by simp [h1, h2, h3, h4'', h5], BW.out⟩
                · have h5' : ¬ (n : Int) ≤ 8 := by omega
                  go_wp2
                  go_ret
                  rw [HM.out]
                  exact ⟨by simp [h5], BW.out⟩
              · have h4' : ¬ (1 : Int) ≤ (n : Int) := by omega
                have h4'' : n = 0 := by omega
                go_wp2
                go_ret
                rw [HM.out]
                exact ⟨by simp [h4''], BW.out⟩
            · go_wp2
              go_ret
              rw [HM.out]
              exact ⟨by simp; intros; omega, BW.out⟩
          · go_wp2
            go_ret
            rw [HM.out]
            exact ⟨by simp; intros; omega, BW.out⟩
        · go_wp2
          go_ret
          rw [HM.out]
          exact ⟨by simp; intros; omega, BW.out⟩
      · go_wp2
        go_ret
        rw [HM.out]
        refine ⟨?_, BW.out⟩
        simp
        intros
        omega
end Go.Proofs.Ytngimbfojccikaa
namespace Go.Proofs.Ytngimbfojccikaa
set_option linter.unusedSimpArgs false
open Go Go.RowKit
set_option linter.unusedVariables false
attribute [local go_sem ↓] Go.wp_at_zero Go.wp_at_succ

theorem Sl.news {w : World} {k b o n c : Nat} {vs : List Value} (h : Sl w k (.slice (some ⟨b, o, none⟩) n c) n vs) (h0 : 0 < n) (W : World) (hW : Below w.heap.size w W) (j : Nat) (u : Value) (hu : vs[j]? = some u) : W.cell? ⟨b, o + j, none⟩ = some u := by
  rcases h.2 with ⟨he, _⟩ | ⟨a, c', he, _, _, hr⟩
  · cases he
  · injection he with h1 _ _
    injection h1 with h1
    subst h1
    exact ((hr h0).2.same hW).2 j u hu

set_option maxHeartbeats 2000000 in
theorem with_any (v : Value) (now mx : Int) (k : Nat) (y : Lk) (ls : List Lk) (w : World) (hv : LkV w v now mx ls) (hk : k < ls.length) (hn : ls.length ≤ 1000) :
    Calls Try.prog 94 #[v, .int .i64 (k : Int), .agg (encL y).toArray] w fun e w' => ∃ v', e = .returned v' ∧ LkO w' w.heap.size v' now mx (ls.set k y) ∧ Below w.heap.size w w' := by
  obtain ⟨i0, hi0, hz0, hz1, hz2⟩ := info_parts clone_lock_info
  obtain ⟨A, c, rfl, hv⟩ := hv.form
  obtain ⟨b, o, rfl, hlt, hel⟩ := Sl.pos encL encL_len hv.sl (by omega)
  have hsl := hv.sl
  simp only [encL]
  obtain ⟨w1, hw1⟩ : ∃ x, ((w.alloc (.cells #[.int .i64 now, .int .i64 mx, .slice (some ⟨b, o, none⟩) ls.length c] 30)).alloc (.cells #[.int .i64 y.v, .int .i64 y.o] 43)).alloc (.cells #[.int .i64 0, .int .i64 0, .slice none 0 0] 30) = x := ⟨_, rfl⟩
  have hb0 : Below w.heap.size w w1 := hw1 ▸ (((Below.refl _ w).alloc (Nat.le_refl _) _).alloc (by simp) _).alloc (by simp; omega) _
  have k0 : Blk w1 w.heap.size 30 #[.int .i64 now, .int .i64 mx, .slice (some ⟨b, o, none⟩) ls.length c] := hw1 ▸ ((Blk.new_ w _ _ _ rfl).alloc _).alloc _
  have k1 : Blk w1 (w.heap.size + 1) 43 #[.int .i64 y.v, .int .i64 y.o] := hw1 ▸ (Blk.new_ _ _ _ _ (by simp)).alloc _
  have k2 : Blk w1 (w.heap.size + 2) 30 #[.int .i64 0, .int .i64 0, .slice none 0 0] := hw1 ▸ Blk.new_ _ _ _ _ (by simp)
  have hsz : w1.heap.size = w.heap.size + 3 := by rw [← hw1]; simp
  have hnews : ∀ j u, (ls.flatMap encL)[j]? = some u → w1.cell? ((⟨b, o, none⟩ : Addr).add j) = some u := by
    intro j u hu
    rw [add_none]
    exact hsl.news (by omega) w1 hb0 j u hu
  have hl : (ls.flatMap encL).length = ls.length * 2 := by rw [flat_len encL encL_len]
  have h1 := flat_one ls
  have HW := Lib.hid hw1
  clear hv hel hsl hw1
  have s0 : w1.cell? ⟨w.heap.size, 0, none⟩ = some (.int .i64 now) := by rw [k0.cell]; rfl
  have s1 : w1.cell? ⟨w.heap.size, 1, none⟩ = some (.int .i64 mx) := by rw [k0.cell]; rfl
  have s2 : w1.cell? ⟨w.heap.size, 2, none⟩ = some (.slice (some ⟨b, o, none⟩) ls.length c) := by rw [k0.cell]; rfl
  have sf0 : w1.frozen? ⟨w.heap.size, 0, none⟩ = false := k0.free 0
  have sf1 : w1.frozen? ⟨w.heap.size, 1, none⟩ = false := k0.free 1
  have sf2 : w1.frozen? ⟨w.heap.size, 2, none⟩ = false := k0.free 2
  have p0 : w1.cell? ⟨w.heap.size + 2, 0, none⟩ = some (.int .i64 0) := by rw [k2.cell]; rfl
  have p1 : w1.cell? ⟨w.heap.size + 2, 1, none⟩ = some (.int .i64 0) := by rw [k2.cell]; rfl
  have p2 : w1.cell? ⟨w.heap.size + 2, 2, none⟩ = some (.slice none 0 0) := by rw [k2.cell]; rfl
  have pf0 : w1.frozen? ⟨w.heap.size + 2, 0, none⟩ = false := k2.free 0
  have pf1 : w1.frozen? ⟨w.heap.size + 2, 1, none⟩ = false := k2.free 1
  have pf2 : w1.frozen? ⟨w.heap.size + 2, 2, none⟩ = false := k2.free 2
  have a0 : w1.cell? ⟨w.heap.size + 1, 0, none⟩ = some (.int .i64 y.v) := by rw [k1.cell]; rfl
  have a1 : w1.cell? ⟨w.heap.size + 1, 1, none⟩ = some (.int .i64 y.o) := by rw [k1.cell]; rfl
  have af0 : w1.frozen? ⟨w.heap.size + 1, 0, none⟩ = false := k1.free 0
  have af1 : w1.frozen? ⟨w.heap.size + 1, 1, none⟩ = false := k1.free 1
  have hk0 : (0 : Int) ≤ (k : Int) := by omega
  have hk1 : (k : Int) < (ls.length : Int) := by omega
  have HB := Lib.hid hb0
  clear hb0
  go_enter Try.func94, Try.ntmps94
  go_upto_region 1 with fail
  rw [HW.out]
  clear HW
  go_wp2_with (at_builtin; refine wpList_append_own_at _ rfl (.const (.slice none 0 0)) (.tmp 8) _ rfl w1.heap.size 43 i0 _ 2 16 Try.underlying28 hi0 hz0 hz1 hz2 rfl (by omega) (.slice none 0 0) 0 [] rfl (World.ownsRow_nil _ _ _ _) ⟨b, o, none⟩ ls.length c (ls.flatMap encL) rfl hl hnews h1 (by unfold maxLen; omega) (by omega) (by simp) ?_; intro v1 w2 hown hgrow _ _; simp only [Nat.zero_add, List.nil_append] at hown; obtain ⟨g, cap, cur, rfl, hg, hrow, hc1, hc2, hc3, hc4⟩ := own_form hown (by omega); obtain ⟨hgl, e0, e1, hfr⟩ := RowL.elem (ls := ls) hown k hk; have t0 := (hgrow.cell_far ⟨w.heap.size, 0, none⟩ (by rw [hsz]; simp; try omega) (by simp [Value.ownBlock])).trans s0; have tf0 := (hgrow.frozen_far ⟨w.heap.size, 0, none⟩ (by rw [hsz]; simp; try omega) (by simp [Value.ownBlock])).trans sf0; have t1 := (hgrow.cell_far ⟨w.heap.size, 1, none⟩ (by rw [hsz]; simp; try omega) (by simp [Value.ownBlock])).trans s1; have tf1 := (hgrow.frozen_far ⟨w.heap.size, 1, none⟩ (by rw [hsz]; simp; try omega) (by simp [Value.ownBlock])).trans sf1; have t2 := (hgrow.cell_far ⟨w.heap.size, 2, none⟩ (by rw [hsz]; simp; try omega) (by simp [Value.ownBlock])).trans s2; have tf2 := (hgrow.frozen_far ⟨w.heap.size, 2, none⟩ (by rw [hsz]; simp; try omega) (by simp [Value.ownBlock])).trans sf2; have b0 := (hgrow.cell_far ⟨w.heap.size + 1, 0, none⟩ (by rw [hsz]; simp; try omega) (by simp [Value.ownBlock])).trans a0; have bf0 := (hgrow.frozen_far ⟨w.heap.size + 1, 0, none⟩ (by rw [hsz]; simp; try omega) (by simp [Value.ownBlock])).trans af0; have b1 := (hgrow.cell_far ⟨w.heap.size + 1, 1, none⟩ (by rw [hsz]; simp; try omega) (by simp [Value.ownBlock])).trans a1; have bf1 := (hgrow.frozen_far ⟨w.heap.size + 1, 1, none⟩ (by rw [hsz]; simp; try omega) (by simp [Value.ownBlock])).trans af1; have q0 := (hgrow.cell_far ⟨w.heap.size + 2, 0, none⟩ (by rw [hsz]; simp; try omega) (by simp [Value.ownBlock])).trans p0; have qf0 := (hgrow.frozen_far ⟨w.heap.size + 2, 0, none⟩ (by rw [hsz]; simp; try omega) (by simp [Value.ownBlock])).trans pf0; have q1 := (hgrow.cell_far ⟨w.heap.size + 2, 1, none⟩ (by rw [hsz]; simp; try omega) (by simp [Value.ownBlock])).trans p1; have qf1 := (hgrow.frozen_far ⟨w.heap.size + 2, 1, none⟩ (by rw [hsz]; simp; try omega) (by simp [Value.ownBlock])).trans pf1; have q2 := (hgrow.cell_far ⟨w.heap.size + 2, 2, none⟩ (by rw [hsz]; simp; try omega) (by simp [Value.ownBlock])).trans p2; have qf2 := (hgrow.frozen_far ⟨w.heap.size + 2, 2, none⟩ (by rw [hsz]; simp; try omega) (by simp [Value.ownBlock])).trans pf2; have n0 : ¬ g = w.heap.size := (by omega); have n1 : ¬ g = w.heap.size + 1 := (by omega); have n2 : ¬ g = w.heap.size + 2 := (by omega); have n3 : ¬ w.heap.size = g := (by omega); have n4 : ¬ w.heap.size + 1 = g := (by omega); have n5 : ¬ w.heap.size + 2 = g := (by omega); have hgle : w.heap.size + 3 ≤ g := (by omega); have HO := Lib.hid hown; have HG := Lib.hid hgrow; clear hown hgrow hrow hg hc1 hc2 hc3 hc4)
  refine bodyPost_ret (v := .agg #[.int .i64 now, .int .i64 mx, .slice (some ⟨g, 0, none⟩) ls.length cap]) (by simp [results, Try.results94, go_sem, q0, q1, q2]) rfl ⟨_, rfl, ⟨_, rfl, ?_⟩, ?_⟩
  · have r0 : RowL _ w1.heap.size (.slice (some ⟨g, 0, none⟩) ls.length cap) ls := ownsRow_setCell_below HO.out (a := ⟨w.heap.size, 2, none⟩) (by first | (rw [hsz]; simp; done) | (rw [hsz]; simp; omega)) (.slice (some ⟨g, 0, none⟩) ls.length cap)
    have r1 := r0.set k hk 0 (by omega) (.int .i64 y.v) ⟨y.v, ls[k].o⟩ rfl
    have r2 := r1.set k (by simpa using hk) 1 (by omega) (.int .i64 y.o) y (by simp [encL])
    rw [List.set_set] at r2
    unfold RowL at r2
    have r3 := ownsRow_mono (ownsRow_setCell_below (ownsRow_setCell_below (ownsRow_setCell_below r2 (a := ⟨w.heap.size + 1 + 1, 0, none⟩) (by first | (rw [hsz]; simp; done) | (rw [hsz]; simp; omega)) (.int .i64 now)) (a := ⟨w.heap.size + 1 + 1, 1, none⟩) (by first | (rw [hsz]; simp; done) | (rw [hsz]; simp; omega)) (.int .i64 mx)) (a := ⟨w.heap.size + 1 + 1, 2, none⟩) (by first | (rw [hsz]; simp; done) | (rw [hsz]; simp; omega)) (.slice (some ⟨g, 0, none⟩) ls.length cap)) (show w.heap.size ≤ w1.heap.size by omega)
    unfold RowL
    rw [List.length_set] at r3 ⊢
    exact r3
  · exact (((((((HB.out.grown HG.out (by omega) (by simp [Value.ownBlock])).setCell (by simp) _).setCell (by simp; omega) _).setCell (by simp; omega) _).setCell (by simp; omega) _).setCell (by simp; omega) _).setCell (by simp; omega) _)
end Go.Proofs.Ytngimbfojccikaa
