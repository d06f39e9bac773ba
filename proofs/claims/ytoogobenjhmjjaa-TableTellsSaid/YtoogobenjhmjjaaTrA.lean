/- Several texts in one: TrMay, TrWith, TrApi, TrAlloc. -/
import Derived.Test.YtoogobenjhmjjaaTbPl
import Derived.Deep.DeepCutAuto
import Derived.Test.YtoogobenjhmjjaaCopy
import Derived.RegionTactic
namespace Go.Proofs.Ytoogobenjhmjjaa
open Go Go.RowKit
set_option linter.unusedVariables false
attribute [local go_sem ↓] Go.wp_at_zero Go.wp_at_succ

set_option maxHeartbeats 2000000 in
theorem rmay_any (cap : Int) (sv : Value) (ps : List Pg) (w : World) (hv : Sl w 5 sv ps.length (ps.flatMap encP)) :
    Calls Try.prog 50 #[.agg #[.int .i64 cap, sv]] w fun e w' => e = .returned (.bool (mayP cap ps)) ∧ Below w.heap.size w w' := by
  have hb0 : Below w.heap.size w (w.alloc (.cells #[.int .i64 cap, sv] 25)) := (Below.refl _ w).alloc (Nat.le_refl _) _
  have kB : Blk (w.alloc (.cells #[.int .i64 cap, sv] 25)) w.heap.size 25 #[.int .i64 cap, sv] := Blk.new_ w _ _ _ rfl
  obtain ⟨A, c, rfl, hc, hm⟩ := hv.form
  have hpos : 0 < ps.length → ∃ b o, A = some ⟨b, o, none⟩ ∧ b < w.heap.size ∧ ∀ (W : World), Below w.heap.size w W → ∀ j (hj : j < ps.length) i u, (encP ps[j])[i]? = some u → W.cell? ⟨b, o + j * 5 + i, none⟩ = some u := fun h => Sl.pos encP encP_len hv h
  clear hv
  obtain ⟨n, hn⟩ : ∃ n, ps.length = n := ⟨_, rfl⟩
  have HN := Lib.hid hn
  have hbig : n ≤ 9223372036854775807 := by unfold maxLen at hm; omega
  have HP := Lib.hid hpos
  rw [hn] at hb0 kB ⊢
  obtain ⟨w1, hw1⟩ : ∃ x, w.alloc (.cells #[.int .i64 cap, .slice A n c] 25) = x := ⟨_, rfl⟩
  have HW := Lib.hid hw1
  have HB := Lib.hid (hw1 ▸ hb0)
  have HK := Lib.hid (hw1 ▸ kB)
  clear hn hc hm hpos hb0 kB hw1
  go_enter Try.func50, Try.ntmps50
  go_wp2
  rw [HW.out]
  clear HW
  go_loopg [3] n (fun gg s3 wr => ∃ kk : Nat, kk ≤ n ∧ n - kk ≤ gg ∧ s3 = .int .i64 kk ∧ Hid (Below w.heap.size w wr) ∧ Hid (Blk wr w.heap.size 25 #[.int .i64 cap, .slice A n c]) ∧ Hid (∀ j (h : j < ps.length), j < kk → oddP ps[j] = false))
  case atStart => exact ⟨0, Nat.zero_le _, by omega, rfl, HB.out, HK.out, fun j _ hj => absurd hj (Nat.not_lt_zero _)⟩
  case round =>
    obtain ⟨kk, hkk, hg, rfl, BW, KW, AA⟩ := hrel
    clear HB HK
    have kC := KW.out
    have l0 := kC.lt
    have c0 : wr.cell? ⟨w.heap.size, 0, none⟩ = some (.int .i64 cap) := by rw [kC.cell]; rfl
    have c1 : wr.cell? ⟨w.heap.size, 1, none⟩ = some (.slice A n c) := by rw [kC.cell]; rfl
    clear kC
    by_cases hlt : kk < n
    · have hltz : (kk : Int) < (n : Int) := by omega
      have hgez : (0 : Int) ≤ (kk : Int) := by omega
      have hk : kk < ps.length := by rw [HN.out]; exact hlt
      obtain ⟨b, o, rfl, hb, hel⟩ := HP.out (by omega)
      have e0 := hel wr BW.out kk hk 0 _ rfl
      have e1 := hel wr BW.out kk hk 1 _ rfl
      have e2 := hel wr BW.out kk hk 2 _ rfl
      have e3 := hel wr BW.out kk hk 3 _ rfl
      have e4 := hel wr BW.out kk hk 4 _ rfl
      simp only [Nat.add_zero] at e0
      clear hel HP
      have hbw : b < wr.heap.size := Nat.lt_of_lt_of_le hb BW.out.size
      have hor : oddP ps[kk] = (decide (ps[kk].r < 0) || (decide (1000 < ps[kk].r) || (ps[kk].r == 0 && !pgEq ps[kk] ⟨0, 0, 0, 0, 0⟩))) := rfl
      have KEY := Lib.hid (fun h : oddP ps[kk] = true => show mayP cap ps = false from by
        cases hh : mayP cap ps with
        | false => rfl
        | true =>
          have := may_odd hh kk hk
          rw [h] at this
          cases this)
      have HO := Lib.hid hor
      clear hor
      generalize hx : ps[kk] = x at e0 e1 e2 e3 e4 KEY HO
      have HX := Lib.hid hx
      clear hx
      have HBW := Lib.hid (show Below w.heap.size w (wr.alloc (.cells #[.int .i64 x.r, .int .i64 x.a, .int .i64 x.b, .int .i64 x.c, .int .i64 x.d] 54)) from BW.out.alloc BW.out.size _)
      have KW2 := Lib.hid (Blk.alloc KW.out (.cells #[.int .i64 x.r, .int .i64 x.a, .int .i64 x.b, .int .i64 x.c, .int .i64 x.d] 54))
      have hne := fun w => neq_page x ⟨0, 0, 0, 0, 0⟩ w
      have hgd := fun a b w => guard_page .neq a b x ⟨0, 0, 0, 0, 0⟩ w
      generalize hq : pgEq x ⟨0, 0, 0, 0, 0⟩ = q at hne
      have HQ := Lib.hid hq
      clear hq
      simp only [encP] at hne hgd
      by_cases h1 : x.r < 0
      · go_wp2
        go_ret
        rw [KEY.out (by rw [HO.out]; simp [h1])]
        exact ⟨rfl, HBW.out⟩
      · by_cases h2 : 1000 < x.r
        · go_wp2
          go_ret
          rw [KEY.out (by rw [HO.out]; simp [h2])]
          exact ⟨rfl, HBW.out⟩
        · cases h3 : (x.r == 0) with
          | true =>
            cases q with
            | false =>
              go_wp2
              go_ret
              rw [KEY.out (by rw [HO.out]; simp [h3, HQ.out])]
              exact ⟨rfl, HBW.out⟩
            | true =>
              go_wp2
              go_roundg (n - (kk + 1))
              case measure => omega
              case rel =>
                refine ⟨kk + 1, by omega, by omega, by go_num, HBW.out, KW2.out, (show Hid _ from fun j h hj => ?_)⟩
                by_cases e : j = kk
                · subst e
                  rw [HX.out, HO.out]
                  simp [h1, h2, HQ.out]
                · exact AA.out j h (by omega)
          | false =>
            go_wp2
            go_roundg (n - (kk + 1))
            case measure => omega
            case rel =>
              refine ⟨kk + 1, by omega, by omega, by go_num, HBW.out, KW2.out, (show Hid _ from fun j h hj => ?_)⟩
              by_cases e : j = kk
              · subst e
                rw [HX.out, HO.out]
                simp [h1, h2, h3]
              · exact AA.out j h (by omega)
    · obtain rfl : n = kk := by omega
      have hltz : ¬ (n : Int) < (n : Int) := by omega
      have hany : ps.any oddP = false := by
        rw [List.any_eq_false]
        intro y hy
        obtain ⟨j, hj, rfl⟩ := List.getElem_of_mem hy
        rw [AA.out j hj (by rw [HN.out] at hj; exact hj)]
        simp
      have HM := Lib.hid (show mayP cap ps = (decide (0 ≤ cap) && (decide (cap ≤ 12) && decide ((n : Int) ≤ cap))) from by unfold mayP; rw [hany, HN.out]; simp)
      clear hany HP
      by_cases h0 : 0 ≤ cap
      · by_cases h1 : cap ≤ 12
        · go_wp2
          go_ret
          rw [HM.out]
          exact ⟨by simp [h0, h1], BW.out⟩
        · go_wp2
          go_ret
          rw [HM.out]
          exact ⟨by simp; intros; omega, BW.out⟩
      · go_wp2
        go_ret
        rw [HM.out]
        exact ⟨by simp; intros; omega, BW.out⟩

end Go.Proofs.Ytoogobenjhmjjaa
namespace Go.Proofs.Ytoogobenjhmjjaa
open Go Go.RowKit
set_option linter.unusedVariables false
attribute [local go_sem ↓] Go.wp_at_zero Go.wp_at_succ

/-- A store whose row is new: none from below base. -/
def StO (w : World) (base : Nat) (v : Value) (cap : Int) (ps : List Pg) : Prop := ∃ sv, v = .agg #[.int .i64 cap, sv] ∧ w.ownsRow base 54 5 sv ps.length (ps.flatMap encP)

theorem StO.to {w : World} {base : Nat} {v : Value} {cap : Int} {ps : List Pg} (h : StO w base v cap ps) : StV w v cap ps := by
  obtain ⟨sv, rfl, h⟩ := h
  exact ⟨sv, rfl, Sl.of_own h⟩

theorem Sl.news {w : World} {k b o n c : Nat} {vs : List Value} (h : Sl w k (.slice (some ⟨b, o, none⟩) n c) n vs) (h0 : 0 < n) (W : World) (hW : Below w.heap.size w W) (j : Nat) (u : Value) (hu : vs[j]? = some u) : W.cell? ⟨b, o + j, none⟩ = some u := by
  rcases h.2 with ⟨he, _⟩ | ⟨a, c', he, _, _, hr⟩
  · cases he
  · injection he with h1 _ _
    injection h1 with h1
    subst h1
    exact ((hr h0).2.same hW).2 j u hu

theorem pg_elem {w : World} {base g c : Nat} {ps : List Pg} (h : w.ownsRow base 54 5 (.slice (some ⟨g, 0, none⟩) ps.length c) ps.length (ps.flatMap encP)) (k : Nat) (hk : k < ps.length) :
    g < w.heap.size ∧ (∀ i u, (encP ps[k])[i]? = some u → w.cell? ⟨g, k * 5 + i, none⟩ = some u) ∧ ∀ o, w.frozen? ⟨g, o, none⟩ = false := by
  obtain ⟨g', c', he, _, hg, _, _, hel, hfr⟩ := own_elem encP encP_len h k hk
  injection he with h1 _ _
  injection h1 with h1
  injection h1 with h1
  subst h1
  exact ⟨hg, hel, hfr⟩

set_option maxHeartbeats 2000000 in
theorem with_any (v : Value) (cap : Int) (k : Nat) (y : Pg) (ps : List Pg) (w : World) (hv : StV w v cap ps) (hk : k < ps.length) (hn : ps.length ≤ 1000) :
    Calls Try.prog 64 #[v, .int .i64 (k : Int), .agg (encP y).toArray] w fun e w' => ∃ v', e = .returned v' ∧ StO w' w.heap.size v' cap (ps.set k y) ∧ Below w.heap.size w w' := by
  obtain ⟨i0, hi0, hz0, hz1, hz2⟩ := info_parts clone_page_info
  obtain ⟨A, c, rfl, hv⟩ := hv.form
  have hsl := hv.sl
  obtain ⟨b, o, rfl, hlt, -⟩ := Sl.pos encP encP_len hsl (by omega)
  simp only [encP]
  obtain ⟨w1, hw1⟩ : ∃ x, ((w.alloc (.cells #[.int .i64 cap, .slice (some ⟨b, o, none⟩) ps.length c] 25)).alloc (.cells #[.int .i64 y.r, .int .i64 y.a, .int .i64 y.b, .int .i64 y.c, .int .i64 y.d] 54)).alloc (.cells #[.int .i64 0, .slice none 0 0] 25) = x := ⟨_, rfl⟩
  have hb0 : Below w.heap.size w w1 := hw1 ▸ (((Below.refl _ w).alloc (Nat.le_refl _) _).alloc (by simp) _).alloc (by simp; omega) _
  have k0 : Blk w1 w.heap.size 25 #[.int .i64 cap, .slice (some ⟨b, o, none⟩) ps.length c] := hw1 ▸ ((Blk.new_ w _ _ _ rfl).alloc _).alloc _
  have k1 : Blk w1 (w.heap.size + 1) 54 #[.int .i64 y.r, .int .i64 y.a, .int .i64 y.b, .int .i64 y.c, .int .i64 y.d] := hw1 ▸ (Blk.new_ _ _ _ _ (by simp)).alloc _
  have k2 : Blk w1 (w.heap.size + 2) 25 #[.int .i64 0, .slice none 0 0] := hw1 ▸ Blk.new_ _ _ _ _ (by simp)
  have hsz : w1.heap.size = w.heap.size + 3 := by rw [← hw1]; simp
  have hnews : ∀ j u, (ps.flatMap encP)[j]? = some u → w1.cell? ((⟨b, o, none⟩ : Addr).add j) = some u := by
    intro j u hu
    rw [add_none]
    exact hsl.news (by omega) w1 hb0 j u hu
  have hl : (ps.flatMap encP).length = ps.length * 5 := by rw [flat_len encP encP_len]
  have h1 := encP_one ps
  have HW := Lib.hid hw1
  clear hv hsl hw1
  have s0 : w1.cell? ⟨w.heap.size, 0, none⟩ = some (.int .i64 cap) := by rw [k0.cell]; rfl
  have sf0 : w1.frozen? ⟨w.heap.size, 0, none⟩ = false := k0.free 0
  have s1 : w1.cell? ⟨w.heap.size, 1, none⟩ = some (.slice (some ⟨b, o, none⟩) ps.length c) := by rw [k0.cell]; rfl
  have sf1 : w1.frozen? ⟨w.heap.size, 1, none⟩ = false := k0.free 1
  have a0 : w1.cell? ⟨w.heap.size + 1, 0, none⟩ = some (.int .i64 y.r) := by rw [k1.cell]; rfl
  have af0 : w1.frozen? ⟨w.heap.size + 1, 0, none⟩ = false := k1.free 0
  have a1 : w1.cell? ⟨w.heap.size + 1, 1, none⟩ = some (.int .i64 y.a) := by rw [k1.cell]; rfl
  have af1 : w1.frozen? ⟨w.heap.size + 1, 1, none⟩ = false := k1.free 1
  have a2 : w1.cell? ⟨w.heap.size + 1, 2, none⟩ = some (.int .i64 y.b) := by rw [k1.cell]; rfl
  have af2 : w1.frozen? ⟨w.heap.size + 1, 2, none⟩ = false := k1.free 2
  have a3 : w1.cell? ⟨w.heap.size + 1, 3, none⟩ = some (.int .i64 y.c) := by rw [k1.cell]; rfl
  have af3 : w1.frozen? ⟨w.heap.size + 1, 3, none⟩ = false := k1.free 3
  have a4 : w1.cell? ⟨w.heap.size + 1, 4, none⟩ = some (.int .i64 y.d) := by rw [k1.cell]; rfl
  have af4 : w1.frozen? ⟨w.heap.size + 1, 4, none⟩ = false := k1.free 4
  have p0 : w1.cell? ⟨w.heap.size + 2, 0, none⟩ = some (.int .i64 0) := by rw [k2.cell]; rfl
  have pf0 : w1.frozen? ⟨w.heap.size + 2, 0, none⟩ = false := k2.free 0
  have p1 : w1.cell? ⟨w.heap.size + 2, 1, none⟩ = some (.slice none 0 0) := by rw [k2.cell]; rfl
  have pf1 : w1.frozen? ⟨w.heap.size + 2, 1, none⟩ = false := k2.free 1
  have hk0 : (0 : Int) ≤ (k : Int) := by omega
  have hk1 : (k : Int) < (ps.length : Int) := by omega
  have HB := Lib.hid hb0
  clear hb0
  go_enter Try.func64, Try.ntmps64
  go_upto_region 1 with fail
  rw [HW.out]
  clear HW
  go_wp2_with (at_builtin; refine wpList_append_own_at _ rfl (.const (.slice none 0 0)) (.tmp 8) _ rfl w1.heap.size 54 i0 _ 5 40 Try.underlying23 hi0 hz0 hz1 hz2 rfl (by omega) (.slice none 0 0) 0 [] rfl (World.ownsRow_nil _ _ _ _) ⟨b, o, none⟩ ps.length c (ps.flatMap encP) rfl hl hnews h1 (by unfold maxLen; omega) (by omega) (by simp) ?_; intro v1 w2 hown hgrow _ _; simp only [Nat.zero_add, List.nil_append] at hown; obtain ⟨g, gc, cur, rfl, hg, hrow, hc1, hc2, hc3, hc4⟩ := own_form hown (by omega); obtain ⟨hgl, hel, hfr⟩ := pg_elem hown k hk; have e0 := hel 0 _ rfl; have e1 := hel 1 _ rfl; have e2 := hel 2 _ rfl; have e3 := hel 3 _ rfl; have e4 := hel 4 _ rfl; simp only [Nat.add_zero] at e0; have t0' := (hgrow.cell_far ⟨w.heap.size, 0, none⟩ (by rw [hsz]; simp; try omega) (by simp [Value.ownBlock])).trans s0; have tf0' := (hgrow.frozen_far ⟨w.heap.size, 0, none⟩ (by rw [hsz]; simp; try omega) (by simp [Value.ownBlock])).trans sf0; have t1' := (hgrow.cell_far ⟨w.heap.size, 1, none⟩ (by rw [hsz]; simp; try omega) (by simp [Value.ownBlock])).trans s1; have tf1' := (hgrow.frozen_far ⟨w.heap.size, 1, none⟩ (by rw [hsz]; simp; try omega) (by simp [Value.ownBlock])).trans sf1; have b0' := (hgrow.cell_far ⟨w.heap.size + 1, 0, none⟩ (by rw [hsz]; simp; try omega) (by simp [Value.ownBlock])).trans a0; have bf0' := (hgrow.frozen_far ⟨w.heap.size + 1, 0, none⟩ (by rw [hsz]; simp; try omega) (by simp [Value.ownBlock])).trans af0; have b1' := (hgrow.cell_far ⟨w.heap.size + 1, 1, none⟩ (by rw [hsz]; simp; try omega) (by simp [Value.ownBlock])).trans a1; have bf1' := (hgrow.frozen_far ⟨w.heap.size + 1, 1, none⟩ (by rw [hsz]; simp; try omega) (by simp [Value.ownBlock])).trans af1; have b2' := (hgrow.cell_far ⟨w.heap.size + 1, 2, none⟩ (by rw [hsz]; simp; try omega) (by simp [Value.ownBlock])).trans a2; have bf2' := (hgrow.frozen_far ⟨w.heap.size + 1, 2, none⟩ (by rw [hsz]; simp; try omega) (by simp [Value.ownBlock])).trans af2; have b3' := (hgrow.cell_far ⟨w.heap.size + 1, 3, none⟩ (by rw [hsz]; simp; try omega) (by simp [Value.ownBlock])).trans a3; have bf3' := (hgrow.frozen_far ⟨w.heap.size + 1, 3, none⟩ (by rw [hsz]; simp; try omega) (by simp [Value.ownBlock])).trans af3; have b4' := (hgrow.cell_far ⟨w.heap.size + 1, 4, none⟩ (by rw [hsz]; simp; try omega) (by simp [Value.ownBlock])).trans a4; have bf4' := (hgrow.frozen_far ⟨w.heap.size + 1, 4, none⟩ (by rw [hsz]; simp; try omega) (by simp [Value.ownBlock])).trans af4; have q0' := (hgrow.cell_far ⟨w.heap.size + 2, 0, none⟩ (by rw [hsz]; simp; try omega) (by simp [Value.ownBlock])).trans p0; have qf0' := (hgrow.frozen_far ⟨w.heap.size + 2, 0, none⟩ (by rw [hsz]; simp; try omega) (by simp [Value.ownBlock])).trans pf0; have q1' := (hgrow.cell_far ⟨w.heap.size + 2, 1, none⟩ (by rw [hsz]; simp; try omega) (by simp [Value.ownBlock])).trans p1; have qf1' := (hgrow.frozen_far ⟨w.heap.size + 2, 1, none⟩ (by rw [hsz]; simp; try omega) (by simp [Value.ownBlock])).trans pf1; have n0 : ¬ g = w.heap.size := (by omega); have n1 : ¬ g = w.heap.size + 1 := (by omega); have n2 : ¬ g = w.heap.size + 2 := (by omega); have n3 : ¬ w.heap.size = g := (by omega); have n4 : ¬ w.heap.size + 1 = g := (by omega); have n5 : ¬ w.heap.size + 2 = g := (by omega); have hgle : w.heap.size + 3 ≤ g := (by omega); have HO := Lib.hid hown; have HG := Lib.hid hgrow; clear hown hgrow hrow hg hc1 hc2 hc3 hc4 hel)
  refine bodyPost_ret (v := .agg #[.int .i64 cap, .slice (some ⟨g, 0, none⟩) ps.length gc]) (by simp [results, Try.results64, go_sem, q0', q1']) rfl ⟨_, rfl, ⟨_, rfl, ?_⟩, ?_⟩
  · have r0 : World.ownsRow _ w1.heap.size 54 5 (.slice (some ⟨g, 0, none⟩) ps.length gc) ps.length (ps.flatMap encP) := ownsRow_setCell_below HO.out (a := ⟨w.heap.size, 1, none⟩) (by first | (rw [hsz]; simp; done) | (rw [hsz]; simp; omega)) (.slice (some ⟨g, 0, none⟩) ps.length gc)
    have r1 := own_page r0 k hk y
    have r3 := ownsRow_mono (ownsRow_setCell_below (ownsRow_setCell_below r1 (a := ⟨w.heap.size + 1 + 1, 0, none⟩) (by first | (rw [hsz]; simp; done) | (rw [hsz]; simp; omega)) (.int .i64 cap)) (a := ⟨w.heap.size + 1 + 1, 1, none⟩) (by first | (rw [hsz]; simp; done) | (rw [hsz]; simp; omega)) (.slice (some ⟨g, 0, none⟩) ps.length gc)) (show w.heap.size ≤ w1.heap.size by omega)
    rw [List.length_set]
    exact r3
  · exact (((((((((HB.out.grown HG.out (by omega) (by simp [Value.ownBlock])).setCell (by simp) _).setCell (by simp; omega) _).setCell (by simp; omega) _).setCell (by simp; omega) _).setCell (by simp; omega) _).setCell (by simp; omega) _).setCell (by simp; omega) _).setCell (by simp; omega) _)

/-- Is there a page that is had? -/
def hadR (ps : List Pg) (p : Int) : Bool := decide (0 ≤ p) && (decide (p < (ps.length : Int)) && decide (0 < (pgAt ps p).r))

set_option maxHeartbeats 1000000 in
theorem rhad_any (v : Value) (cap p : Int) (ps : List Pg) (w : World) (hv : StV w v cap ps) :
    Calls Try.prog 65 #[v, .int .i64 p] w fun e w' => e = .returned (.bool (hadR ps p)) ∧ Below w.heap.size w w' := by
  obtain ⟨A, c, rfl, hv⟩ := hv.form
  have hb0 : Below w.heap.size w (w.alloc (.cells #[.int .i64 cap, .slice A ps.length c] 25)) := (Below.refl _ w).alloc (Nat.le_refl _) _
  by_cases h1 : 0 ≤ p
  · obtain ⟨k, rfl⟩ := Int.eq_ofNat_of_zero_le h1
    by_cases h2 : k < ps.length
    · have h2' : (k : Int) < (ps.length : Int) := by omega
      obtain ⟨b, o, rfl, hlt, hel⟩ := Sl.pos encP encP_len hv.sl (by omega)
      have e0 := hel w (Below.refl _ _) k h2 0 _ rfl
      simp only [Nat.add_zero] at e0
      rw [show hadR ps k = decide (0 < ps[k].r) from by simp [hadR, h2', pgAt_get h2]]
      generalize ps[k] = x at *
      clear hel hv
      go_enter Try.func65, Try.ntmps65
      go_wp2
      go_ret
      exact ⟨rfl, hb0⟩
    · have h2' : ¬ (k : Int) < (ps.length : Int) := by omega
      rw [show hadR ps k = false from by simp [hadR]; omega]
      clear hv
      go_enter Try.func65, Try.ntmps65
      go_wp2
      go_ret
      exact ⟨rfl, hb0⟩
  · rw [show hadR ps p = false from by simp [hadR]; omega]
    clear hv
    go_enter Try.func65, Try.ntmps65
    go_wp2
    go_ret
    exact ⟨rfl, hb0⟩

end Go.Proofs.Ytoogobenjhmjjaa
namespace Go.Proofs.Ytoogobenjhmjjaa
open Go Go.RowKit
set_option linter.unusedVariables false
attribute [local go_sem ↓] Go.wp_at_zero Go.wp_at_succ

/-- What a reference's call hands back: a store, and an error. -/
def RefRes (cap : Int) (r : Int × List Pg) (w : World) (e : Ending) (w' : World) : Prop :=
  ∃ v', e = .returned (.tuple #[v', .int .i64 r.1]) ∧ (StV w' v' cap r.2 ∧ (r.1 = 0 → StO w' w.heap.size v' cap r.2)) ∧ Below w.heap.size w w'

theorem had_ref {cap : Int} {ps : List Pg} {p : Int} (hm : mayP cap ps = true) : hadL cap ps p = if hadR ps p = true then 0 else 11 := by
  unfold hadL
  rw [if_neg (by rw [hm]; simp)]
  by_cases h : p < 0 ∨ (ps.length : Int) ≤ p ∨ (pgAt ps p).r = 0
  · rw [if_pos h, if_neg]
    simp [hadR]
    omega
  · rw [if_neg h, if_pos]
    simp only [not_or] at h
    obtain ⟨k, rfl⟩ := Int.eq_ofNat_of_zero_le (Int.not_lt.1 h.1)
    have hk : k < ps.length := by omega
    have := (odd_bounds (may_odd hm k hk)).1
    have h3 := h.2.2
    rw [pgAt_get hk] at h3
    simp [hadR, pgAt_get hk]
    omega
theorem hadR_ok {ps : List Pg} {p : Int} (h : hadR ps p = true) : ∃ k : Nat, p = k ∧ ∃ hk : k < ps.length, 0 < ps[k].r := by
  simp [hadR] at h
  obtain ⟨k, rfl⟩ := Int.eq_ofNat_of_zero_le h.1
  have hk : k < ps.length := by omega
  rw [pgAt_get hk] at h
  exact ⟨k, rfl, hk, h.2.2⟩

set_option maxHeartbeats 4000000 in
theorem RShare_any (v : Value) (cap p : Int) (ps : List Pg) (w : World) (hv : StV w v cap ps) (hn : ps.length ≤ 1000) :
    Calls Try.prog 45 #[v, .int .i64 p] w (RefRes cap (shareL cap ps p) w) := by
  obtain ⟨A, c, rfl, hv⟩ := hv.form
  have hb0 : Below w.heap.size w ((w.alloc (.cells #[.int .i64 cap, .slice A ps.length c] 25)).alloc (.cells #[.int .i64 0, .slice none 0 0] 25)) := ((Below.refl _ w).alloc (Nat.le_refl _) _).alloc (by simp) _
  have hmay := fun sv W h => rmay_any cap sv ps W h
  have hhad := fun v W h => rhad_any v cap p ps W h
  cases hm : mayP cap ps with
  | false =>
    rw [show shareL cap ps p = (1, ps) from by simp [shareL, hadL, hm]]
    rw [hm] at hmay
    clear hm
    go_enter Try.func45, Try.ntmps45
    go_wp2_with fail
    refine (hmay _ _ (hv.sl.below hb0)).mono ?_
    rintro e w1 ⟨rfl, hb1⟩
    have hY := hb0.trans (hb1.mono (by simp; try omega))
    have kA0 : Blk w1 w.heap.size 25 #[.int .i64 cap, .slice A ps.length c] := ((Blk.new_ w _ _ _ rfl).alloc _).keep hb1
    have kA1 : Blk w1 (w.heap.size + 1) 25 #[.int .i64 0, .slice none 0 0] := (Blk.new_ _ _ _ _ (by simp)).keep hb1
    have la := kA0.lt
    have lb := kA1.lt
    have s0 : w1.cell? ⟨w.heap.size, 0, none⟩ = some (.int .i64 cap) := by rw [kA0.cell]; rfl
    have sf0 : w1.frozen? ⟨w.heap.size, 0, none⟩ = false := kA0.free 0
    have s1 : w1.cell? ⟨w.heap.size, 1, none⟩ = some (.slice A ps.length c) := by rw [kA0.cell]; rfl
    have sf1 : w1.frozen? ⟨w.heap.size, 1, none⟩ = false := kA0.free 1
    have t0 : w1.cell? ⟨w.heap.size + 1, 0, none⟩ = some (.int .i64 0) := by rw [kA1.cell]; rfl
    have tf0 : w1.frozen? ⟨w.heap.size + 1, 0, none⟩ = false := kA1.free 0
    have t1 : w1.cell? ⟨w.heap.size + 1, 1, none⟩ = some (.slice none 0 0) := by rw [kA1.cell]; rfl
    have tf1 : w1.frozen? ⟨w.heap.size + 1, 1, none⟩ = false := kA1.free 1
    go_wp2
    refine bodyPost_ret (v := .tuple #[.agg #[.int .i64 cap, .slice A ps.length c], .int .i64 1]) (by simp [results, Try.results45, go_sem, t0, t1]) rfl ⟨_, rfl, ?_, ?_⟩
    · exact ⟨hv.keep ((hY.setCell (p := ⟨w.heap.size + 1, 0, none⟩) (by simp) _).setCell (p := ⟨w.heap.size + 1, 1, none⟩) (by simp) _), fun h => by simp at h⟩
    · exact (hY.setCell (p := ⟨w.heap.size + 1, 0, none⟩) (by simp) _).setCell (p := ⟨w.heap.size + 1, 1, none⟩) (by simp) _
  | true =>
    rw [hm] at hmay
    have hhl := had_ref (p := p) hm
    cases hr : hadR ps p with
    | false =>
      rw [hr] at hhad hhl
      rw [show shareL cap ps p = (11, ps) from by simp [shareL, hhl]]
      clear hm hr hhl
      go_enter Try.func45, Try.ntmps45
      go_wp2_with fail
      refine (hmay _ _ (hv.sl.below hb0)).mono ?_
      rintro e w1 ⟨rfl, hb1⟩
      have hY := hb0.trans (hb1.mono (by simp; try omega))
      have kA0 : Blk w1 w.heap.size 25 #[.int .i64 cap, .slice A ps.length c] := ((Blk.new_ w _ _ _ rfl).alloc _).keep hb1
      have kA1 : Blk w1 (w.heap.size + 1) 25 #[.int .i64 0, .slice none 0 0] := (Blk.new_ _ _ _ _ (by simp)).keep hb1
      have la := kA0.lt
      have lb := kA1.lt
      have s0 : w1.cell? ⟨w.heap.size, 0, none⟩ = some (.int .i64 cap) := by rw [kA0.cell]; rfl
      have sf0 : w1.frozen? ⟨w.heap.size, 0, none⟩ = false := kA0.free 0
      have s1 : w1.cell? ⟨w.heap.size, 1, none⟩ = some (.slice A ps.length c) := by rw [kA0.cell]; rfl
      have sf1 : w1.frozen? ⟨w.heap.size, 1, none⟩ = false := kA0.free 1
      have t0 : w1.cell? ⟨w.heap.size + 1, 0, none⟩ = some (.int .i64 0) := by rw [kA1.cell]; rfl
      have tf0 : w1.frozen? ⟨w.heap.size + 1, 0, none⟩ = false := kA1.free 0
      have t1 : w1.cell? ⟨w.heap.size + 1, 1, none⟩ = some (.slice none 0 0) := by rw [kA1.cell]; rfl
      have tf1 : w1.frozen? ⟨w.heap.size + 1, 1, none⟩ = false := kA1.free 1
      go_wp2_with fail
      refine (hhad _ _ (hv.keep hY)).mono ?_
      rintro e w2 ⟨rfl, hb2⟩
      replace hY := hY.trans (hb2.mono hY.size)
      replace kA0 := kA0.keep hb2
      replace kA1 := kA1.keep hb2
      clear la lb s0 s1 sf0 sf1 t0 t1 tf0 tf1
      have la := kA0.lt
      have lb := kA1.lt
      have s0 : w2.cell? ⟨w.heap.size, 0, none⟩ = some (.int .i64 cap) := by rw [kA0.cell]; rfl
      have sf0 : w2.frozen? ⟨w.heap.size, 0, none⟩ = false := kA0.free 0
      have s1 : w2.cell? ⟨w.heap.size, 1, none⟩ = some (.slice A ps.length c) := by rw [kA0.cell]; rfl
      have sf1 : w2.frozen? ⟨w.heap.size, 1, none⟩ = false := kA0.free 1
      have t0 : w2.cell? ⟨w.heap.size + 1, 0, none⟩ = some (.int .i64 0) := by rw [kA1.cell]; rfl
      have tf0 : w2.frozen? ⟨w.heap.size + 1, 0, none⟩ = false := kA1.free 0
      have t1 : w2.cell? ⟨w.heap.size + 1, 1, none⟩ = some (.slice none 0 0) := by rw [kA1.cell]; rfl
      have tf1 : w2.frozen? ⟨w.heap.size + 1, 1, none⟩ = false := kA1.free 1
      go_wp2
      refine bodyPost_ret (v := .tuple #[.agg #[.int .i64 cap, .slice A ps.length c], .int .i64 11]) (by simp [results, Try.results45, go_sem, t0, t1]) rfl ⟨_, rfl, ?_, ?_⟩
      · exact ⟨hv.keep ((hY.setCell (p := ⟨w.heap.size + 1, 0, none⟩) (by simp) _).setCell (p := ⟨w.heap.size + 1, 1, none⟩) (by simp) _), fun h => by simp at h⟩
      · exact (hY.setCell (p := ⟨w.heap.size + 1, 0, none⟩) (by simp) _).setCell (p := ⟨w.heap.size + 1, 1, none⟩) (by simp) _
    | true =>
      obtain ⟨k, rfl, hk, hr0⟩ := hadR_ok hr
      rw [hr] at hhad hhl
      have hr1 := (odd_bounds (may_odd hm k hk)).2
      have hk0 : (0 : Int) ≤ (k : Int) := by omega
      have hk1 : (k : Int) < (ps.length : Int) := by omega
      have hwith := fun v y W h => with_any v cap k y ps W h hk hn
      obtain ⟨b, o, rfl, hlt, hel⟩ := Sl.pos encP encP_len hv.sl (by omega)
      have hel := fun W hW => hel W hW k hk
      simp only [encP] at hwith
      rw [show shareL cap ps k = if ps[k].r = 1000 then (8, ps) else (0, ps.set k { ps[k] with r := ps[k].r + 1 }) from by simp [shareL, hhl, pgAt_get hk]]
      generalize ps[k] = x at *
      clear hm hr hhl hk hn
      by_cases h3 : x.r = 1000
      · rw [if_pos h3]
        have h3' : (x.r == 1000) = true := by simpa using h3
        clear h3
        go_enter Try.func45, Try.ntmps45
        go_wp2_with fail
        refine (hmay _ _ (hv.sl.below hb0)).mono ?_
        rintro e w1 ⟨rfl, hb1⟩
        have hY := hb0.trans (hb1.mono (by simp; try omega))
        have kA0 : Blk w1 w.heap.size 25 #[.int .i64 cap, .slice (some ⟨b, o, none⟩) ps.length c] := ((Blk.new_ w _ _ _ rfl).alloc _).keep hb1
        have kA1 : Blk w1 (w.heap.size + 1) 25 #[.int .i64 0, .slice none 0 0] := (Blk.new_ _ _ _ _ (by simp)).keep hb1
        have la := kA0.lt
        have lb := kA1.lt
        have s0 : w1.cell? ⟨w.heap.size, 0, none⟩ = some (.int .i64 cap) := by rw [kA0.cell]; rfl
        have sf0 : w1.frozen? ⟨w.heap.size, 0, none⟩ = false := kA0.free 0
        have s1 : w1.cell? ⟨w.heap.size, 1, none⟩ = some (.slice (some ⟨b, o, none⟩) ps.length c) := by rw [kA0.cell]; rfl
        have sf1 : w1.frozen? ⟨w.heap.size, 1, none⟩ = false := kA0.free 1
        have t0 : w1.cell? ⟨w.heap.size + 1, 0, none⟩ = some (.int .i64 0) := by rw [kA1.cell]; rfl
        have tf0 : w1.frozen? ⟨w.heap.size + 1, 0, none⟩ = false := kA1.free 0
        have t1 : w1.cell? ⟨w.heap.size + 1, 1, none⟩ = some (.slice none 0 0) := by rw [kA1.cell]; rfl
        have tf1 : w1.frozen? ⟨w.heap.size + 1, 1, none⟩ = false := kA1.free 1
        go_wp2_with fail
        refine (hhad _ _ (hv.keep hY)).mono ?_
        rintro e w2 ⟨rfl, hb2⟩
        replace hY := hY.trans (hb2.mono hY.size)
        replace kA0 := kA0.keep hb2
        replace kA1 := kA1.keep hb2
        clear la lb s0 s1 sf0 sf1 t0 t1 tf0 tf1
        have la := kA0.lt
        have lb := kA1.lt
        have s0 : w2.cell? ⟨w.heap.size, 0, none⟩ = some (.int .i64 cap) := by rw [kA0.cell]; rfl
        have sf0 : w2.frozen? ⟨w.heap.size, 0, none⟩ = false := kA0.free 0
        have s1 : w2.cell? ⟨w.heap.size, 1, none⟩ = some (.slice (some ⟨b, o, none⟩) ps.length c) := by rw [kA0.cell]; rfl
        have sf1 : w2.frozen? ⟨w.heap.size, 1, none⟩ = false := kA0.free 1
        have t0 : w2.cell? ⟨w.heap.size + 1, 0, none⟩ = some (.int .i64 0) := by rw [kA1.cell]; rfl
        have tf0 : w2.frozen? ⟨w.heap.size + 1, 0, none⟩ = false := kA1.free 0
        have t1 : w2.cell? ⟨w.heap.size + 1, 1, none⟩ = some (.slice none 0 0) := by rw [kA1.cell]; rfl
        have tf1 : w2.frozen? ⟨w.heap.size + 1, 1, none⟩ = false := kA1.free 1
        have e0 := hel w2 hY 0 _ rfl
        have e1 := hel w2 hY 1 _ rfl
        have e2 := hel w2 hY 2 _ rfl
        have e3 := hel w2 hY 3 _ rfl
        have e4 := hel w2 hY 4 _ rfl
        simp only [Nat.add_zero] at e0
        have hlw : b < w2.heap.size := Nat.lt_of_lt_of_le hlt hY.size
        clear hel
        go_wp2
        refine bodyPost_ret (v := .tuple #[.agg #[.int .i64 cap, .slice (some ⟨b, o, none⟩) ps.length c], .int .i64 8]) (by simp [results, Try.results45, go_sem, t0, t1, lb]) rfl ⟨_, rfl, ?_, ?_⟩
        · exact ⟨hv.keep (((hY.setCell (p := ⟨w.heap.size + 1, 0, none⟩) (by simp) _).setCell (p := ⟨w.heap.size + 1, 1, none⟩) (by simp) _).alloc (by simp only [World.size_setCell]; exact hY.size) _), fun h => by simp at h⟩
        · exact ((hY.setCell (p := ⟨w.heap.size + 1, 0, none⟩) (by simp) _).setCell (p := ⟨w.heap.size + 1, 1, none⟩) (by simp) _).alloc (by simp only [World.size_setCell]; exact hY.size) _
      · rw [if_neg h3]
        have h3' : (x.r == 1000) = false := by simpa using h3
        clear h3
        go_enter Try.func45, Try.ntmps45
        go_wp2_with fail
        refine (hmay _ _ (hv.sl.below hb0)).mono ?_
        rintro e w1 ⟨rfl, hb1⟩
        have hY := hb0.trans (hb1.mono (by simp; try omega))
        have kA0 : Blk w1 w.heap.size 25 #[.int .i64 cap, .slice (some ⟨b, o, none⟩) ps.length c] := ((Blk.new_ w _ _ _ rfl).alloc _).keep hb1
        have kA1 : Blk w1 (w.heap.size + 1) 25 #[.int .i64 0, .slice none 0 0] := (Blk.new_ _ _ _ _ (by simp)).keep hb1
        have la := kA0.lt
        have lb := kA1.lt
        have s0 : w1.cell? ⟨w.heap.size, 0, none⟩ = some (.int .i64 cap) := by rw [kA0.cell]; rfl
        have sf0 : w1.frozen? ⟨w.heap.size, 0, none⟩ = false := kA0.free 0
        have s1 : w1.cell? ⟨w.heap.size, 1, none⟩ = some (.slice (some ⟨b, o, none⟩) ps.length c) := by rw [kA0.cell]; rfl
        have sf1 : w1.frozen? ⟨w.heap.size, 1, none⟩ = false := kA0.free 1
        have t0 : w1.cell? ⟨w.heap.size + 1, 0, none⟩ = some (.int .i64 0) := by rw [kA1.cell]; rfl
        have tf0 : w1.frozen? ⟨w.heap.size + 1, 0, none⟩ = false := kA1.free 0
        have t1 : w1.cell? ⟨w.heap.size + 1, 1, none⟩ = some (.slice none 0 0) := by rw [kA1.cell]; rfl
        have tf1 : w1.frozen? ⟨w.heap.size + 1, 1, none⟩ = false := kA1.free 1
        go_wp2_with fail
        refine (hhad _ _ (hv.keep hY)).mono ?_
        rintro e w2 ⟨rfl, hb2⟩
        replace hY := hY.trans (hb2.mono hY.size)
        replace kA0 := kA0.keep hb2
        replace kA1 := kA1.keep hb2
        clear la lb s0 s1 sf0 sf1 t0 t1 tf0 tf1
        have la := kA0.lt
        have lb := kA1.lt
        have s0 : w2.cell? ⟨w.heap.size, 0, none⟩ = some (.int .i64 cap) := by rw [kA0.cell]; rfl
        have sf0 : w2.frozen? ⟨w.heap.size, 0, none⟩ = false := kA0.free 0
        have s1 : w2.cell? ⟨w.heap.size, 1, none⟩ = some (.slice (some ⟨b, o, none⟩) ps.length c) := by rw [kA0.cell]; rfl
        have sf1 : w2.frozen? ⟨w.heap.size, 1, none⟩ = false := kA0.free 1
        have t0 : w2.cell? ⟨w.heap.size + 1, 0, none⟩ = some (.int .i64 0) := by rw [kA1.cell]; rfl
        have tf0 : w2.frozen? ⟨w.heap.size + 1, 0, none⟩ = false := kA1.free 0
        have t1 : w2.cell? ⟨w.heap.size + 1, 1, none⟩ = some (.slice none 0 0) := by rw [kA1.cell]; rfl
        have tf1 : w2.frozen? ⟨w.heap.size + 1, 1, none⟩ = false := kA1.free 1
        have e0 := hel w2 hY 0 _ rfl
        have e1 := hel w2 hY 1 _ rfl
        have e2 := hel w2 hY 2 _ rfl
        have e3 := hel w2 hY 3 _ rfl
        have e4 := hel w2 hY 4 _ rfl
        simp only [Nat.add_zero] at e0
        have hlw : b < w2.heap.size := Nat.lt_of_lt_of_le hlt hY.size
        clear hel
        go_wp2_with fail
        have hA1 := (Below.refl w2.heap.size w2).alloc (Nat.le_refl _) (.cells #[.int .i64 (x.r + 1), .int .i64 x.a, .int .i64 x.b, .int .i64 x.c, .int .i64 x.d] 54)
        refine (hwith _ { x with r := x.r + 1 } _ (((hv.keep hY).keep hA1))).mono ?_
        rintro e w3 ⟨v2, rfl, hst2, hb3⟩
        have hY2 := (hY.trans (hA1.mono hY.size)).trans (hb3.mono (hY.trans (hA1.mono hY.size)).size)
        have kB1 := (kA1.keep hA1).keep hb3
        obtain ⟨sv2, rfl, hrow2⟩ := hst2
        rw [List.length_set] at hrow2
        obtain ⟨A2, c2, rfl, _, _⟩ := (Sl.of_own hrow2).form
        clear kA0 kA1 s0 s1 sf0 sf1 t0 t1 tf0 tf1
        have t0 : w3.cell? ⟨w.heap.size + 1, 0, none⟩ = some (.int .i64 0) := by rw [kB1.cell]; rfl
        have tf0 : w3.frozen? ⟨w.heap.size + 1, 0, none⟩ = false := kB1.free 0
        have t1 : w3.cell? ⟨w.heap.size + 1, 1, none⟩ = some (.slice none 0 0) := by rw [kB1.cell]; rfl
        have tf1 : w3.frozen? ⟨w.heap.size + 1, 1, none⟩ = false := kB1.free 1
        go_wp2
        refine bodyPost_ret (v := .tuple #[.agg #[.int .i64 cap, .slice A2 ps.length c2], .int .i64 0]) (by simp [results, Try.results45, go_sem, t0, t1]) rfl ⟨_, rfl, ?_, ?_⟩
        · have hlen : (ps.set k ({ x with r := x.r + 1 } : Pg)).length = ps.length := List.length_set
          have hzz := hY.size
          have hzz2 := hb3.size
          simp only [World.size_alloc] at hzz2
          have hfin := ownsRow_mono (ownsRow_setCell_below (ownsRow_setCell_below hrow2 (a := ⟨w.heap.size + 1, 0, none⟩) (by simp; omega) (.int .i64 cap)) (a := ⟨w.heap.size + 1, 1, none⟩) (by simp; omega) (.slice A2 ps.length c2)) (show w.heap.size ≤ _ by simp; omega)
          have hfin2 : StO _ w.heap.size (.agg #[.int .i64 cap, .slice A2 ps.length c2]) cap (ps.set k { x with r := x.r + 1 }) := ⟨_, rfl, by rw [hlen]; exact hfin⟩
          exact ⟨hfin2.to, fun _ => hfin2⟩
        · exact (hY2.setCell (p := ⟨w.heap.size + 1, 0, none⟩) (by simp) _).setCell (p := ⟨w.heap.size + 1, 1, none⟩) (by simp) _

set_option maxHeartbeats 4000000 in
theorem RFree_any (v : Value) (cap p : Int) (ps : List Pg) (w : World) (hv : StV w v cap ps) (hn : ps.length ≤ 1000) :
    Calls Try.prog 47 #[v, .int .i64 p] w (RefRes cap (freeX cap ps p) w) := by
  obtain ⟨A, c, rfl, hv⟩ := hv.form
  have hb0 : Below w.heap.size w ((w.alloc (.cells #[.int .i64 cap, .slice A ps.length c] 25)).alloc (.cells #[.int .i64 0, .slice none 0 0] 25)) := ((Below.refl _ w).alloc (Nat.le_refl _) _).alloc (by simp) _
  have hmay := fun sv W h => rmay_any cap sv ps W h
  have hhad := fun v W h => rhad_any v cap p ps W h
  cases hm : mayP cap ps with
  | false =>
    rw [show freeX cap ps p = (1, ps) from by simp [freeX, hadL, hm]]
    rw [hm] at hmay
    clear hm
    go_enter Try.func47, Try.ntmps47
    go_wp2_with fail
    refine (hmay _ _ (hv.sl.below hb0)).mono ?_
    rintro e w1 ⟨rfl, hb1⟩
    have hY := hb0.trans (hb1.mono (by simp; try omega))
    have kA0 : Blk w1 w.heap.size 25 #[.int .i64 cap, .slice A ps.length c] := ((Blk.new_ w _ _ _ rfl).alloc _).keep hb1
    have kA1 : Blk w1 (w.heap.size + 1) 25 #[.int .i64 0, .slice none 0 0] := (Blk.new_ _ _ _ _ (by simp)).keep hb1
    have la := kA0.lt
    have lb := kA1.lt
    have s0 : w1.cell? ⟨w.heap.size, 0, none⟩ = some (.int .i64 cap) := by rw [kA0.cell]; rfl
    have sf0 : w1.frozen? ⟨w.heap.size, 0, none⟩ = false := kA0.free 0
    have s1 : w1.cell? ⟨w.heap.size, 1, none⟩ = some (.slice A ps.length c) := by rw [kA0.cell]; rfl
    have sf1 : w1.frozen? ⟨w.heap.size, 1, none⟩ = false := kA0.free 1
    have t0 : w1.cell? ⟨w.heap.size + 1, 0, none⟩ = some (.int .i64 0) := by rw [kA1.cell]; rfl
    have tf0 : w1.frozen? ⟨w.heap.size + 1, 0, none⟩ = false := kA1.free 0
    have t1 : w1.cell? ⟨w.heap.size + 1, 1, none⟩ = some (.slice none 0 0) := by rw [kA1.cell]; rfl
    have tf1 : w1.frozen? ⟨w.heap.size + 1, 1, none⟩ = false := kA1.free 1
    go_wp2
    refine bodyPost_ret (v := .tuple #[.agg #[.int .i64 cap, .slice A ps.length c], .int .i64 1]) (by simp [results, Try.results47, go_sem, t0, t1]) rfl ⟨_, rfl, ?_, ?_⟩
    · exact ⟨hv.keep ((hY.setCell (p := ⟨w.heap.size + 1, 0, none⟩) (by simp) _).setCell (p := ⟨w.heap.size + 1, 1, none⟩) (by simp) _), fun h => by simp at h⟩
    · exact (hY.setCell (p := ⟨w.heap.size + 1, 0, none⟩) (by simp) _).setCell (p := ⟨w.heap.size + 1, 1, none⟩) (by simp) _
  | true =>
    rw [hm] at hmay
    have hhl := had_ref (p := p) hm
    cases hr : hadR ps p with
    | false =>
      rw [hr] at hhad hhl
      rw [show freeX cap ps p = (11, ps) from by simp [freeX, hhl]]
      clear hm hr hhl
      go_enter Try.func47, Try.ntmps47
      go_wp2_with fail
      refine (hmay _ _ (hv.sl.below hb0)).mono ?_
      rintro e w1 ⟨rfl, hb1⟩
      have hY := hb0.trans (hb1.mono (by simp; try omega))
      have kA0 : Blk w1 w.heap.size 25 #[.int .i64 cap, .slice A ps.length c] := ((Blk.new_ w _ _ _ rfl).alloc _).keep hb1
      have kA1 : Blk w1 (w.heap.size + 1) 25 #[.int .i64 0, .slice none 0 0] := (Blk.new_ _ _ _ _ (by simp)).keep hb1
      have la := kA0.lt
      have lb := kA1.lt
      have s0 : w1.cell? ⟨w.heap.size, 0, none⟩ = some (.int .i64 cap) := by rw [kA0.cell]; rfl
      have sf0 : w1.frozen? ⟨w.heap.size, 0, none⟩ = false := kA0.free 0
      have s1 : w1.cell? ⟨w.heap.size, 1, none⟩ = some (.slice A ps.length c) := by rw [kA0.cell]; rfl
      have sf1 : w1.frozen? ⟨w.heap.size, 1, none⟩ = false := kA0.free 1
      have t0 : w1.cell? ⟨w.heap.size + 1, 0, none⟩ = some (.int .i64 0) := by rw [kA1.cell]; rfl
      have tf0 : w1.frozen? ⟨w.heap.size + 1, 0, none⟩ = false := kA1.free 0
      have t1 : w1.cell? ⟨w.heap.size + 1, 1, none⟩ = some (.slice none 0 0) := by rw [kA1.cell]; rfl
      have tf1 : w1.frozen? ⟨w.heap.size + 1, 1, none⟩ = false := kA1.free 1
      go_wp2_with fail
      refine (hhad _ _ (hv.keep hY)).mono ?_
      rintro e w2 ⟨rfl, hb2⟩
      replace hY := hY.trans (hb2.mono hY.size)
      replace kA0 := kA0.keep hb2
      replace kA1 := kA1.keep hb2
      clear la lb s0 s1 sf0 sf1 t0 t1 tf0 tf1
      have la := kA0.lt
      have lb := kA1.lt
      have s0 : w2.cell? ⟨w.heap.size, 0, none⟩ = some (.int .i64 cap) := by rw [kA0.cell]; rfl
      have sf0 : w2.frozen? ⟨w.heap.size, 0, none⟩ = false := kA0.free 0
      have s1 : w2.cell? ⟨w.heap.size, 1, none⟩ = some (.slice A ps.length c) := by rw [kA0.cell]; rfl
      have sf1 : w2.frozen? ⟨w.heap.size, 1, none⟩ = false := kA0.free 1
      have t0 : w2.cell? ⟨w.heap.size + 1, 0, none⟩ = some (.int .i64 0) := by rw [kA1.cell]; rfl
      have tf0 : w2.frozen? ⟨w.heap.size + 1, 0, none⟩ = false := kA1.free 0
      have t1 : w2.cell? ⟨w.heap.size + 1, 1, none⟩ = some (.slice none 0 0) := by rw [kA1.cell]; rfl
      have tf1 : w2.frozen? ⟨w.heap.size + 1, 1, none⟩ = false := kA1.free 1
      go_wp2
      refine bodyPost_ret (v := .tuple #[.agg #[.int .i64 cap, .slice A ps.length c], .int .i64 11]) (by simp [results, Try.results47, go_sem, t0, t1]) rfl ⟨_, rfl, ?_, ?_⟩
      · exact ⟨hv.keep ((hY.setCell (p := ⟨w.heap.size + 1, 0, none⟩) (by simp) _).setCell (p := ⟨w.heap.size + 1, 1, none⟩) (by simp) _), fun h => by simp at h⟩
      · exact (hY.setCell (p := ⟨w.heap.size + 1, 0, none⟩) (by simp) _).setCell (p := ⟨w.heap.size + 1, 1, none⟩) (by simp) _
    | true =>
      obtain ⟨k, rfl, hk, hr0⟩ := hadR_ok hr
      rw [hr] at hhad hhl
      have hr1 := (odd_bounds (may_odd hm k hk)).2
      have hk0 : (0 : Int) ≤ (k : Int) := by omega
      have hk1 : (k : Int) < (ps.length : Int) := by omega
      have hwith := fun v y W h => with_any v cap k y ps W h hk hn
      obtain ⟨b, o, rfl, hlt, hel⟩ := Sl.pos encP encP_len hv.sl (by omega)
      have hel := fun W hW => hel W hW k hk
      simp only [encP] at hwith
      rw [show freeX cap ps k = if ps[k].r - 1 = 0 then (0, ps.set k ⟨0, 0, 0, 0, 0⟩) else (0, ps.set k { ps[k] with r := ps[k].r - 1 }) from by
        simp only [freeX, hhl, if_true, freeL, Int.toNat_natCast, pgAt_get hk]
        split <;> rfl]
      generalize ps[k] = x at *
      clear hm hr hhl hk hn
      by_cases h3 : x.r - 1 = 0
      · rw [if_pos h3]
        have h3' : (x.r - 1 == 0) = true := by simpa using h3
        clear h3
        go_enter Try.func47, Try.ntmps47
        go_wp2_with fail
        refine (hmay _ _ (hv.sl.below hb0)).mono ?_
        rintro e w1 ⟨rfl, hb1⟩
        have hY := hb0.trans (hb1.mono (by simp; try omega))
        have kA0 : Blk w1 w.heap.size 25 #[.int .i64 cap, .slice (some ⟨b, o, none⟩) ps.length c] := ((Blk.new_ w _ _ _ rfl).alloc _).keep hb1
        have kA1 : Blk w1 (w.heap.size + 1) 25 #[.int .i64 0, .slice none 0 0] := (Blk.new_ _ _ _ _ (by simp)).keep hb1
        have la := kA0.lt
        have lb := kA1.lt
        have s0 : w1.cell? ⟨w.heap.size, 0, none⟩ = some (.int .i64 cap) := by rw [kA0.cell]; rfl
        have sf0 : w1.frozen? ⟨w.heap.size, 0, none⟩ = false := kA0.free 0
        have s1 : w1.cell? ⟨w.heap.size, 1, none⟩ = some (.slice (some ⟨b, o, none⟩) ps.length c) := by rw [kA0.cell]; rfl
        have sf1 : w1.frozen? ⟨w.heap.size, 1, none⟩ = false := kA0.free 1
        have t0 : w1.cell? ⟨w.heap.size + 1, 0, none⟩ = some (.int .i64 0) := by rw [kA1.cell]; rfl
        have tf0 : w1.frozen? ⟨w.heap.size + 1, 0, none⟩ = false := kA1.free 0
        have t1 : w1.cell? ⟨w.heap.size + 1, 1, none⟩ = some (.slice none 0 0) := by rw [kA1.cell]; rfl
        have tf1 : w1.frozen? ⟨w.heap.size + 1, 1, none⟩ = false := kA1.free 1
        go_wp2_with fail
        refine (hhad _ _ (hv.keep hY)).mono ?_
        rintro e w2 ⟨rfl, hb2⟩
        replace hY := hY.trans (hb2.mono hY.size)
        replace kA0 := kA0.keep hb2
        replace kA1 := kA1.keep hb2
        clear la lb s0 s1 sf0 sf1 t0 t1 tf0 tf1
        have la := kA0.lt
        have lb := kA1.lt
        have s0 : w2.cell? ⟨w.heap.size, 0, none⟩ = some (.int .i64 cap) := by rw [kA0.cell]; rfl
        have sf0 : w2.frozen? ⟨w.heap.size, 0, none⟩ = false := kA0.free 0
        have s1 : w2.cell? ⟨w.heap.size, 1, none⟩ = some (.slice (some ⟨b, o, none⟩) ps.length c) := by rw [kA0.cell]; rfl
        have sf1 : w2.frozen? ⟨w.heap.size, 1, none⟩ = false := kA0.free 1
        have t0 : w2.cell? ⟨w.heap.size + 1, 0, none⟩ = some (.int .i64 0) := by rw [kA1.cell]; rfl
        have tf0 : w2.frozen? ⟨w.heap.size + 1, 0, none⟩ = false := kA1.free 0
        have t1 : w2.cell? ⟨w.heap.size + 1, 1, none⟩ = some (.slice none 0 0) := by rw [kA1.cell]; rfl
        have tf1 : w2.frozen? ⟨w.heap.size + 1, 1, none⟩ = false := kA1.free 1
        have e0 := hel w2 hY 0 _ rfl
        have e1 := hel w2 hY 1 _ rfl
        have e2 := hel w2 hY 2 _ rfl
        have e3 := hel w2 hY 3 _ rfl
        have e4 := hel w2 hY 4 _ rfl
        simp only [Nat.add_zero] at e0
        have hlw : b < w2.heap.size := Nat.lt_of_lt_of_le hlt hY.size
        clear hel
        go_wp2_with fail
        have hA1 := (Below.refl w2.heap.size w2).alloc (Nat.le_refl _) (.cells #[.int .i64 0, .int .i64 0, .int .i64 0, .int .i64 0, .int .i64 0] 54)
        refine (hwith _ ⟨0, 0, 0, 0, 0⟩ _ (((hv.keep hY).keep hA1))).mono ?_
        rintro e w3 ⟨v2, rfl, hst2, hb3⟩
        have hY2 := (hY.trans (hA1.mono hY.size)).trans (hb3.mono (hY.trans (hA1.mono hY.size)).size)
        have kB1 := (kA1.keep hA1).keep hb3
        obtain ⟨sv2, rfl, hrow2⟩ := hst2
        rw [List.length_set] at hrow2
        obtain ⟨A2, c2, rfl, _, _⟩ := (Sl.of_own hrow2).form
        clear kA0 kA1 s0 s1 sf0 sf1 t0 t1 tf0 tf1
        have t0 : w3.cell? ⟨w.heap.size + 1, 0, none⟩ = some (.int .i64 0) := by rw [kB1.cell]; rfl
        have tf0 : w3.frozen? ⟨w.heap.size + 1, 0, none⟩ = false := kB1.free 0
        have t1 : w3.cell? ⟨w.heap.size + 1, 1, none⟩ = some (.slice none 0 0) := by rw [kB1.cell]; rfl
        have tf1 : w3.frozen? ⟨w.heap.size + 1, 1, none⟩ = false := kB1.free 1
        go_wp2
        refine bodyPost_ret (v := .tuple #[.agg #[.int .i64 cap, .slice A2 ps.length c2], .int .i64 0]) (by simp [results, Try.results47, go_sem, t0, t1]) rfl ⟨_, rfl, ?_, ?_⟩
        · have hlen : (ps.set k (⟨0, 0, 0, 0, 0⟩ : Pg)).length = ps.length := List.length_set
          have hzz := hY.size
          have hzz2 := hb3.size
          simp only [World.size_alloc] at hzz2
          have hfin := ownsRow_mono (ownsRow_setCell_below (ownsRow_setCell_below hrow2 (a := ⟨w.heap.size + 1, 0, none⟩) (by simp; omega) (.int .i64 cap)) (a := ⟨w.heap.size + 1, 1, none⟩) (by simp; omega) (.slice A2 ps.length c2)) (show w.heap.size ≤ _ by simp; omega)
          have hfin2 : StO _ w.heap.size (.agg #[.int .i64 cap, .slice A2 ps.length c2]) cap (ps.set k ⟨0, 0, 0, 0, 0⟩) := ⟨_, rfl, by rw [hlen]; exact hfin⟩
          exact ⟨hfin2.to, fun _ => hfin2⟩
        · exact (hY2.setCell (p := ⟨w.heap.size + 1, 0, none⟩) (by simp) _).setCell (p := ⟨w.heap.size + 1, 1, none⟩) (by simp) _
      · rw [if_neg h3]
        have h3' : (x.r - 1 == 0) = false := by simpa using h3
        clear h3
        go_enter Try.func47, Try.ntmps47
        go_wp2_with fail
        refine (hmay _ _ (hv.sl.below hb0)).mono ?_
        rintro e w1 ⟨rfl, hb1⟩
        have hY := hb0.trans (hb1.mono (by simp; try omega))
        have kA0 : Blk w1 w.heap.size 25 #[.int .i64 cap, .slice (some ⟨b, o, none⟩) ps.length c] := ((Blk.new_ w _ _ _ rfl).alloc _).keep hb1
        have kA1 : Blk w1 (w.heap.size + 1) 25 #[.int .i64 0, .slice none 0 0] := (Blk.new_ _ _ _ _ (by simp)).keep hb1
        have la := kA0.lt
        have lb := kA1.lt
        have s0 : w1.cell? ⟨w.heap.size, 0, none⟩ = some (.int .i64 cap) := by rw [kA0.cell]; rfl
        have sf0 : w1.frozen? ⟨w.heap.size, 0, none⟩ = false := kA0.free 0
        have s1 : w1.cell? ⟨w.heap.size, 1, none⟩ = some (.slice (some ⟨b, o, none⟩) ps.length c) := by rw [kA0.cell]; rfl
        have sf1 : w1.frozen? ⟨w.heap.size, 1, none⟩ = false := kA0.free 1
        have t0 : w1.cell? ⟨w.heap.size + 1, 0, none⟩ = some (.int .i64 0) := by rw [kA1.cell]; rfl
        have tf0 : w1.frozen? ⟨w.heap.size + 1, 0, none⟩ = false := kA1.free 0
        have t1 : w1.cell? ⟨w.heap.size + 1, 1, none⟩ = some (.slice none 0 0) := by rw [kA1.cell]; rfl
        have tf1 : w1.frozen? ⟨w.heap.size + 1, 1, none⟩ = false := kA1.free 1
        go_wp2_with fail
        refine (hhad _ _ (hv.keep hY)).mono ?_
        rintro e w2 ⟨rfl, hb2⟩
        replace hY := hY.trans (hb2.mono hY.size)
        replace kA0 := kA0.keep hb2
        replace kA1 := kA1.keep hb2
        clear la lb s0 s1 sf0 sf1 t0 t1 tf0 tf1
        have la := kA0.lt
        have lb := kA1.lt
        have s0 : w2.cell? ⟨w.heap.size, 0, none⟩ = some (.int .i64 cap) := by rw [kA0.cell]; rfl
        have sf0 : w2.frozen? ⟨w.heap.size, 0, none⟩ = false := kA0.free 0
        have s1 : w2.cell? ⟨w.heap.size, 1, none⟩ = some (.slice (some ⟨b, o, none⟩) ps.length c) := by rw [kA0.cell]; rfl
        have sf1 : w2.frozen? ⟨w.heap.size, 1, none⟩ = false := kA0.free 1
        have t0 : w2.cell? ⟨w.heap.size + 1, 0, none⟩ = some (.int .i64 0) := by rw [kA1.cell]; rfl
        have tf0 : w2.frozen? ⟨w.heap.size + 1, 0, none⟩ = false := kA1.free 0
        have t1 : w2.cell? ⟨w.heap.size + 1, 1, none⟩ = some (.slice none 0 0) := by rw [kA1.cell]; rfl
        have tf1 : w2.frozen? ⟨w.heap.size + 1, 1, none⟩ = false := kA1.free 1
        have e0 := hel w2 hY 0 _ rfl
        have e1 := hel w2 hY 1 _ rfl
        have e2 := hel w2 hY 2 _ rfl
        have e3 := hel w2 hY 3 _ rfl
        have e4 := hel w2 hY 4 _ rfl
        simp only [Nat.add_zero] at e0
        have hlw : b < w2.heap.size := Nat.lt_of_lt_of_le hlt hY.size
        clear hel
        go_wp2_with fail
        have hA1 := (Below.refl w2.heap.size w2).alloc (Nat.le_refl _) (.cells #[.int .i64 (x.r - 1), .int .i64 x.a, .int .i64 x.b, .int .i64 x.c, .int .i64 x.d] 54)
        refine (hwith _ { x with r := x.r - 1 } _ (((hv.keep hY).keep hA1))).mono ?_
        rintro e w3 ⟨v2, rfl, hst2, hb3⟩
        have hY2 := (hY.trans (hA1.mono hY.size)).trans (hb3.mono (hY.trans (hA1.mono hY.size)).size)
        have kB1 := (kA1.keep hA1).keep hb3
        obtain ⟨sv2, rfl, hrow2⟩ := hst2
        rw [List.length_set] at hrow2
        obtain ⟨A2, c2, rfl, _, _⟩ := (Sl.of_own hrow2).form
        clear kA0 kA1 s0 s1 sf0 sf1 t0 t1 tf0 tf1
        have t0 : w3.cell? ⟨w.heap.size + 1, 0, none⟩ = some (.int .i64 0) := by rw [kB1.cell]; rfl
        have tf0 : w3.frozen? ⟨w.heap.size + 1, 0, none⟩ = false := kB1.free 0
        have t1 : w3.cell? ⟨w.heap.size + 1, 1, none⟩ = some (.slice none 0 0) := by rw [kB1.cell]; rfl
        have tf1 : w3.frozen? ⟨w.heap.size + 1, 1, none⟩ = false := kB1.free 1
        go_wp2
        refine bodyPost_ret (v := .tuple #[.agg #[.int .i64 cap, .slice A2 ps.length c2], .int .i64 0]) (by simp [results, Try.results47, go_sem, t0, t1]) rfl ⟨_, rfl, ?_, ?_⟩
        · have hlen : (ps.set k ({ x with r := x.r - 1 } : Pg)).length = ps.length := List.length_set
          have hzz := hY.size
          have hzz2 := hb3.size
          simp only [World.size_alloc] at hzz2
          have hfin := ownsRow_mono (ownsRow_setCell_below (ownsRow_setCell_below hrow2 (a := ⟨w.heap.size + 1, 0, none⟩) (by simp; omega) (.int .i64 cap)) (a := ⟨w.heap.size + 1, 1, none⟩) (by simp; omega) (.slice A2 ps.length c2)) (show w.heap.size ≤ _ by simp; omega)
          have hfin2 : StO _ w.heap.size (.agg #[.int .i64 cap, .slice A2 ps.length c2]) cap (ps.set k { x with r := x.r - 1 }) := ⟨_, rfl, by rw [hlen]; exact hfin⟩
          exact ⟨hfin2.to, fun _ => hfin2⟩
        · exact (hY2.setCell (p := ⟨w.heap.size + 1, 0, none⟩) (by simp) _).setCell (p := ⟨w.heap.size + 1, 1, none⟩) (by simp) _

end Go.Proofs.Ytoogobenjhmjjaa
namespace Go.Proofs.Ytoogobenjhmjjaa
open Go Go.RowKit
set_option linter.unusedVariables false
attribute [local go_sem ↓] Go.wp_at_zero Go.wp_at_succ

def RefRes3 (cap : Int) (r : Int × Int × List Pg) (w : World) (e : Ending) (w' : World) : Prop :=
  ∃ v', e = .returned (.tuple #[v', .int .i64 r.1, .int .i64 r.2.1]) ∧ (StV w' v' cap r.2.2 ∧ (r.2.1 = 0 → StO w' w.heap.size v' cap r.2.2)) ∧ Below w.heap.size w w'

theorem flat_app (ps : List Pg) (x : Pg) : ps.flatMap encP ++ encP x = (ps ++ [x]).flatMap encP := by simp

set_option maxRecDepth 100000 in
set_option maxHeartbeats 4000000 in
theorem RAlloc_any (v : Value) (cap : Int) (ps : List Pg) (w : World) (hv : StV w v cap ps) (hn : ps.length ≤ 1000) :
    Calls Try.prog 40 #[v] w (RefRes3 cap (allocX cap ps) w) := by
  obtain ⟨i0, hi0, hz0, hz1, hz2⟩ := info_parts clone_page_info
  obtain ⟨A, c, rfl, hv⟩ := hv.form
  have hb0 : Below w.heap.size w ((w.alloc (.cells #[.int .i64 cap, .slice A ps.length c] 25)).alloc (.cells #[.int .i64 0, .slice none 0 0] 25)) := ((Below.refl _ w).alloc (Nat.le_refl _) _).alloc (by simp) _
  have hmay := fun sv W h => rmay_any cap sv ps W h
  cases hm : mayP cap ps with
  | false =>
    rw [show allocX cap ps = (-1, 1, ps) from by simp [allocX, hm]]
    rw [hm] at hmay
    clear hm
    go_enter Try.func40, Try.ntmps40
    go_wp2_with fail
    refine (hmay _ _ (hv.sl.below hb0)).mono ?_
    rintro e w1 ⟨rfl, hb1⟩
    have hY := hb0.trans (hb1.mono (by simp; try omega))
    have kA0 : Blk w1 w.heap.size 25 #[.int .i64 cap, .slice A ps.length c] := ((Blk.new_ w _ _ _ rfl).alloc _).keep hb1
    have kA1 : Blk w1 (w.heap.size + 1) 25 #[.int .i64 0, .slice none 0 0] := (Blk.new_ _ _ _ _ (by simp)).keep hb1
    have la := kA0.lt
    have lb := kA1.lt
    have s0 : w1.cell? ⟨w.heap.size, 0, none⟩ = some (.int .i64 cap) := by rw [kA0.cell]; rfl
    have sf0 : w1.frozen? ⟨w.heap.size, 0, none⟩ = false := kA0.free 0
    have s1 : w1.cell? ⟨w.heap.size, 1, none⟩ = some (.slice A ps.length c) := by rw [kA0.cell]; rfl
    have sf1 : w1.frozen? ⟨w.heap.size, 1, none⟩ = false := kA0.free 1
    have t0 : w1.cell? ⟨w.heap.size + 1, 0, none⟩ = some (.int .i64 0) := by rw [kA1.cell]; rfl
    have tf0 : w1.frozen? ⟨w.heap.size + 1, 0, none⟩ = false := kA1.free 0
    have t1 : w1.cell? ⟨w.heap.size + 1, 1, none⟩ = some (.slice none 0 0) := by rw [kA1.cell]; rfl
    have tf1 : w1.frozen? ⟨w.heap.size + 1, 1, none⟩ = false := kA1.free 1
    go_wp2
    refine bodyPost_ret (v := .tuple #[.agg #[.int .i64 cap, .slice A ps.length c], .int .i64 (-1), .int .i64 1]) (by simp [results, Try.results40, go_sem, t0, t1]) rfl ⟨_, rfl, ?_, ?_⟩
    · exact ⟨hv.keep ((hY.setCell (p := ⟨w.heap.size + 1, 0, none⟩) (by simp) _).setCell (p := ⟨w.heap.size + 1, 1, none⟩) (by simp) _), fun h => by simp at h⟩
    · exact (hY.setCell (p := ⟨w.heap.size + 1, 0, none⟩) (by simp) _).setCell (p := ⟨w.heap.size + 1, 1, none⟩) (by simp) _
  | true =>
    rw [hm] at hmay
    rw [show allocX cap ps = allocL cap ps ⟨0, 0, 0, 0, 0⟩ from by simp [allocX, hm]]
    have HM := Lib.hid hm
    have hwith := fun (k : Nat) (hk : k < ps.length) v y W h => with_any v cap k y ps W h hk hn
    have HWI := Lib.hid hwith
    have HV := Lib.hid hv
    clear hm hwith
    go_enter Try.func40, Try.ntmps40
    go_wp2_with fail
    refine (hmay _ _ (hv.sl.below hb0)).mono ?_
    rintro e w1 ⟨rfl, hb1⟩
    have hY := hb0.trans (hb1.mono (by simp; try omega))
    have kA0 : Blk w1 w.heap.size 25 #[.int .i64 cap, .slice A ps.length c] := ((Blk.new_ w _ _ _ rfl).alloc _).keep hb1
    have kA1 : Blk w1 (w.heap.size + 1) 25 #[.int .i64 0, .slice none 0 0] := (Blk.new_ _ _ _ _ (by simp)).keep hb1
    have la := kA0.lt
    have lb := kA1.lt
    have s0 : w1.cell? ⟨w.heap.size, 0, none⟩ = some (.int .i64 cap) := by rw [kA0.cell]; rfl
    have sf0 : w1.frozen? ⟨w.heap.size, 0, none⟩ = false := kA0.free 0
    have s1 : w1.cell? ⟨w.heap.size, 1, none⟩ = some (.slice A ps.length c) := by rw [kA0.cell]; rfl
    have sf1 : w1.frozen? ⟨w.heap.size, 1, none⟩ = false := kA0.free 1
    have t0 : w1.cell? ⟨w.heap.size + 1, 0, none⟩ = some (.int .i64 0) := by rw [kA1.cell]; rfl
    have tf0 : w1.frozen? ⟨w.heap.size + 1, 0, none⟩ = false := kA1.free 0
    have t1 : w1.cell? ⟨w.heap.size + 1, 1, none⟩ = some (.slice none 0 0) := by rw [kA1.cell]; rfl
    have tf1 : w1.frozen? ⟨w.heap.size + 1, 1, none⟩ = false := kA1.free 1
    have HP := Lib.hid (fun h : 0 < ps.length => Sl.pos encP encP_len hv.sl h)
    have HK1 := Lib.hid kA1
    have HY := Lib.hid hY
    obtain ⟨n, hnl⟩ : ∃ n, ps.length = n := ⟨_, rfl⟩
    have HN := Lib.hid hnl
    rw [hnl] at s1 hn kA0
    have HK0 := Lib.hid kA0
    clear hmay hv hb0 hb1 kA0 kA1 hY hnl
    go_wp2
    rw [HN.out]
    go_loopg [6] n (fun gg s6 wr => ∃ kk : Nat, kk ≤ n ∧ n - kk ≤ gg ∧ s6 = .int .i64 kk ∧ w1 = wr ∧ Hid (∀ j (h : j < ps.length), j < kk → freeP ps[j] = false))
    case atStart => exact ⟨0, Nat.zero_le _, by omega, rfl, rfl, fun j _ hj => absurd hj (Nat.not_lt_zero _)⟩
    case round =>
      obtain ⟨kk, hkk, hg, rfl, hw, AA⟩ := hrel
      subst hw
      by_cases hlt : kk < n
      · have hltz : (kk : Int) < (n : Int) := by omega
        have hgez : (0 : Int) ≤ (kk : Int) := by omega
        have hk : kk < ps.length := by rw [HN.out]; exact hlt
        obtain ⟨b, o, rfl, hb, hel⟩ := HP.out (by omega)
        have e0 := hel w1 HY.out kk hk 0 _ rfl
        simp only [Nat.add_zero] at e0
        have hbw : b < w1.heap.size := Nat.lt_of_lt_of_le hb HY.out.size
        have hwi := HWI.out kk hk
        clear hel HP HWI
        obtain ⟨x, hx⟩ : ∃ x, ps[kk] = x := ⟨_, rfl⟩
        rw [hx] at e0
        have HX := Lib.hid hx
        clear hx
        cases h0 : (x.r == 0) with
        | true =>
          simp only [encP] at hwi
          go_wp2_with fail
          refine (hwi _ ⟨1, 0, 0, 0, 0⟩ _ (HN.out ▸ HV.out.keep HY.out)).mono ?_
          rintro e w3 ⟨v2, rfl, hst2, hb3⟩
          have hY2 := HY.out.trans (hb3.mono HY.out.size)
          have kB1 := HK1.out.keep hb3
          obtain ⟨sv2, rfl, hrow2⟩ := hst2
          rw [List.length_set] at hrow2
          obtain ⟨A2, c2, rfl, _, _⟩ := (Sl.of_own hrow2).form
          clear s0 s1 sf0 sf1 t0 t1 tf0 tf1
          have t0 : w3.cell? ⟨w.heap.size + 1, 0, none⟩ = some (.int .i64 0) := by rw [kB1.cell]; rfl
          have tf0 : w3.frozen? ⟨w.heap.size + 1, 0, none⟩ = false := kB1.free 0
          have t1 : w3.cell? ⟨w.heap.size + 1, 1, none⟩ = some (.slice none 0 0) := by rw [kB1.cell]; rfl
          have tf1 : w3.frozen? ⟨w.heap.size + 1, 1, none⟩ = false := kB1.free 1
          have hal : allocL cap ps ⟨0, 0, 0, 0, 0⟩ = ((kk : Int), 0, ps.set kk ⟨1, 0, 0, 0, 0⟩) := by
            have hidx : idxF freeP ps = kk := idxF_hit freeP ps kk hk (by rw [HX.out]; exact h0) (fun j hj => AA.out j (by omega) hj)
            unfold allocL
            rw [hidx, if_neg (by omega)]
            rfl
          have HAL := Lib.hid hal
          clear hal
          go_wp2
          rw [HAL.out]
          refine bodyPost_ret (v := .tuple #[.agg #[.int .i64 cap, .slice A2 ps.length c2], .int .i64 kk, .int .i64 0]) (by simp [results, Try.results40, go_sem, t0, t1]) rfl ⟨_, rfl, ?_, ?_⟩
          · have hlen : (ps.set kk (⟨1, 0, 0, 0, 0⟩ : Pg)).length = ps.length := List.length_set
            have hzz := HY.out.size
            have hfin := ownsRow_mono (ownsRow_setCell_below (ownsRow_setCell_below hrow2 (a := ⟨w.heap.size + 1, 0, none⟩) (by simp; omega) (.int .i64 cap)) (a := ⟨w.heap.size + 1, 1, none⟩) (by simp; omega) (.slice A2 ps.length c2)) hzz
            have hfin2 : StO _ w.heap.size (.agg #[.int .i64 cap, .slice A2 ps.length c2]) cap (ps.set kk ⟨1, 0, 0, 0, 0⟩) := ⟨_, rfl, by rw [hlen]; exact hfin⟩
            exact ⟨hfin2.to, fun _ => hfin2⟩
          · exact (hY2.setCell (p := ⟨w.heap.size + 1, 0, none⟩) (by simp) _).setCell (p := ⟨w.heap.size + 1, 1, none⟩) (by simp) _
        | false =>
          go_wp2
          go_roundg (n - (kk + 1))
          case measure => omega
          case rel =>
            refine ⟨kk + 1, by omega, by omega, by go_num, rfl, (show Hid _ from fun j h hj => ?_)⟩
            by_cases e : j = kk
            · subst e
              rw [HX.out]; exact h0
            · exact AA.out j h (by omega)
      · obtain rfl : n = kk := by omega
        have hltz : ¬ (n : Int) < (n : Int) := by omega
        have HI := Lib.hid (show idxF freeP ps = -1 from idxF_miss freeP ps fun j h => AA.out j h (by rw [HN.out] at h; exact h))
        clear HP HWI
        cases hfl : ((n : Int) == cap) with
        | true =>
          have hal : allocL cap ps ⟨0, 0, 0, 0, 0⟩ = (-1, 8, ps) := by
            unfold allocL
            rw [HI.out, HN.out, if_pos rfl, if_pos (by simpa using hfl)]
          have HAL := Lib.hid hal
          clear hal
          have hv := HV.out
          rw [HN.out] at hv
          have hY := HY.out
          go_wp2
          rw [HAL.out]
          refine bodyPost_ret (v := .tuple #[.agg #[.int .i64 cap, .slice A n c], .int .i64 (-1), .int .i64 8]) (by simp [results, Try.results40, go_sem, t0, t1]) rfl ⟨_, rfl, ?_, ?_⟩
          · exact ⟨hv.keep ((hY.setCell (p := ⟨w.heap.size + 1, 0, none⟩) (by simp) _).setCell (p := ⟨w.heap.size + 1, 1, none⟩) (by simp) _), fun h => by simp at h⟩
          · exact (hY.setCell (p := ⟨w.heap.size + 1, 0, none⟩) (by simp) _).setCell (p := ⟨w.heap.size + 1, 1, none⟩) (by simp) _
        | false =>
          have hal : allocL cap ps ⟨0, 0, 0, 0, 0⟩ = ((n : Int), 0, ps ++ [⟨1, 0, 0, 0, 0⟩]) := by
            unfold allocL
            rw [HI.out, HN.out, if_pos rfl, if_neg (by simpa using hfl)]
          have HAL := Lib.hid hal
          clear hal
          have HSL := Lib.hid (show Sl w1 5 (.slice A n c) n (ps.flatMap encP) from by
            have h := (HV.out.sl).below HY.out
            rwa [HN.out] at h)
          go_wp2_with (first | (at_builtin; refine wpList_append_sl rfl (.const (.slice none 0 0)) (.tmp 39) _ rfl w1.heap.size 54 i0 _ 5 40 Try.underlying23 hi0 hz0 hz1 hz2 rfl (by omega) (.slice none 0 0) 0 [] rfl (World.ownsRow_nil _ _ _ _) A n c (ps.flatMap encP) rfl HSL.out (encP_one ps) (by unfold maxLen; omega) (by omega) (Nat.le_refl _) ?_; intro v1 w2 hown1 hg1; simp only [Nat.zero_add, List.nil_append] at hown1; have HO1 := Lib.hid hown1; have HG1 := Lib.hid hg1; clear hown1 hg1; have hbA := (Below.refl w2.heap.size w2).alloc (Nat.le_refl _) (.cells #[.int .i64 1, .int .i64 0, .int .i64 0, .int .i64 0, .int .i64 0] 54); have HO2 := Lib.hid (own_below HO1.out hbA); have hnB : Blk (w2.alloc (.cells #[.int .i64 1, .int .i64 0, .int .i64 0, .int .i64 0, .int .i64 0] 54)) w2.heap.size 54 #[.int .i64 1, .int .i64 0, .int .i64 0, .int .i64 0, .int .i64 0] := Blk.new _ _ _; have HNEW := Lib.hid (show ∀ j u, (encP ⟨1, 0, 0, 0, 0⟩)[j]? = some u → (w2.alloc (.cells #[.int .i64 1, .int .i64 0, .int .i64 0, .int .i64 0, .int .i64 0] 54)).cell? ((⟨w2.heap.size, 0, none⟩ : Addr).add j) = some u from (by intro j u hu; rw [add_none, Nat.zero_add, hnB.cell]; simpa [encP] using hu)); have hb12 : Below w1.heap.size w1 w2 := (Below.refl _ _).grown HG1.out (Nat.le_refl _) (by simp [Value.ownBlock]); have HK0b := Lib.hid ((HK0.out.keep hb12).keep hbA); have HK1b := Lib.hid ((HK1.out.keep hb12).keep hbA); have HNE0 := Lib.hid (own_ne HO2.out HK0b.out (by decide)); have HNE1 := Lib.hid (own_ne HO2.out HK1b.out (by decide)); have HYb := Lib.hid ((HY.out.trans (hb12.mono HY.out.size)).trans (hbA.mono (HY.out.trans (hb12.mono HY.out.size)).size)); have hz12 := hb12.size; have hz01 := HY.out.size; clear hnB hbA hb12 s0 s1 sf0 sf1 t0 t1 tf0 tf1) | (at_builtin; refine wpList_append_own_at _ rfl (.tmp 40) (.tmp 42) _ rfl w1.heap.size 54 i0 _ 5 40 Try.underlying23 hi0 hz0 hz1 hz2 rfl (by omega) v1 n _ rfl HO2.out ⟨w2.heap.size, 0, none⟩ 1 1 (encP ⟨1, 0, 0, 0, 0⟩) rfl rfl HNEW.out (by simp [encP, Value.oneCell']) (by unfold maxLen; omega) (by omega) (by have := HG1.out.size; simp; omega) ?_; intro v3 w3 hown3 hg3 _ _; have HO3 := Lib.hid hown3; have HG3 := Lib.hid hg3; obtain ⟨g, gc, cur, rfl, hgg, hrow, _, _, _, _⟩ := own_form hown3 (by omega); clear hown3 hg3 hrow; have kD0 := HK0b.out.grown HG3.out (Ne.symm HNE0.out); have kD1 := HK1b.out.grown HG3.out (Ne.symm HNE1.out); have la3 := kD0.lt; have lb3 := kD1.lt; have s0 : w3.cell? ⟨w.heap.size, 0, none⟩ = some (.int .i64 cap) := (by rw [kD0.cell]; rfl); have sf0 : w3.frozen? ⟨w.heap.size, 0, none⟩ = false := kD0.free 0; have s1 : w3.cell? ⟨w.heap.size, 1, none⟩ = some (.slice A n c) := (by rw [kD0.cell]; rfl); have sf1 : w3.frozen? ⟨w.heap.size, 1, none⟩ = false := kD0.free 1; have t0 : w3.cell? ⟨w.heap.size + 1, 0, none⟩ = some (.int .i64 0) := (by rw [kD1.cell]; rfl); have tf0 : w3.frozen? ⟨w.heap.size + 1, 0, none⟩ = false := kD1.free 0; have t1 : w3.cell? ⟨w.heap.size + 1, 1, none⟩ = some (.slice none 0 0) := (by rw [kD1.cell]; rfl); have tf1 : w3.frozen? ⟨w.heap.size + 1, 1, none⟩ = false := kD1.free 1))
          have hr3 := HO3.out
          rw [flat_app] at hr3
          have HR4 := Lib.hid (show World.ownsRow _ w1.heap.size 54 5 (.slice (some ⟨g, 0, none⟩) (n + 1) gc) (n + 1) ((ps ++ [(⟨1, 0, 0, 0, 0⟩ : Pg)]).flatMap encP) from ownsRow_setCell_below hr3 (a := ⟨w.heap.size, 1, none⟩) (by simp; omega) (.slice (some ⟨g, 0, none⟩) (n + 1) gc))
          have hYc := HYb.out.grown HG3.out (by simp; omega) (by
            intro k hk
            have := (HO2.out.lt k hk).1
            omega)
          have hYd := hYc.setCell (p := ⟨w.heap.size, 1, none⟩) (by simp) (.slice (some ⟨g, 0, none⟩) (n + 1) gc)
          have kE0 := kD0.set_ 1 (.slice (some ⟨g, 0, none⟩) (n + 1) gc)
          have kE1 := kD1.far (p := ⟨w.heap.size, 1, none⟩) (by simp) (.slice (some ⟨g, 0, none⟩) (n + 1) gc)
          clear hr3 hYc s0 s1 sf0 sf1 t0 t1 tf0 tf1 la3 lb3
          obtain ⟨w4, hw4⟩ : ∃ x, w3.setCell ⟨w.heap.size, 1, none⟩ (.slice (some ⟨g, 0, none⟩) (n + 1) gc) = x := ⟨_, rfl⟩
          rw [hw4] at HR4 hYd kE0 kE1 ⊢
          have kE0 : Blk w4 w.heap.size 25 #[.int .i64 cap, .slice (some ⟨g, 0, none⟩) (n + 1) gc] := kE0
          clear hw4 kD0 kD1
          have s0 : w4.cell? ⟨w.heap.size, 0, none⟩ = some (.int .i64 cap) := by rw [kE0.cell]; rfl
          have sf0 : w4.frozen? ⟨w.heap.size, 0, none⟩ = false := kE0.free 0
          have s1 : w4.cell? ⟨w.heap.size, 1, none⟩ = some (.slice (some ⟨g, 0, none⟩) (n + 1) gc) := by rw [kE0.cell]; rfl
          have sf1 : w4.frozen? ⟨w.heap.size, 1, none⟩ = false := kE0.free 1
          have t0 : w4.cell? ⟨w.heap.size + 1, 0, none⟩ = some (.int .i64 0) := by rw [kE1.cell]; rfl
          have tf0 : w4.frozen? ⟨w.heap.size + 1, 0, none⟩ = false := kE1.free 0
          have t1 : w4.cell? ⟨w.heap.size + 1, 1, none⟩ = some (.slice none 0 0) := by rw [kE1.cell]; rfl
          have tf1 : w4.frozen? ⟨w.heap.size + 1, 1, none⟩ = false := kE1.free 1
          have hwr : IntKind.i64.wrap (n : Int) = (n : Int) := by rw [IntKind.wrap_i64]; omega
          refine wp_region_held_drew (S := fun w' => w'.cell? ⟨w.heap.size, 0, none⟩ = some (.int .i64 cap) ∧ w'.cell? ⟨w.heap.size, 1, none⟩ = some (.slice (some ⟨g, 0, none⟩) (n + 1) gc)) (by kernel_rfl) ?_ (fun hHeldbr => ?_)
          · exact ⟨s0, s1⟩
          refine wpAnyH_take (i := 0) (oi := { dst := some 45, op := Op.load 25 (Operand.tmp 1), type := 25, pos := "ref.go:72", after := _, guard := none }) (v := ?vbr0) rfl (by kernel_rfl) (by kernel_rfl) (by kernel_rfl) (fun _ _ _ h => h) (Or.inl ⟨by rfl, ?hybr0⟩) (by assumption) ?restbr0
          case hybr0 => (intro w hSw; (try dsimp only at hSw); go_simp <;> with_reducible rfl)
          try simp only [Act.put, List.setIfInBounds_toArray, List.set_cons_zero, List.set_cons_succ]
          refine wpAnyH_take (i := 1) (oi := { dst := some 46, op := Op.fieldAddr 25 (Operand.tmp 1) 1, type := 0, pos := "ref.go:72", after := _, guard := none }) (v := ?vbr1) rfl (by kernel_rfl) (by kernel_rfl) (by kernel_rfl) (fun _ _ _ h => h) (Or.inl ⟨by rfl, ?hybr1⟩) (by assumption) ?restbr1
          case hybr1 => (intro w hSw; (try dsimp only at hSw); go_simp <;> with_reducible rfl)
          try simp only [Act.put, List.setIfInBounds_toArray, List.set_cons_zero, List.set_cons_succ]
          refine wpAnyH_take (i := 2) (oi := { dst := some 47, op := Op.load 23 (Operand.tmp 46), type := 23, pos := "ref.go:72", after := _, guard := none }) (v := ?vbr2) rfl (by kernel_rfl) (by kernel_rfl) (by kernel_rfl) (fun _ _ _ h => h) (Or.inl ⟨by rfl, ?hybr2⟩) (by assumption) ?restbr2
          case hybr2 => (intro w hSw; (try dsimp only at hSw); go_simp <;> with_reducible rfl)
          try simp only [Act.put, List.setIfInBounds_toArray, List.set_cons_zero, List.set_cons_succ]
          refine wpAnyH_take (i := 3) (oi := { dst := some 48, op := Op.call { callee := Callee.builtin Builtin.len, args := #[Operand.tmp 47], argTypes := #[23] }, type := 3, pos := "ref.go:72", after := _, guard := none }) (v := ?vbr3) rfl (by kernel_rfl) (by kernel_rfl) (by kernel_rfl) (fun _ _ _ h => h) (Or.inl ⟨by rfl, ?hybr3⟩) (by assumption) ?restbr3
          case hybr3 => (intro w hSw; (try dsimp only at hSw); go_simp <;> with_reducible rfl)
          try simp only [Act.put, List.setIfInBounds_toArray, List.set_cons_zero, List.set_cons_succ]
          refine wpAnyH_take (i := 4) (oi := { dst := some 49, op := Op.binOp BinOp.sub 3 (Operand.tmp 48) (Operand.const (Value.int IntKind.i64 1)) 3, type := 3, pos := "ref.go:72", after := _, guard := none }) (v := .int .i64 (n : Int)) rfl (by kernel_rfl) (by kernel_rfl) (by kernel_rfl) (fun _ _ _ h => h) (Or.inl ⟨by rfl, ?hybr4⟩) (by assumption) ?restbr4
          case hybr4 => (intro w hSw; (try dsimp only at hSw); go_simp <;> first | done | with_reducible rfl | omega | (simp; done) | (simp; omega) | (simp [*]; done) | (simp [*]; omega) | exact decide_eq_false (by omega) | exact decide_eq_true (by omega))
          try simp only [Act.put, List.setIfInBounds_toArray, List.set_cons_zero, List.set_cons_succ]
          refine wpAnyH_ready (rs := [5]) (by kernel_rfl) (by simp) ?_
          refine AllReadyH.cons (o := { dst := none, op := Op.store 25 (Operand.tmp 2) (Operand.tmp 45), type := 0, pos := "ref.go:72", after := _, guard := none }) rfl (fun K hK => ?_) AllReadyH.nil
          go_simp
          skip
          refine hK.out _ _ ?_ (fun hHeldbr5 => ?_)
          · go_keep
          clear hK K hHeldbr
          try simp only [Act.put, List.setIfInBounds_toArray, List.set_cons_zero, List.set_cons_succ]
          refine wpAnyH_ready (rs := [6]) (by kernel_rfl) (by simp) ?_
          refine AllReadyH.cons (o := { dst := some 3, op := Op.assign (Operand.tmp 49), type := 3, pos := "ref.go:72", after := _, guard := none }) rfl (fun K hK => ?_) AllReadyH.nil
          go_simp
          skip
          refine hK.out _ _ ?_ (fun hHeldbr6 => ?_)
          · go_keep
          clear hK K hHeldbr5
          try simp only [Act.put, List.setIfInBounds_toArray, List.set_cons_zero, List.set_cons_succ]
          refine wpAnyH_ready (rs := [7]) (by kernel_rfl) (by simp) ?_
          refine AllReadyH.cons (o := { dst := some 4, op := Op.assign (Operand.const (Value.int IntKind.i64 0)), type := 31, pos := "ref.go:72", after := _, guard := none }) rfl (fun K hK => ?_) AllReadyH.nil
          go_simp
          skip
          refine hK.out _ _ ?_ (fun hHeldbr7 => ?_)
          · go_keep
          clear hK K hHeldbr6
          try simp only [Act.put, List.setIfInBounds_toArray, List.set_cons_zero, List.set_cons_succ]
          refine wpAnyH_done (by kernel_rfl) ?_ _
          go_wp2
          rw [HAL.out]
          refine bodyPost_ret (v := .tuple #[.agg #[.int .i64 cap, .slice (some ⟨g, 0, none⟩) (n + 1) gc], .int .i64 n, .int .i64 0]) (by simp [results, Try.results40, go_sem, t0, t1]) rfl ⟨_, rfl, ?_, ?_⟩
          · have hlen : (ps ++ [(⟨1, 0, 0, 0, 0⟩ : Pg)]).length = n + 1 := by rw [List.length_append, HN.out]; rfl
            have hfin := ownsRow_mono (ownsRow_setCell_below (ownsRow_setCell_below (own_drew HR4.out) (a := ⟨w.heap.size + 1, 0, none⟩) (by simp; omega) (.int .i64 cap)) (a := ⟨w.heap.size + 1, 1, none⟩) (by simp; omega) (.slice (some ⟨g, 0, none⟩) (n + 1) gc)) HY.out.size
            have hfin2 : StO _ w.heap.size (.agg #[.int .i64 cap, .slice (some ⟨g, 0, none⟩) (n + 1) gc]) cap (ps ++ [⟨1, 0, 0, 0, 0⟩]) := ⟨_, rfl, by rw [hlen]; exact hfin⟩
            exact ⟨hfin2.to, fun _ => hfin2⟩
          · exact (hYd.drew.setCell (p := ⟨w.heap.size + 1, 0, none⟩) (by simp) _).setCell (p := ⟨w.heap.size + 1, 1, none⟩) (by simp) _

end Go.Proofs.Ytoogobenjhmjjaa
