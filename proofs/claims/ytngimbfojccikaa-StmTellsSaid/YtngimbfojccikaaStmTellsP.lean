/- Several texts in one: StZero, RsSame. -/
import Derived.Test.YtngimbfojccikaaStmTellsL
import Derived.Test.YtngimbfojccikaaStmTellsM
import Derived.Test.YtngimbfojccikaaStmTellsK
import Derived.Test.YtngimbfojccikaaRsRunm
import Derived.Test.YtngimbfojccikaaStSamem
import Derived.Test.YtngimbfojccikaaStSame2m
namespace Go.Proofs.Ytngimbfojccikaa
set_option linter.unusedSimpArgs false
open Go Go.RowKit
set_option linter.unusedVariables false
set_option maxRecDepth 100000

def Mm.zero : Mm := ⟨[], 0, 0, [], [], [], 0⟩
def Mv.zero : Mv := ⟨none, 0, none, 0, none, 0, none, 0⟩
theorem memG_zero (w : World) : MemG w Mv.zero Mm.zero := ⟨Sl.nil _ _, Sl.nil _ _, Sl.nil _ _, Sl.nil _ _, fun t h => absurd h List.not_mem_nil, fun t h => absurd h List.not_mem_nil⟩


set_option maxHeartbeats 4000000 in
theorem idle0_any (words mx : Int) (pl : List (List (List Ac))) (pv : Value) (who : Int) (w : World) (hpl : PlV w pv pl) :
    Calls Try.prog 18 #[planV words mx pv, .agg (Mv.zero.cells Mm.zero).toArray, .int .i64 who] w fun e w' => e = .returned (.bool true) ∧ Below w.heap.size w w' := by
  obtain ⟨A, c, rfl, _, _⟩ := hpl.form
  have kX := Blk.new w 24 #[.int .i64 words, .int .i64 mx, .slice A pl.length c]
  have bX : Below w.heap.size w (w.alloc (.cells #[.int .i64 words, .int .i64 mx, .slice A pl.length c] 24)) := (Below.refl _ w).alloc (Nat.le_refl _) _
  have kY := Blk.new (w.alloc (.cells #[.int .i64 words, .int .i64 mx, .slice A pl.length c] 24)) 34 (Mv.zero.cells Mm.zero).toArray
  have kX := kX.keep (show Below _ _ ((w.alloc (.cells #[.int .i64 words, .int .i64 mx, .slice A pl.length c] 24)).alloc (.cells (Mv.zero.cells Mm.zero).toArray 34)) from (Below.refl _ _).alloc (Nat.le_refl _) _)
  have bY : Below w.heap.size w ((w.alloc (.cells #[.int .i64 words, .int .i64 mx, .slice A pl.length c] 24)).alloc (.cells (Mv.zero.cells Mm.zero).toArray 34)) := bX.alloc (by simp) _
  have hb0 : (w.alloc (.cells #[.int .i64 words, .int .i64 mx, .slice A pl.length c] 24)).heap.size = w.heap.size + 1 := by simp
  rw [hb0] at kY
  obtain ⟨w2, hw2⟩ : ∃ z, (w.alloc (.cells #[.int .i64 words, .int .i64 mx, .slice A pl.length c] 24)).alloc (.cells (Mv.zero.cells Mm.zero).toArray 34) = z := ⟨_, rfl⟩
  rw [hw2] at kX kY bY
  have HW := Lib.hid hw2
  have HB := Lib.hid bY
  have p2 : w2.cell? ⟨w.heap.size, 2, none⟩ = some (.slice A pl.length c) := by rw [kX.cell]; rfl
  have y4 : w2.cell? ⟨w.heap.size + 1, 4, none⟩ = some (.slice none 0 0) := by rw [kY.cell]; rfl
  clear kX kY hw2 hb0 bX bY hpl
  simp only [Mv.zero, Mm.zero, Mv.cells, planV, List.length_nil] at HW ⊢
  generalize pl.length = n at *
  by_cases h0 : who < 0
  · clear p2 y4
    go_enter Try.func18, Try.ntmps18
    go_wp2_with fail
    go_ret
    refine ⟨rfl, ?_⟩
    rw [HW.out]
    exact HB.out
  obtain ⟨k, rfl⟩ : ∃ k : Nat, who = (k : Int) := ⟨who.toNat, by omega⟩
  have h1z : (0 : Int) ≤ (k : Int) := by omega
  go_enter Try.func18, Try.ntmps18
  go_wp2_with fail
  go_ret
  refine ⟨rfl, ?_⟩
  rw [HW.out]
  exact HB.out


set_option maxHeartbeats 4000000 in
theorem ridle0_any (words mx : Int) (pl : List (List (List Ac))) (pv : Value) (who : Int) (w : World) (hpl : PlV w pv pl) :
    Calls Try.prog 16 #[planV words mx pv, .agg (Mv.zero.cells Mm.zero).toArray, .int .i64 who] w fun e w' => e = .returned (.bool true) ∧ Below w.heap.size w w' := by
  obtain ⟨A, c, rfl, _, _⟩ := hpl.form
  have kX := Blk.new w 24 #[.int .i64 words, .int .i64 mx, .slice A pl.length c]
  have bX : Below w.heap.size w (w.alloc (.cells #[.int .i64 words, .int .i64 mx, .slice A pl.length c] 24)) := (Below.refl _ w).alloc (Nat.le_refl _) _
  have kY := Blk.new (w.alloc (.cells #[.int .i64 words, .int .i64 mx, .slice A pl.length c] 24)) 34 (Mv.zero.cells Mm.zero).toArray
  have kX := kX.keep (show Below _ _ ((w.alloc (.cells #[.int .i64 words, .int .i64 mx, .slice A pl.length c] 24)).alloc (.cells (Mv.zero.cells Mm.zero).toArray 34)) from (Below.refl _ _).alloc (Nat.le_refl _) _)
  have bY : Below w.heap.size w ((w.alloc (.cells #[.int .i64 words, .int .i64 mx, .slice A pl.length c] 24)).alloc (.cells (Mv.zero.cells Mm.zero).toArray 34)) := bX.alloc (by simp) _
  have hb0 : (w.alloc (.cells #[.int .i64 words, .int .i64 mx, .slice A pl.length c] 24)).heap.size = w.heap.size + 1 := by simp
  rw [hb0] at kY
  obtain ⟨w2, hw2⟩ : ∃ z, (w.alloc (.cells #[.int .i64 words, .int .i64 mx, .slice A pl.length c] 24)).alloc (.cells (Mv.zero.cells Mm.zero).toArray 34) = z := ⟨_, rfl⟩
  rw [hw2] at kX kY bY
  have HW := Lib.hid hw2
  have HB := Lib.hid bY
  have p2 : w2.cell? ⟨w.heap.size, 2, none⟩ = some (.slice A pl.length c) := by rw [kX.cell]; rfl
  have y4 : w2.cell? ⟨w.heap.size + 1, 4, none⟩ = some (.slice none 0 0) := by rw [kY.cell]; rfl
  clear kX kY hw2 hb0 bX bY hpl
  simp only [Mv.zero, Mm.zero, Mv.cells, planV, List.length_nil] at HW ⊢
  generalize pl.length = n at *
  by_cases h0 : who < 0
  · clear p2 y4
    go_enter Try.func16, Try.ntmps16
    go_wp2_with fail
    go_ret
    refine ⟨rfl, ?_⟩
    rw [HW.out]
    exact HB.out
  obtain ⟨k, rfl⟩ : ∃ k : Nat, who = (k : Int) := ⟨who.toNat, by omega⟩
  have h1z : (0 : Int) ≤ (k : Int) := by omega
  go_enter Try.func16, Try.ntmps16
  go_wp2_with fail
  go_ret
  refine ⟨rfl, ?_⟩
  rw [HW.out]
  exact HB.out


/-- What a run hands back: a state like the plan's, or none. -/
def RunG (w : World) (s : Mm) (b : Bool) (e : Ending) (w' : World) : Prop :=
  ∃ p m, e = .returned (.tuple #[.agg (p.cells m).toArray, .bool b]) ∧ MemG w' p m ∧ m.er = s.er ∧ Below w.heap.size w w'
def IdleG (words mx : Int) (pl : List (List (List Ac))) (pv : Value) (who : Int) (p : Mv) (m : Mm) (w : World) : Prop :=
  ∃ id, ∀ W, Below w.heap.size w W → PlV W pv pl → Calls Try.prog 18 #[planV words mx pv, .agg (p.cells m).toArray, .int .i64 who] W (fun e w' => e = .returned (.bool id) ∧ Below W.heap.size W w') ∧
    Calls Try.prog 16 #[planV words mx pv, .agg (p.cells m).toArray, .int .i64 who] W (fun e w' => e = .returned (.bool id) ∧ Below W.heap.size W w')
def RunI (words mx : Int) (pl : List (List (List Ac))) (pv : Value) (who : Int) (w : World) (s : Mm) (b : Bool) (e : Ending) (w' : World) : Prop :=
  ∃ p m, e = .returned (.tuple #[.agg (p.cells m).toArray, .bool b]) ∧ MemG w' p m ∧ m.er = s.er ∧ IdleG words mx pl pv who p m w' ∧ Below w.heap.size w w'
def specG (words mx : Int) (pl : List (List (List Ac))) (l : List Int) : Mm := if mayP words mx pl = true then runM words.toNat mx pl l else Mm.zero

theorem run_gen (words mx : Int) (pl : List (List (List Ac))) (pv kv : Value) (who : Int) (l : List Int) (w : World) (hpl : PlV w pv pl) (hkv : Sl w 1 kv l.length (l.flatMap encI)) (hl : l.length ≤ 900) :
    Calls Try.prog 12 #[planV words mx pv, kv] w (RunI words mx pl pv who w (specG words mx pl l) (mayP words mx pl)) := by
  cases hm : mayP words mx pl with
  | false =>
    refine (run_no words mx pl pv kv w hpl hm).mono ?_
    rintro e w' ⟨rfl, hb⟩
    refine ⟨Mv.zero, Mm.zero, rfl, memG_zero _, by rw [specG, hm]; rfl, ⟨true, fun W _ hp => ⟨idle0_any words mx pl pv who W hp, ridle0_any words mx pl pv who W hp⟩⟩, hb⟩
  | true =>
    obtain ⟨n, rfl, hP⟩ := planOk_of hm
    refine (run_yes n mx pl pv kv l w hpl hkv hm hl).mono ?_
    rintro e w' ⟨a, m, rfl, hv, her, hb⟩
    have hg : Good n pl m := good_er (by rw [her]; exact good_er2 (good_run hP l).1)
    refine ⟨a.mv, m, rfl, hv.gen, by rw [specG, hm, if_pos rfl, her, Int.toNat_natCast], ⟨idleL pl m who, fun W hw hp => ⟨Idle_any n mx pl pv a m who W hp (hv.below hw) hg.T, rIdle_any n mx pl pv a m who W hp (hv.below hw) hg.T⟩⟩, hb⟩
theorem rrun_gen (words mx : Int) (pl : List (List (List Ac))) (pv kv : Value) (l : List Int) (w : World) (hpl : PlV w pv pl) (hkv : Sl w 1 kv l.length (l.flatMap encI)) (hl : l.length ≤ 900) :
    Calls Try.prog 13 #[planV words mx pv, kv] w (RunG w (specG words mx pl l) (mayP words mx pl)) := by
  cases hm : mayP words mx pl with
  | false =>
    refine (rrun_no words mx pl pv kv w hpl hm).mono ?_
    rintro e w' ⟨rfl, hb⟩
    exact ⟨Mv.zero, Mm.zero, rfl, memG_zero _, by rw [specG, hm]; rfl, hb⟩
  | true =>
    obtain ⟨n, rfl, hP⟩ := planOk_of hm
    refine (rrun_yes n mx pl pv kv l w hpl hkv hm hl).mono ?_
    rintro e w' ⟨a, m, rfl, hv, her, hb⟩
    exact ⟨a.mv, m, rfl, hv.gen, by rw [specG, hm, if_pos rfl, her, Int.toNat_natCast], hb⟩
end Go.Proofs.Ytngimbfojccikaa
namespace Go.Proofs.Ytngimbfojccikaa
set_option linter.unusedSimpArgs false
open Go Go.RowKit
set_option linter.unusedVariables false
set_option maxRecDepth 100000

set_option maxHeartbeats 8000000 in
theorem rpairs_any (v1 v2 : Value) (xs ys : List Pr) (w : World) (hv1 : Sl w 2 v1 xs.length (xs.flatMap encPr)) (hv2 : Sl w 2 v2 ys.length (ys.flatMap encPr)) :
    Calls Try.prog 55 #[v1, v2] w fun e w' => e = .returned (.bool (eqL prEq xs ys)) ∧ Below w.heap.size w w' := by
  obtain ⟨A1, c1, rfl, _, hm1⟩ := hv1.form
  obtain ⟨A2, c2, rfl, _, _⟩ := hv2.form
  by_cases hlen : xs.length = ys.length
  case neg =>
    have he : eqL prEq xs ys = false := by
      cases h : eqL prEq xs ys with
      | false => rfl
      | true => exact absurd (eqL_len h) hlen
    rw [he]
    clear hv1 hv2 he
    generalize xs.length = n at *
    generalize ys.length = m at *
    have hne : ((n : Int) != (m : Int)) = true := by simp; omega
    clear hlen
    go_enter Try.func55, Try.ntmps55
    go_wp2
    go_ret
    exact ⟨rfl, Below.refl _ _⟩
  have hbig : xs.length ≤ 9223372036854775807 := by obtain ⟨_, _, _, h6, h7⟩ := hv1.form; unfold maxLen at h7; omega
  have HP1 := Lib.hid (fun h => Sl.pos encPr encPr_len hv1 h)
  have HP2 := Lib.hid (fun h => Sl.pos encPr encPr_len hv2 h)
  have HL := Lib.hid hlen
  obtain ⟨n, hn⟩ : ∃ n, xs.length = n := ⟨_, rfl⟩
  have hn2 : ys.length = n := by rw [← hlen, hn]
  have HN := Lib.hid hn
  have HN2 := Lib.hid hn2
  rw [hn] at hbig
  rw [hn, hn2]
  clear hv1 hv2 hlen hn hn2 hm1
  have hnn : ((n : Int) != (n : Int)) = false := by simp
  go_enter Try.func55, Try.ntmps55
  go_wp2_with fail
  go_loopg [5] n (fun gg s5 wr => ∃ kk : Nat, kk ≤ n ∧ n - kk ≤ gg ∧ s5 = .int .i64 kk ∧ Hid (Below w.heap.size w wr) ∧ Hid (∀ j (h : j < xs.length) (h2 : j < ys.length), j < kk → prEq xs[j] ys[j] = true))
  case atStart => exact ⟨0, Nat.zero_le _, by omega, rfl, Below.refl _ _, fun j _ _ hj => absurd hj (Nat.not_lt_zero _)⟩
  case round =>
    obtain ⟨kk, hkk, hg, rfl, BW, AA⟩ := hrel
    by_cases hlt : kk < n
    · have hltz : (kk : Int) < (n : Int) := by omega
      have hgez : (0 : Int) ≤ (kk : Int) := by omega
      have hlt1 : kk < xs.length := by rw [HN.out]; exact hlt
      have hlt2 : kk < ys.length := by rw [HN2.out]; exact hlt
      obtain ⟨b1, o1, rfl, hb1, he1⟩ := HP1.out (by omega)
      obtain ⟨b2, o2, rfl, hb2, he2⟩ := HP2.out (by omega)
      have x0 := he1 wr BW.out kk hlt1 0 _ rfl
      have x1 := he1 wr BW.out kk hlt1 1 _ rfl
      have y0 := he2 wr BW.out kk hlt2 0 _ rfl
      have y1 := he2 wr BW.out kk hlt2 1 _ rfl
      simp only [Nat.add_zero] at x0 y0
      clear he1 he2 HP1 HP2
      have hne := fun w => neq_pair xs[kk] ys[kk] w
      have hgd := fun a b w => guard_pair .neq a b xs[kk] ys[kk] w
      generalize hX : xs[kk] = x at x0 x1 hne hgd
      generalize hY : ys[kk] = y at y0 y1 hne hgd
      have HX := Lib.hid hX
      have HY := Lib.hid hY
      clear hX hY
      simp only [encPr] at hne hgd
      cases hq : prEq x y with
      | true =>
        rw [hq] at hne
        have HQ := Lib.hid hq
        clear hq
        go_wp2_with fail
        refine wp_region_held_drew (S := fun w' => w'.cell? ⟨b1, o1 + kk * 2, none⟩ = some (.int .i64 x.at_) ∧ w'.cell? ⟨b1, o1 + kk * 2 + 1, none⟩ = some (.int .i64 x.v) ∧ w'.cell? ⟨b2, o2 + kk * 2, none⟩ = some (.int .i64 y.at_) ∧ w'.cell? ⟨b2, o2 + kk * 2 + 1, none⟩ = some (.int .i64 y.v)) (by kernel_rfl) ?_ (fun hbr => ?_)
        · exact ⟨x0, x1, y0, y1⟩
        refine tkA 0 ?_
        refine tkA 1 ?_
        refine tkA 2 ?_
        refine tkA 3 ?_
        refine tkA 4 ?_
        refine tkA 5 ?_
        refine tkA 6 ?_
        refine tkA 7 ?_
        refine tkA 8 ?_
        refine wpAnyH_done (by kernel_rfl) ?_ _
        go_wp2
        go_roundg (n - (kk + 1))
        case measure => omega
        case rel =>
          refine ⟨kk + 1, by omega, by omega, by go_num, BW.out.drew, (show Hid _ from fun j h h2 hj => ?_)⟩
          by_cases e : j = kk
          · subst e
            rw [HX.out, HY.out]; exact HQ.out
          · exact AA.out j h h2 (by omega)
      | false =>
        rw [hq] at hne
        have HQ := Lib.hid hq
        clear hq
        go_wp2_with fail
        refine wp_region_held_drew (S := fun w' => w'.cell? ⟨b1, o1 + kk * 2, none⟩ = some (.int .i64 x.at_) ∧ w'.cell? ⟨b1, o1 + kk * 2 + 1, none⟩ = some (.int .i64 x.v) ∧ w'.cell? ⟨b2, o2 + kk * 2, none⟩ = some (.int .i64 y.at_) ∧ w'.cell? ⟨b2, o2 + kk * 2 + 1, none⟩ = some (.int .i64 y.v)) (by kernel_rfl) ?_ (fun hcr => ?_)
        · exact ⟨x0, x1, y0, y1⟩
        refine tkA 0 ?_
        refine tkA 1 ?_
        refine tkA 2 ?_
        refine tkA 3 ?_
        refine tkA 4 ?_
        refine tkA 5 ?_
        refine tkA 6 ?_
        refine tkA 7 ?_
        refine tkA 8 ?_
        refine wpAnyH_done (by kernel_rfl) ?_ _
        go_wp2
        go_ret
        refine ⟨?_, BW.out.drew⟩
        have : eqL prEq xs ys = false := by
          cases he : eqL prEq xs ys with
          | false => rfl
          | true =>
            have := eqL_at HL.out kk hlt1 he
            rw [HX.out, HY.out, HQ.out] at this
            exact this.symm
        rw [this]
        rfl
    · have hltz : ¬ (kk : Int) < (n : Int) := by omega
      obtain rfl : n = kk := by omega
      clear HP1 HP2
      go_wp2
      go_ret
      refine ⟨?_, BW.out⟩
      rw [eqL_all HL.out (fun j h => AA.out j h (by rw [← HL.out]; exact h) (by rw [HN.out] at h; exact h))]
      rfl

end Go.Proofs.Ytngimbfojccikaa
