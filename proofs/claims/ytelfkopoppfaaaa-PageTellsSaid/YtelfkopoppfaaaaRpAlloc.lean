/- foliateref16: Alloc. -/
import Derived.Test.YtelfkopoppfaaaaRpApi
import Derived.RegionTactic
namespace Go.Proofs.Ytelfkopoppfaaaa
open Go Go.RowKit
set_option linter.unusedVariables false
attribute [local go_sem ↓] Go.wp_at_zero Go.wp_at_succ

def RefRes3 (cap : Int) (r : Int × Int × List Pg) (w : World) (e : Ending) (w' : World) : Prop :=
  ∃ v', e = .returned (.tuple #[v', .int .i64 r.1, .int .i64 r.2.1]) ∧ (StV w' v' cap r.2.2 ∧ (r.2.1 = 0 → StO w' w.heap.size v' cap r.2.2)) ∧ Below w.heap.size w w'

theorem flat_app (ps : List Pg) (x : Pg) : ps.flatMap encP ++ encP x = (ps ++ [x]).flatMap encP := by simp

set_option maxRecDepth 100000 in
set_option maxHeartbeats 4000000 in
theorem RAlloc_any (v : Value) (cap : Int) (ps : List Pg) (w : World) (hv : StV w v cap ps) (hn : ps.length ≤ 1000) :
    Calls Try.prog 17 #[v] w (RefRes3 cap (allocX cap ps) w) := by
  obtain ⟨i0, hi0, hz0, hz1, hz2⟩ := info_parts clone_page_info
  obtain ⟨A, c, rfl, hv⟩ := hv.form
  have hb0 : Below w.heap.size w ((w.alloc (.cells #[.int .i64 cap, .slice A ps.length c] 25)).alloc (.cells #[.int .i64 0, .slice none 0 0] 25)) := ((Below.refl _ w).alloc (Nat.le_refl _) _).alloc (by simp) _
  have hmay := fun sv W h => rmay_any cap sv ps W h
  cases hm : mayP cap ps with
  | false =>
    rw [show allocX cap ps = (-1, 1, ps) from by simp [allocX, hm]]
    rw [hm] at hmay
    clear hm
    go_enter Try.func17, Try.ntmps17
    go_wp2_with fail
    refine (hmay _ _ (hv.sl.below hb0)).mono ?_
    rintro e w1 ⟨rfl, hb1⟩
    have hY := hb0.trans (hb1.mono (by simp; try omega))
    have kA0 : Blk w1 w.heap.size 25 #[.int .i64 cap, .slice A ps.length c] := ((Blk.new_ w _ _ _ rfl).alloc _).keep hb1
    have kA1 : Blk w1 (w.heap.size + 1) 25 #[.int .i64 0, .slice none 0 0] := (Blk.new_ _ _ _ _ (by simp)).keep hb1
    have la := kA0.lt
    have lb := kA1.lt
    have s0 : w1.cell? ⟨w.heap.size, 0, none⟩ = some (.int .i64 cap) := by rw [kA0.cell]; rfl
    have sf0 : w1.frozen? ⟨w.heap.size, 0, none⟩ = false := kA0.free 0
    have s1 : w1.cell? ⟨w.heap.size, 1, none⟩ = some (.slice A ps.length c) := by rw [kA0.cell]; rfl
    have sf1 : w1.frozen? ⟨w.heap.size, 1, none⟩ = false := kA0.free 1
    have t0 : w1.cell? ⟨w.heap.size + 1, 0, none⟩ = some (.int .i64 0) := by rw [kA1.cell]; rfl
    have tf0 : w1.frozen? ⟨w.heap.size + 1, 0, none⟩ = false := kA1.free 0
    have t1 : w1.cell? ⟨w.heap.size + 1, 1, none⟩ = some (.slice none 0 0) := by rw [kA1.cell]; rfl
    have tf1 : w1.frozen? ⟨w.heap.size + 1, 1, none⟩ = false := kA1.free 1
    go_wp2
    refine bodyPost_ret (v := .tuple #[.agg #[.int .i64 cap, .slice A ps.length c], .int .i64 (-1), .int .i64 1]) (by simp [results, Try.results17, go_sem, t0, t1]) rfl ⟨_, rfl, ?_, ?_⟩
    · exact ⟨hv.keep ((hY.setCell (p := ⟨w.heap.size + 1, 0, none⟩) (by simp) _).setCell (p := ⟨w.heap.size + 1, 1, none⟩) (by simp) _), fun h => by simp at h⟩
    · exact (hY.setCell (p := ⟨w.heap.size + 1, 0, none⟩) (by simp) _).setCell (p := ⟨w.heap.size + 1, 1, none⟩) (by simp) _
  | true =>
    rw [hm] at hmay
    rw [show allocX cap ps = allocL cap ps ⟨0, 0, 0, 0, 0⟩ from by simp [allocX, hm]]
    have HM := Lib.hid hm
    have hwith := fun (k : Nat) (hk : k < ps.length) v y W h => with_any v cap k y ps W h hk hn
    have HWI := Lib.hid hwith
    have HV := Lib.hid hv
    clear hm hwith
    go_enter Try.func17, Try.ntmps17
    go_wp2_with fail
    refine (hmay _ _ (hv.sl.below hb0)).mono ?_
    rintro e w1 ⟨rfl, hb1⟩
    have hY := hb0.trans (hb1.mono (by simp; try omega))
    have kA0 : Blk w1 w.heap.size 25 #[.int .i64 cap, .slice A ps.length c] := ((Blk.new_ w _ _ _ rfl).alloc _).keep hb1
    have kA1 : Blk w1 (w.heap.size + 1) 25 #[.int .i64 0, .slice none 0 0] := (Blk.new_ _ _ _ _ (by simp)).keep hb1
    have la := kA0.lt
    have lb := kA1.lt
    have s0 : w1.cell? ⟨w.heap.size, 0, none⟩ = some (.int .i64 cap) := by rw [kA0.cell]; rfl
    have sf0 : w1.frozen? ⟨w.heap.size, 0, none⟩ = false := kA0.free 0
    have s1 : w1.cell? ⟨w.heap.size, 1, none⟩ = some (.slice A ps.length c) := by rw [kA0.cell]; rfl
    have sf1 : w1.frozen? ⟨w.heap.size, 1, none⟩ = false := kA0.free 1
    have t0 : w1.cell? ⟨w.heap.size + 1, 0, none⟩ = some (.int .i64 0) := by rw [kA1.cell]; rfl
    have tf0 : w1.frozen? ⟨w.heap.size + 1, 0, none⟩ = false := kA1.free 0
    have t1 : w1.cell? ⟨w.heap.size + 1, 1, none⟩ = some (.slice none 0 0) := by rw [kA1.cell]; rfl
    have tf1 : w1.frozen? ⟨w.heap.size + 1, 1, none⟩ = false := kA1.free 1
    have HP := Lib.hid (fun h : 0 < ps.length => Sl.pos encP encP_len hv.sl h)
    have HK1 := Lib.hid kA1
    have HY := Lib.hid hY
    obtain ⟨n, hnl⟩ : ∃ n, ps.length = n := ⟨_, rfl⟩
    have HN := Lib.hid hnl
    rw [hnl] at s1 hn kA0
    have HK0 := Lib.hid kA0
    clear hmay hv hb0 hb1 kA0 kA1 hY hnl
    go_wp2
    rw [HN.out]
    go_loopg [6] n (fun gg s6 wr => ∃ kk : Nat, kk ≤ n ∧ n - kk ≤ gg ∧ s6 = .int .i64 kk ∧ w1 = wr ∧ Hid (∀ j (h : j < ps.length), j < kk → freeP ps[j] = false))
    case atStart => exact ⟨0, Nat.zero_le _, by omega, rfl, rfl, fun j _ hj => absurd hj (Nat.not_lt_zero _)⟩
    case round =>
      obtain ⟨kk, hkk, hg, rfl, hw, AA⟩ := hrel
      subst hw
      by_cases hlt : kk < n
      · have hltz : (kk : Int) < (n : Int) := by omega
        have hgez : (0 : Int) ≤ (kk : Int) := by omega
        have hk : kk < ps.length := by rw [HN.out]; exact hlt
        obtain ⟨b, o, rfl, hb, hel⟩ := HP.out (by omega)
        have e0 := hel w1 HY.out kk hk 0 _ rfl
        simp only [Nat.add_zero] at e0
        have hbw : b < w1.heap.size := Nat.lt_of_lt_of_le hb HY.out.size
        have hwi := HWI.out kk hk
        clear hel HP HWI
        obtain ⟨x, hx⟩ : ∃ x, ps[kk] = x := ⟨_, rfl⟩
        rw [hx] at e0
        have HX := Lib.hid hx
        clear hx
        cases h0 : (x.r == 0) with
        | true =>
          simp only [encP] at hwi
          go_wp2_with fail
          refine (hwi _ ⟨1, 0, 0, 0, 0⟩ _ (HN.out ▸ HV.out.keep HY.out)).mono ?_
          rintro e w3 ⟨v2, rfl, hst2, hb3⟩
          have hY2 := HY.out.trans (hb3.mono HY.out.size)
          have kB1 := HK1.out.keep hb3
          obtain ⟨sv2, rfl, hrow2⟩ := hst2
          rw [List.length_set] at hrow2
          obtain ⟨A2, c2, rfl, _, _⟩ := (Sl.of_own hrow2).form
          clear s0 s1 sf0 sf1 t0 t1 tf0 tf1
          have t0 : w3.cell? ⟨w.heap.size + 1, 0, none⟩ = some (.int .i64 0) := by rw [kB1.cell]; rfl
          have tf0 : w3.frozen? ⟨w.heap.size + 1, 0, none⟩ = false := kB1.free 0
          have t1 : w3.cell? ⟨w.heap.size + 1, 1, none⟩ = some (.slice none 0 0) := by rw [kB1.cell]; rfl
          have tf1 : w3.frozen? ⟨w.heap.size + 1, 1, none⟩ = false := kB1.free 1
          have hal : allocL cap ps ⟨0, 0, 0, 0, 0⟩ = ((kk : Int), 0, ps.set kk ⟨1, 0, 0, 0, 0⟩) := by
            have hidx : idxF freeP ps = kk := idxF_hit freeP ps kk hk (by rw [HX.out]; exact h0) (fun j hj => AA.out j (by omega) hj)
            unfold allocL
            rw [hidx, if_neg (by omega)]
            rfl
          have HAL := Lib.hid hal
          clear hal
          go_wp2
          rw [HAL.out]
          refine bodyPost_ret (v := .tuple #[.agg #[.int .i64 cap, .slice A2 ps.length c2], .int .i64 kk, .int .i64 0]) (by simp [results, Try.results17, go_sem, t0, t1]) rfl ⟨_, rfl, ?_, ?_⟩
          · have hlen : (ps.set kk (⟨1, 0, 0, 0, 0⟩ : Pg)).length = ps.length := List.length_set
            have hzz := HY.out.size
            have hfin := ownsRow_mono (ownsRow_setCell_below (ownsRow_setCell_below hrow2 (a := ⟨w.heap.size + 1, 0, none⟩) (by simp; omega) (.int .i64 cap)) (a := ⟨w.heap.size + 1, 1, none⟩) (by simp; omega) (.slice A2 ps.length c2)) hzz
            have hfin2 : StO _ w.heap.size (.agg #[.int .i64 cap, .slice A2 ps.length c2]) cap (ps.set kk ⟨1, 0, 0, 0, 0⟩) := ⟨_, rfl, by rw [hlen]; exact hfin⟩
            exact ⟨hfin2.to, fun _ => hfin2⟩
          · exact (hY2.setCell (p := ⟨w.heap.size + 1, 0, none⟩) (by simp) _).setCell (p := ⟨w.heap.size + 1, 1, none⟩) (by simp) _
        | false =>
          go_wp2
          go_roundg (n - (kk + 1))
          case measure => omega
          case rel =>
            refine ⟨kk + 1, by omega, by omega, by go_num, rfl, (show Hid _ from fun j h hj => ?_)⟩
            by_cases e : j = kk
            · subst e
              rw [HX.out]; exact h0
            · exact AA.out j h (by omega)
      · obtain rfl : n = kk := by omega
        have hltz : ¬ (n : Int) < (n : Int) := by omega
        have HI := Lib.hid (show idxF freeP ps = -1 from idxF_miss freeP ps fun j h => AA.out j h (by rw [HN.out] at h; exact h))
        clear HP HWI
        cases hfl : ((n : Int) == cap) with
        | true =>
          have hal : allocL cap ps ⟨0, 0, 0, 0, 0⟩ = (-1, 8, ps) := by
            unfold allocL
            rw [HI.out, HN.out, if_pos rfl, if_pos (by simpa using hfl)]
          have HAL := Lib.hid hal
          clear hal
          have hv := HV.out
          rw [HN.out] at hv
          have hY := HY.out
          go_wp2
          rw [HAL.out]
          refine bodyPost_ret (v := .tuple #[.agg #[.int .i64 cap, .slice A n c], .int .i64 (-1), .int .i64 8]) (by simp [results, Try.results17, go_sem, t0, t1]) rfl ⟨_, rfl, ?_, ?_⟩
          · exact ⟨hv.keep ((hY.setCell (p := ⟨w.heap.size + 1, 0, none⟩) (by simp) _).setCell (p := ⟨w.heap.size + 1, 1, none⟩) (by simp) _), fun h => by simp at h⟩
          · exact (hY.setCell (p := ⟨w.heap.size + 1, 0, none⟩) (by simp) _).setCell (p := ⟨w.heap.size + 1, 1, none⟩) (by simp) _
        | false =>
          have hal : allocL cap ps ⟨0, 0, 0, 0, 0⟩ = ((n : Int), 0, ps ++ [⟨1, 0, 0, 0, 0⟩]) := by
            unfold allocL
            rw [HI.out, HN.out, if_pos rfl, if_neg (by simpa using hfl)]
          have HAL := Lib.hid hal
          clear hal
          have HSL := Lib.hid (show Sl w1 5 (.slice A n c) n (ps.flatMap encP) from by
            have h := (HV.out.sl).below HY.out
            rwa [HN.out] at h)
          go_wp2_with (first | (at_builtin; refine wpList_append_sl rfl (.const (.slice none 0 0)) (.tmp 39) _ rfl w1.heap.size 37 i0 _ 5 40 Try.underlying23 hi0 hz0 hz1 hz2 rfl (by omega) (.slice none 0 0) 0 [] rfl (World.ownsRow_nil _ _ _ _) A n c (ps.flatMap encP) rfl HSL.out (encP_one ps) (by unfold maxLen; omega) (by omega) (Nat.le_refl _) ?_; intro v1 w2 hown1 hg1; simp only [Nat.zero_add, List.nil_append] at hown1; have HO1 := Lib.hid hown1; have HG1 := Lib.hid hg1; clear hown1 hg1; have hbA := (Below.refl w2.heap.size w2).alloc (Nat.le_refl _) (.cells #[.int .i64 1, .int .i64 0, .int .i64 0, .int .i64 0, .int .i64 0] 37); have HO2 := Lib.hid (own_below HO1.out hbA); have hnB : Blk (w2.alloc (.cells #[.int .i64 1, .int .i64 0, .int .i64 0, .int .i64 0, .int .i64 0] 37)) w2.heap.size 37 #[.int .i64 1, .int .i64 0, .int .i64 0, .int .i64 0, .int .i64 0] := Blk.new _ _ _; have HNEW := Lib.hid (show ∀ j u, (encP ⟨1, 0, 0, 0, 0⟩)[j]? = some u → (w2.alloc (.cells #[.int .i64 1, .int .i64 0, .int .i64 0, .int .i64 0, .int .i64 0] 37)).cell? ((⟨w2.heap.size, 0, none⟩ : Addr).add j) = some u from (by intro j u hu; rw [add_none, Nat.zero_add, hnB.cell]; simpa [encP] using hu)); have hb12 : Below w1.heap.size w1 w2 := (Below.refl _ _).grown HG1.out (Nat.le_refl _) (by simp [Value.ownBlock]); have HK0b := Lib.hid ((HK0.out.keep hb12).keep hbA); have HK1b := Lib.hid ((HK1.out.keep hb12).keep hbA); have HNE0 := Lib.hid (own_ne HO2.out HK0b.out (by decide)); have HNE1 := Lib.hid (own_ne HO2.out HK1b.out (by decide)); have HYb := Lib.hid ((HY.out.trans (hb12.mono HY.out.size)).trans (hbA.mono (HY.out.trans (hb12.mono HY.out.size)).size)); have hz12 := hb12.size; have hz01 := HY.out.size; clear hnB hbA hb12 s0 s1 sf0 sf1 t0 t1 tf0 tf1) | (at_builtin; refine wpList_append_own_at _ rfl (.tmp 40) (.tmp 42) _ rfl w1.heap.size 37 i0 _ 5 40 Try.underlying23 hi0 hz0 hz1 hz2 rfl (by omega) v1 n _ rfl HO2.out ⟨w2.heap.size, 0, none⟩ 1 1 (encP ⟨1, 0, 0, 0, 0⟩) rfl rfl HNEW.out (by simp [encP, Value.oneCell']) (by unfold maxLen; omega) (by omega) (by have := HG1.out.size; simp; omega) ?_; intro v3 w3 hown3 hg3 _ _; have HO3 := Lib.hid hown3; have HG3 := Lib.hid hg3; obtain ⟨g, gc, cur, rfl, hgg, hrow, _, _, _, _⟩ := own_form hown3 (by omega); clear hown3 hg3 hrow; have kD0 := HK0b.out.grown HG3.out (Ne.symm HNE0.out); have kD1 := HK1b.out.grown HG3.out (Ne.symm HNE1.out); have la3 := kD0.lt; have lb3 := kD1.lt; have s0 : w3.cell? ⟨w.heap.size, 0, none⟩ = some (.int .i64 cap) := (by rw [kD0.cell]; rfl); have sf0 : w3.frozen? ⟨w.heap.size, 0, none⟩ = false := kD0.free 0; have s1 : w3.cell? ⟨w.heap.size, 1, none⟩ = some (.slice A n c) := (by rw [kD0.cell]; rfl); have sf1 : w3.frozen? ⟨w.heap.size, 1, none⟩ = false := kD0.free 1; have t0 : w3.cell? ⟨w.heap.size + 1, 0, none⟩ = some (.int .i64 0) := (by rw [kD1.cell]; rfl); have tf0 : w3.frozen? ⟨w.heap.size + 1, 0, none⟩ = false := kD1.free 0; have t1 : w3.cell? ⟨w.heap.size + 1, 1, none⟩ = some (.slice none 0 0) := (by rw [kD1.cell]; rfl); have tf1 : w3.frozen? ⟨w.heap.size + 1, 1, none⟩ = false := kD1.free 1))
          have hr3 := HO3.out
          rw [flat_app] at hr3
          have HR4 := Lib.hid (show World.ownsRow _ w1.heap.size 37 5 (.slice (some ⟨g, 0, none⟩) (n + 1) gc) (n + 1) ((ps ++ [(⟨1, 0, 0, 0, 0⟩ : Pg)]).flatMap encP) from ownsRow_setCell_below hr3 (a := ⟨w.heap.size, 1, none⟩) (by simp; omega) (.slice (some ⟨g, 0, none⟩) (n + 1) gc))
          have hYc := HYb.out.grown HG3.out (by simp; omega) (by
            intro k hk
            have := (HO2.out.lt k hk).1
            omega)
          have hYd := hYc.setCell (p := ⟨w.heap.size, 1, none⟩) (by simp) (.slice (some ⟨g, 0, none⟩) (n + 1) gc)
          have kE0 := kD0.set_ 1 (.slice (some ⟨g, 0, none⟩) (n + 1) gc)
          have kE1 := kD1.far (p := ⟨w.heap.size, 1, none⟩) (by simp) (.slice (some ⟨g, 0, none⟩) (n + 1) gc)
          clear hr3 hYc s0 s1 sf0 sf1 t0 t1 tf0 tf1 la3 lb3
          obtain ⟨w4, hw4⟩ : ∃ x, w3.setCell ⟨w.heap.size, 1, none⟩ (.slice (some ⟨g, 0, none⟩) (n + 1) gc) = x := ⟨_, rfl⟩
          rw [hw4] at HR4 hYd kE0 kE1 ⊢
          have kE0 : Blk w4 w.heap.size 25 #[.int .i64 cap, .slice (some ⟨g, 0, none⟩) (n + 1) gc] := kE0
          clear hw4 kD0 kD1
          have s0 : w4.cell? ⟨w.heap.size, 0, none⟩ = some (.int .i64 cap) := by rw [kE0.cell]; rfl
          have sf0 : w4.frozen? ⟨w.heap.size, 0, none⟩ = false := kE0.free 0
          have s1 : w4.cell? ⟨w.heap.size, 1, none⟩ = some (.slice (some ⟨g, 0, none⟩) (n + 1) gc) := by rw [kE0.cell]; rfl
          have sf1 : w4.frozen? ⟨w.heap.size, 1, none⟩ = false := kE0.free 1
          have t0 : w4.cell? ⟨w.heap.size + 1, 0, none⟩ = some (.int .i64 0) := by rw [kE1.cell]; rfl
          have tf0 : w4.frozen? ⟨w.heap.size + 1, 0, none⟩ = false := kE1.free 0
          have t1 : w4.cell? ⟨w.heap.size + 1, 1, none⟩ = some (.slice none 0 0) := by rw [kE1.cell]; rfl
          have tf1 : w4.frozen? ⟨w.heap.size + 1, 1, none⟩ = false := kE1.free 1
          have hwr : IntKind.i64.wrap (n : Int) = (n : Int) := by rw [IntKind.wrap_i64]; omega
          refine wp_region_held_drew (S := fun w' => w'.cell? ⟨w.heap.size, 0, none⟩ = some (.int .i64 cap) ∧ w'.cell? ⟨w.heap.size, 1, none⟩ = some (.slice (some ⟨g, 0, none⟩) (n + 1) gc)) (by kernel_rfl) ?_ (fun hHeldbr => ?_)
          · exact ⟨s0, s1⟩
          refine wpAnyH_take (i := 0) (oi := { dst := some 45, op := Op.load 25 (Operand.tmp 1), type := 25, pos := "ref.go:72", after := _, guard := none }) (v := ?vbr0) rfl (by kernel_rfl) (by kernel_rfl) (by kernel_rfl) (fun _ _ _ h => h) (Or.inl ⟨by rfl, ?hybr0⟩) (by assumption) ?restbr0
          case hybr0 => (intro w hSw; (try dsimp only at hSw); go_simp <;> with_reducible rfl)
          try simp only [Act.put, List.setIfInBounds_toArray, List.set_cons_zero, List.set_cons_succ]
          refine wpAnyH_take (i := 1) (oi := { dst := some 46, op := Op.fieldAddr 25 (Operand.tmp 1) 1, type := 0, pos := "ref.go:72", after := _, guard := none }) (v := ?vbr1) rfl (by kernel_rfl) (by kernel_rfl) (by kernel_rfl) (fun _ _ _ h => h) (Or.inl ⟨by rfl, ?hybr1⟩) (by assumption) ?restbr1
          case hybr1 => (intro w hSw; (try dsimp only at hSw); go_simp <;> with_reducible rfl)
          try simp only [Act.put, List.setIfInBounds_toArray, List.set_cons_zero, List.set_cons_succ]
          refine wpAnyH_take (i := 2) (oi := { dst := some 47, op := Op.load 23 (Operand.tmp 46), type := 23, pos := "ref.go:72", after := _, guard := none }) (v := ?vbr2) rfl (by kernel_rfl) (by kernel_rfl) (by kernel_rfl) (fun _ _ _ h => h) (Or.inl ⟨by rfl, ?hybr2⟩) (by assumption) ?restbr2
          case hybr2 => (intro w hSw; (try dsimp only at hSw); go_simp <;> with_reducible rfl)
          try simp only [Act.put, List.setIfInBounds_toArray, List.set_cons_zero, List.set_cons_succ]
          refine wpAnyH_take (i := 3) (oi := { dst := some 48, op := Op.call { callee := Callee.builtin Builtin.len, args := #[Operand.tmp 47], argTypes := #[23] }, type := 3, pos := "ref.go:72", after := _, guard := none }) (v := ?vbr3) rfl (by kernel_rfl) (by kernel_rfl) (by kernel_rfl) (fun _ _ _ h => h) (Or.inl ⟨by rfl, ?hybr3⟩) (by assumption) ?restbr3
          case hybr3 => (intro w hSw; (try dsimp only at hSw); go_simp <;> with_reducible rfl)
          try simp only [Act.put, List.setIfInBounds_toArray, List.set_cons_zero, List.set_cons_succ]
          refine wpAnyH_take (i := 4) (oi := { dst := some 49, op := Op.binOp BinOp.sub 3 (Operand.tmp 48) (Operand.const (Value.int IntKind.i64 1)) 3, type := 3, pos := "ref.go:72", after := _, guard := none }) (v := .int .i64 (n : Int)) rfl (by kernel_rfl) (by kernel_rfl) (by kernel_rfl) (fun _ _ _ h => h) (Or.inl ⟨by rfl, ?hybr4⟩) (by assumption) ?restbr4
          case hybr4 => (intro w hSw; (try dsimp only at hSw); go_simp <;> first | done | with_reducible rfl | omega | (simp; done) | (simp; omega) | (simp [*]; done) | (simp [*]; omega) | exact decide_eq_false (by omega) | exact decide_eq_true (by omega))
          try simp only [Act.put, List.setIfInBounds_toArray, List.set_cons_zero, List.set_cons_succ]
          refine wpAnyH_ready (rs := [5]) (by kernel_rfl) (by simp) ?_
          refine AllReadyH.cons (o := { dst := none, op := Op.store 25 (Operand.tmp 2) (Operand.tmp 45), type := 0, pos := "ref.go:72", after := _, guard := none }) rfl (fun K hK => ?_) AllReadyH.nil
          go_simp
          skip
          refine hK.out _ _ ?_ (fun hHeldbr5 => ?_)
          · go_keep
          clear hK K hHeldbr
          try simp only [Act.put, List.setIfInBounds_toArray, List.set_cons_zero, List.set_cons_succ]
          refine wpAnyH_ready (rs := [6]) (by kernel_rfl) (by simp) ?_
          refine AllReadyH.cons (o := { dst := some 3, op := Op.assign (Operand.tmp 49), type := 3, pos := "ref.go:72", after := _, guard := none }) rfl (fun K hK => ?_) AllReadyH.nil
          go_simp
          skip
          refine hK.out _ _ ?_ (fun hHeldbr6 => ?_)
          · go_keep
          clear hK K hHeldbr5
          try simp only [Act.put, List.setIfInBounds_toArray, List.set_cons_zero, List.set_cons_succ]
          refine wpAnyH_ready (rs := [7]) (by kernel_rfl) (by simp) ?_
          refine AllReadyH.cons (o := { dst := some 4, op := Op.assign (Operand.const (Value.int IntKind.i64 0)), type := 28, pos := "ref.go:72", after := _, guard := none }) rfl (fun K hK => ?_) AllReadyH.nil
          go_simp
          skip
          refine hK.out _ _ ?_ (fun hHeldbr7 => ?_)
          · go_keep
          clear hK K hHeldbr6
          try simp only [Act.put, List.setIfInBounds_toArray, List.set_cons_zero, List.set_cons_succ]
          refine wpAnyH_done (by kernel_rfl) ?_ _
          go_wp2
          rw [HAL.out]
          refine bodyPost_ret (v := .tuple #[.agg #[.int .i64 cap, .slice (some ⟨g, 0, none⟩) (n + 1) gc], .int .i64 n, .int .i64 0]) (by simp [results, Try.results17, go_sem, t0, t1]) rfl ⟨_, rfl, ?_, ?_⟩
          · have hlen : (ps ++ [(⟨1, 0, 0, 0, 0⟩ : Pg)]).length = n + 1 := by rw [List.length_append, HN.out]; rfl
            have hfin := ownsRow_mono (ownsRow_setCell_below (ownsRow_setCell_below (own_drew HR4.out) (a := ⟨w.heap.size + 1, 0, none⟩) (by simp; omega) (.int .i64 cap)) (a := ⟨w.heap.size + 1, 1, none⟩) (by simp; omega) (.slice (some ⟨g, 0, none⟩) (n + 1) gc)) HY.out.size
            have hfin2 : StO _ w.heap.size (.agg #[.int .i64 cap, .slice (some ⟨g, 0, none⟩) (n + 1) gc]) cap (ps ++ [⟨1, 0, 0, 0, 0⟩]) := ⟨_, rfl, by rw [hlen]; exact hfin⟩
            exact ⟨hfin2.to, fun _ => hfin2⟩
          · exact (hYd.drew.setCell (p := ⟨w.heap.size + 1, 0, none⟩) (by simp) _).setCell (p := ⟨w.heap.size + 1, 1, none⟩) (by simp) _

end Go.Proofs.Ytelfkopoppfaaaa
