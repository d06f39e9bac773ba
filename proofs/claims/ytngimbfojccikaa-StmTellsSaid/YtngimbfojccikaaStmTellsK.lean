/- Several texts in one: StIdle, StBound. -/
import Derived.Test.YtngimbfojccikaaStSame4m
import Derived.Deep.RegionHeld3
import Derived.Deep.DrawnRows
namespace Go.Proofs.Ytngimbfojccikaa
set_option linter.unusedSimpArgs false
open Go Go.RowKit
set_option linter.unusedVariables false
set_option maxRecDepth 100000

/-- Has a thread nothing left to do? -/
def idleL (pl : List (List (List Ac))) (m : Mm) (who : Int) : Bool :=
  decide (who < 0) || (decide ((pl.length : Int) ≤ who) || match m.T[who.toNat]?, pl[who.toNat]? with
    | some t, some txs => t.st == 0 && decide ((txs.length : Int) ≤ t.tx)
    | _, _ => false)

set_option maxHeartbeats 4000000 in
theorem Idle_any (words mx : Int) (pl : List (List (List Ac))) (pv : Value) (a : Ad) (m : Mm) (who : Int) (w : World) (hpl : PlV w pv pl) (hm : MemV w a m) (hT : m.T.length = pl.length) :
    Calls Try.prog 18 #[planV words mx pv, .agg (memCells a m).toArray, .int .i64 who] w fun e w' => e = .returned (.bool (idleL pl m who)) ∧ Below w.heap.size w w' := by
  obtain ⟨A, c, rfl, _, _⟩ := hpl.form
  have kX := Blk.new w 24 #[.int .i64 words, .int .i64 mx, .slice A pl.length c]
  have bX : Below w.heap.size w (w.alloc (.cells #[.int .i64 words, .int .i64 mx, .slice A pl.length c] 24)) := (Below.refl _ w).alloc (Nat.le_refl _) _
  have kY := Blk.new (w.alloc (.cells #[.int .i64 words, .int .i64 mx, .slice A pl.length c] 24)) 34 (memCells a m).toArray
  have kX := kX.keep (show Below _ _ ((w.alloc (.cells #[.int .i64 words, .int .i64 mx, .slice A pl.length c] 24)).alloc (.cells (memCells a m).toArray 34)) from (Below.refl _ _).alloc (Nat.le_refl _) _)
  have bY : Below w.heap.size w ((w.alloc (.cells #[.int .i64 words, .int .i64 mx, .slice A pl.length c] 24)).alloc (.cells (memCells a m).toArray 34)) := bX.alloc (by simp) _
  have hb0 : (w.alloc (.cells #[.int .i64 words, .int .i64 mx, .slice A pl.length c] 24)).heap.size = w.heap.size + 1 := by simp
  rw [hb0] at kY
  obtain ⟨w2, hw2⟩ : ∃ z, (w.alloc (.cells #[.int .i64 words, .int .i64 mx, .slice A pl.length c] 24)).alloc (.cells (memCells a m).toArray 34) = z := ⟨_, rfl⟩
  rw [hw2] at kX kY bY
  have HW := Lib.hid hw2
  have HB := Lib.hid bY
  have HK := Lib.hid kX
  have HKY := Lib.hid kY
  clear kX kY hw2 hb0 bX bY
  simp only [memCells, planV, hT] at HW HKY ⊢
  by_cases h0 : who < 0
  · rw [show idleL pl m who = true from by unfold idleL; rw [decide_eq_true h0]; rfl]
    clear hpl hm
    go_enter Try.func18, Try.ntmps18
    go_wp2_with fail
    go_ret
    refine ⟨rfl, ?_⟩
    rw [HW.out]
    exact HB.out
  have hd0 : decide (who < 0) = false := decide_eq_false h0
  obtain ⟨k, rfl⟩ : ∃ k : Nat, who = (k : Int) := ⟨who.toNat, by omega⟩
  by_cases h1 : pl.length ≤ k
  · have h1z : (pl.length : Int) ≤ (k : Int) := by omega
    rw [show idleL pl m (k : Int) = true from by unfold idleL; rw [hd0, decide_eq_true h1z]; rfl]
    have p2 : w2.cell? ⟨w.heap.size, 2, none⟩ = some (.slice A pl.length c) := by rw [HK.out.cell]; rfl
    have y4 : w2.cell? ⟨w.heap.size + 1, 4, none⟩ = some (.slice (some ⟨a.gT, 0, none⟩) pl.length a.cT) := by rw [HKY.out.cell]; rfl
    clear hpl hm
    generalize pl.length = n at *
    go_enter Try.func18, Try.ntmps18
    go_wp2_with fail
    go_ret
    refine ⟨rfl, ?_⟩
    rw [HW.out]
    exact HB.out
  have h1z : ¬ (pl.length : Int) ≤ (k : Int) := by omega
  have hkp : k < pl.length := by omega
  have hkT : k < m.T.length := by omega
  obtain ⟨txs, htxs⟩ : ∃ t, pl[k]? = some t := ⟨_, List.getElem?_eq_getElem hkp⟩
  obtain ⟨t, ht⟩ : ∃ t, m.T[k]? = some t := ⟨_, List.getElem?_eq_getElem hkT⟩
  have hs : idleL pl m (k : Int) = (t.st == 0 && decide ((txs.length : Int) ≤ t.tx)) := by
    unfold idleL
    rw [hd0, decide_eq_false h1z, Int.toNat_natCast, ht, htxs]; rfl
  rw [hs]
  obtain ⟨b1, o1, c1, A1, d1, e1, hb1, hm1, hc1, hT1⟩ := hpl.at_ htxs
  injection e1 with e1 _ e1c
  subst e1 e1c
  have hTc := hm.T
  obtain ⟨b2, o2, e2, hb2, hT2⟩ := Sl.pos encTx encTx_len hTc (by omega)
  injection e2 with e2
  injection e2 with e2b e2o e2s
  subst e2b e2o
  have htk : t = m.T[k] := by rw [List.getElem?_eq_getElem hkT] at ht; injection ht with ht; exact ht.symm
  have HC := Lib.hid (fun W (hb : Below w2.heap.size w2 W) => (show W.cell? ⟨w.heap.size, 2, none⟩ = some (.slice (some ⟨b1, o1, none⟩) pl.length c) ∧ W.cell? ⟨w.heap.size + 1, 4, none⟩ = some (.slice (some ⟨a.gT, 0, none⟩) pl.length a.cT) ∧ W.cell? ⟨b1, o1 + k, none⟩ = some (.slice A1 txs.length d1) ∧ W.cell? ⟨a.gT, k * 11, none⟩ = some (.int .i64 t.st) ∧ W.cell? ⟨a.gT, k * 11 + 1, none⟩ = some (.int .i64 t.tx) from
    ⟨by rw [(HK.out.keep hb).cell]; rfl, by rw [(HKY.out.keep hb).cell]; rfl, ((HB.out.trans (hb.mono HB.out.size)).cell (p := ⟨b1, o1 + k, none⟩) hb1).trans hc1, by have := hT2 W (HB.out.trans (hb.mono HB.out.size)) k hkT 0 _ rfl; rw [htk]; simpa using this, by have := hT2 W (HB.out.trans (hb.mono HB.out.size)) k hkT 1 _ rfl; rw [htk]; simpa using this⟩))
  obtain ⟨n, hn⟩ : ∃ n, n = pl.length := ⟨_, rfl⟩
  obtain ⟨n2, hn2⟩ : ∃ n, n = txs.length := ⟨_, rfl⟩
  have hlt : (k : Int) < (n : Int) := by omega
  have hge : (0 : Int) ≤ (k : Int) := by omega
  have hnlt : ¬ (n : Int) ≤ (k : Int) := by omega
  rw [← hn] at HC HW ⊢
  rw [← hn2] at HC ⊢
  clear hpl hm hT hTc hT2 hT1 hm1 hc1 htk ht htxs hs hn hn2 hkp hkT h1 h1z h0
  obtain ⟨x, hx⟩ : ∃ x, x = t.st := ⟨_, rfl⟩
  obtain ⟨y, hy⟩ : ∃ y, y = t.tx := ⟨_, rfl⟩
  rw [← hx, ← hy] at HC ⊢
  clear hx hy
  by_cases h0 : x = 0
  · subst h0
    have h0b : ((0 : Int) == 0) = true := rfl
    rw [show ((0 : Int) == 0 && decide ((n2 : Int) ≤ y)) = decide ((n2 : Int) ≤ y) from by simp]
    go_enter Try.func18, Try.ntmps18
    go_wp2_with fail
    rw [HW.out]
    refine wp_region_held_drew (S := fun W => W.cell? ⟨w.heap.size, 2, none⟩ = some (.slice (some ⟨b1, o1, none⟩) n c) ∧ W.cell? ⟨w.heap.size + 1, 4, none⟩ = some (.slice (some ⟨a.gT, 0, none⟩) n a.cT) ∧ W.cell? ⟨b1, o1 + k, none⟩ = some (.slice A1 n2 d1) ∧ W.cell? ⟨a.gT, k * 11, none⟩ = some (.int .i64 0) ∧ W.cell? ⟨a.gT, k * 11 + 1, none⟩ = some (.int .i64 y)) (by kernel_rfl) ?_ (fun hbr => ?_)
    · exact HC.out _ ((Below.refl _ _).drew)
    refine tkA 0 ?_
    refine tkA 1 ?_
    refine tkA 2 ?_
    refine tkA 3 ?_
    refine tkA 4 ?_
    refine tkA 5 ?_
    refine tkA 6 ?_
    refine tkA 7 ?_
    refine tkA 8 ?_
    refine tkA 9 ?_
    refine tkA 10 ?_
    refine tkA 11 ?_
    refine tkA 12 ?_
    refine tkA 13 ?_
    refine tkA 14 ?_
    refine tkA 15 ?_
    refine tkA 16 ?_
    refine tkA 17 ?_
    refine tkA 18 ?_
    refine tkA 19 ?_
    refine tkA 20 ?_
    refine tkA 21 ?_
    refine tkA 22 ?_
    refine wpAnyH_done (by kernel_rfl) ?_ _
    go_wp2_with fail
    go_ret
    exact ⟨rfl, HB.out.drew⟩
  · have h0b : (x == 0) = false := by simp [h0]
    rw [show (x == 0 && decide ((n2 : Int) ≤ y)) = false from by simp [h0]]
    go_enter Try.func18, Try.ntmps18
    go_wp2_with fail
    rw [HW.out]
    refine wp_region_held_drew (S := fun W => W.cell? ⟨w.heap.size, 2, none⟩ = some (.slice (some ⟨b1, o1, none⟩) n c) ∧ W.cell? ⟨w.heap.size + 1, 4, none⟩ = some (.slice (some ⟨a.gT, 0, none⟩) n a.cT) ∧ W.cell? ⟨b1, o1 + k, none⟩ = some (.slice A1 n2 d1) ∧ W.cell? ⟨a.gT, k * 11, none⟩ = some (.int .i64 x) ∧ W.cell? ⟨a.gT, k * 11 + 1, none⟩ = some (.int .i64 y)) (by kernel_rfl) ?_ (fun hcr => ?_)
    · exact HC.out _ ((Below.refl _ _).drew)
    refine tkA 0 ?_
    refine tkA 1 ?_
    refine tkA 2 ?_
    refine tkA 3 ?_
    refine tkA 4 ?_
    refine tkA 5 ?_
    refine tkA 6 ?_
    refine tkA 7 ?_
    refine skA 8 ?_
    refine skA 9 ?_
    refine skA 10 ?_
    refine skA 11 ?_
    refine skA 12 ?_
    refine skA 13 ?_
    refine skA 14 ?_
    refine skA 15 ?_
    refine skA 16 ?_
    refine skA 17 ?_
    refine skA 18 ?_
    refine skA 19 ?_
    refine skA 20 ?_
    refine tkA 21 ?_
    refine tkA 22 ?_
    refine wpAnyH_done (by kernel_rfl) ?_ _
    go_wp2_with fail
    go_ret
    exact ⟨rfl, HB.out.drew⟩
end Go.Proofs.Ytngimbfojccikaa
namespace Go.Proofs.Ytngimbfojccikaa
set_option linter.unusedSimpArgs false
open Go Go.RowKit
set_option linter.unusedVariables false
set_option maxRecDepth 100000

def bndL (txs : List (List Ac)) : Int := (txs.map fun l => 6 + 4 * (l.length : Int)).sum
def boundL (words mx : Int) (pl : List (List (List Ac))) (who : Int) : Int :=
  if mayP words mx pl = true ∧ 0 ≤ who ∧ who < (pl.length : Int) then bndL (pl.getD who.toNat []) else 0
theorem bndL_le {txs : List (List Ac)} (h4 : txs.length ≤ 4) (h6 : ∀ l ∈ txs, l.length ≤ 6) : 0 ≤ bndL txs ∧ bndL txs ≤ 30 * (txs.length : Int) := by
  unfold bndL
  clear h4
  induction txs with
  | nil => simp
  | cons l t ih =>
    have := ih (fun x hx => h6 x (by simp [hx]))
    have := h6 l (by simp)
    simp only [List.map_cons, List.sum_cons, List.length_cons]
    omega
theorem bndL_take {txs : List (List Ac)} {i : Nat} {l : List Ac} (h : txs[i]? = some l) : bndL (txs.take (i + 1)) = bndL (txs.take i) + (6 + 4 * (l.length : Int)) := by
  unfold bndL
  rw [List.take_add_one, h]
  simp

set_option maxHeartbeats 4000000 in
theorem Bound_any (words mx : Int) (pl : List (List (List Ac))) (pv : Value) (who : Int) (w : World) (hpl : PlV w pv pl) :
    Calls Try.prog 19 #[planV words mx pv, .int .i64 who] w fun e w' => e = .returned (.int .i64 (boundL words mx pl who)) ∧ Below w.heap.size w w' := by
  obtain ⟨A, c, rfl, _, _⟩ := hpl.form
  have kX := Blk.new w 24 #[.int .i64 words, .int .i64 mx, .slice A pl.length c]
  have bX : Below w.heap.size w (w.alloc (.cells #[.int .i64 words, .int .i64 mx, .slice A pl.length c] 24)) := (Below.refl _ w).alloc (Nat.le_refl _) _
  obtain ⟨w2, hw2⟩ : ∃ z, w.alloc (.cells #[.int .i64 words, .int .i64 mx, .slice A pl.length c] 24) = z := ⟨_, rfl⟩
  rw [hw2] at kX bX
  have HW := Lib.hid hw2
  have HB := Lib.hid bX
  have HMAY := Lib.hid (may_any words mx pl _ w2 (hpl.below bX))
  have p0 : w2.cell? ⟨w.heap.size, 0, none⟩ = some (.int .i64 words) := by rw [kX.cell]; rfl
  have p1 : w2.cell? ⟨w.heap.size, 1, none⟩ = some (.int .i64 mx) := by rw [kX.cell]; rfl
  have p2 : w2.cell? ⟨w.heap.size, 2, none⟩ = some (.slice A pl.length c) := by rw [kX.cell]; rfl
  have HP2 := Lib.hid (fun W (hb : Below w2.heap.size w2 W) => (show W.cell? ⟨w.heap.size, 2, none⟩ = some (.slice A pl.length c) from by rw [(kX.keep hb).cell]; rfl))
  clear kX hw2 bX
  simp only [planV] at HMAY ⊢
  cases hm : mayP words mx pl with
  | false =>
    rw [show boundL words mx pl who = 0 from if_neg (by simp [hm])]
    rw [hm] at HMAY
    clear hpl HP2
    generalize pl.length = n at *
    go_enter Try.func19, Try.ntmps19
    go_wp2_with fail
    rw [HW.out]
    go_wp2_with fail
    refine HMAY.out.mono ?_
    rintro e w3 ⟨rfl, hb3⟩
    go_wp2_with fail
    go_ret
    exact ⟨rfl, HB.out.trans (hb3.mono HB.out.size)⟩
  | true =>
    rw [hm] at HMAY
    by_cases h0 : who < 0
    · rw [show boundL words mx pl who = 0 from if_neg (by omega)]
      clear hpl HP2
      generalize pl.length = n at *
      go_enter Try.func19, Try.ntmps19
      go_wp2_with fail
      rw [HW.out]
      go_wp2_with fail
      refine HMAY.out.mono ?_
      rintro e w3 ⟨rfl, hb3⟩
      go_wp2_with fail
      go_ret
      exact ⟨rfl, HB.out.trans (hb3.mono HB.out.size)⟩
    obtain ⟨k, rfl⟩ : ∃ k : Nat, who = (k : Int) := ⟨who.toNat, by omega⟩
    by_cases h1 : pl.length ≤ k
    · rw [show boundL words mx pl (k : Int) = 0 from if_neg (by omega)]
      clear hpl
      generalize pl.length = n at *
      have hz : (n : Int) ≤ (k : Int) := by omega
      go_enter Try.func19, Try.ntmps19
      go_wp2_with fail
      rw [HW.out]
      go_wp2_with fail
      refine HMAY.out.mono ?_
      rintro e w3 ⟨rfl, hb3⟩
      have p2' := HP2.out _ hb3
      go_wp2_with fail
      go_ret
      exact ⟨rfl, HB.out.trans (hb3.mono HB.out.size)⟩
    obtain ⟨wn, hwn, hP⟩ := planOk_of hm
    obtain ⟨txs, htxs⟩ : ∃ t, pl[k]? = some t := ⟨_, List.getElem?_eq_getElem (by omega)⟩
    have hmem := List.mem_of_getElem? htxs
    have h4 := hP.tx4 _ hmem
    have h6 := hP.ac6 _ hmem
    rw [show boundL words mx pl (k : Int) = bndL txs from by unfold boundL; rw [if_pos ⟨hm, by omega, by omega⟩, Int.toNat_natCast]; simp [List.getD, htxs]]
    have HPL := Lib.hid (fun W (hb : Below w.heap.size w W) => (hpl.below hb).at_ htxs)
    obtain ⟨b1, o1, c1, A1, d1, e1, hb1, hm1, hc1, hT1⟩ := hpl.at_ htxs
    injection e1 with e1 _ e1c
    subst e1 e1c
    have HC := Lib.hid (fun W (hb : Below w.heap.size w W) => (hb.cell (p := ⟨b1, o1 + k, none⟩) hb1).trans hc1)
    have HE := Lib.hid (fun W (hb : Below w.heap.size w W) (i : Nat) (l : List Ac) (hl : txs[i]? = some l) => (hT1.below hb).at_ hl)
    obtain ⟨n, hn⟩ : ∃ n, n = pl.length := ⟨_, rfl⟩
    obtain ⟨n2, hn2⟩ : ∃ n, n = txs.length := ⟨_, rfl⟩
    have hlt : (k : Int) < (n : Int) := by omega
    have hnk : ¬ n ≤ k := by omega
    have hnk2 : decide (n ≤ k) = false := decide_eq_false hnk
    have hge : (0 : Int) ≤ (k : Int) := by omega
    have hnlt : ¬ (n : Int) ≤ (k : Int) := by omega
    rw [← hn] at p2 HP2 HW HMAY
    rw [← hn]
    rw [← hn2] at HC HE
    have HN2 := Lib.hid hn2
    have H4 := Lib.hid h4
    have H6 := Lib.hid h6
    clear hpl hP hwn htxs hmem h4 h6 hT1 hc1 hm1 hb1 hn hn2 h1 h0 hm
    go_enter Try.func19, Try.ntmps19
    go_wp2_with fail
    rw [HW.out]
    go_wp2_with fail
    refine HMAY.out.mono ?_
    rintro e w3 ⟨rfl, hb3⟩
    have p2' := HP2.out _ hb3
    have HB3 := Lib.hid (HB.out.trans (hb3.mono HB.out.size))
    have q3 := HC.out _ HB3.out
    clear hb3 p0 p1 p2 HP2 HMAY
    go_wp2_with fail
    go_loopg [5, 7, 28] n2 (fun gg s5 s7 s28 wr => ∃ i : Nat, i ≤ n2 ∧ n2 - i ≤ gg ∧ s28 = .int .i64 i ∧ Hid (s5 = .int .i64 (bndL (txs.take i))) ∧ Hid (Below w.heap.size w wr))
    case atStart => exact ⟨0, by omega, by omega, by go_num, (show Hid _ from by go_num), HB3⟩
    case round =>
      obtain ⟨i, hi, hg, rfl, h5, BW⟩ := hrel
      by_cases hlt2 : i < n2
      · have hz2 : (i : Int) < (n2 : Int) := by omega
        have hi0 : (0 : Int) ≤ (i : Int) := by omega
        obtain ⟨l, hl⟩ : ∃ l, txs[i]? = some l := ⟨_, List.getElem?_eq_getElem (by rw [← HN2.out]; exact hlt2)⟩
        obtain ⟨b3, o3, c3, A4, d4, e3, hb3, _, hc3, hL⟩ := HE.out _ BW.out i l hl
        injection e3 with e3 _ e3c
        subst e3 e3c
        have hi4 : n2 ≤ 4 := by rw [HN2.out]; exact H4.out
        have hls := H6.out l (List.mem_of_getElem? hl)
        have hstep := bndL_take hl
        have hbd := bndL_le (txs := txs.take i) (by simp; have := H4.out; omega) (fun x hx => H6.out x (List.mem_of_mem_take hx))
        have hln : (txs.take i).length ≤ 4 := by simp; have := H4.out; omega
        have HS := Lib.hid hstep
        obtain ⟨s, hs⟩ : ∃ s, s = bndL (txs.take i) := ⟨_, rfl⟩
        have e5 := h5.out
        rw [← hs] at e5 hbd
        subst e5
        obtain ⟨p, hp⟩ : ∃ p, p = l.length := ⟨_, rfl⟩
        have HPP := Lib.hid hp
        have HSS := Lib.hid hs
        rw [← hp] at hls hc3
        have hr0 : (-9223372036854775808 : Int) ≤ s + (6 + 4 * (p : Int)) := by omega
        have hr1 : s + (6 + 4 * (p : Int)) ≤ 9223372036854775807 := by omega
        clear hl hL hstep h5 hs hp
        go_wp2_with fail
        go_roundg (n2 - (i + 1))
        case measure => omega
        case rel => exact ⟨i + 1, by omega, by omega, by go_num, (show Hid _ from by rw [HS.out, ← HSS.out, ← HPP.out]; go_num), BW⟩
      · obtain rfl : i = n2 := by omega
        have e5 := h5.out
        rw [show txs.take i = txs from List.take_of_length_le (by rw [HN2.out]; exact Nat.le_refl _)] at e5
        subst e5
        go_wp2_with fail
        go_ret
        exact ⟨rfl, BW.out⟩
end Go.Proofs.Ytngimbfojccikaa
