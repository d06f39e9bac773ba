/- foliateref19: act, May: printed by rs_may.py. -/
import Derived.Test.YtngimbfojccikaaRsWordsm
import Derived.Test.YtngimbfojccikaaStmTellsJ
import Derived.Deep.RegionHeld3
namespace Go.Proofs.Ytngimbfojccikaa
set_option linter.unusedSimpArgs false
open Go Go.RowKit
set_option linter.unusedVariables false
set_option maxRecDepth 100000

set_option maxHeartbeats 4000000 in
theorem ract_any (words mx : Int) (pv : Value) (x : Ac) (w : World) :
    Calls Try.prog 30 #[planV words mx pv, .agg (encAc x).toArray] w fun e w' => e = .returned (.bool (actB words x)) ∧ Below w.heap.size w w' := by
  have hb0 : Below w.heap.size w ((w.alloc (.cells #[.int .i64 words, .int .i64 mx, pv] 24)).alloc (.cells (encAc x).toArray 53)) := ((Below.refl _ w).alloc (Nat.le_refl _) _).alloc (by simp) _
  simp only [planV, encAc] at hb0 ⊢
  obtain ⟨d, a, v⟩ := x
  by_cases q0 : 0 ≤ d
  case neg =>
    have hq : actB words ⟨d, a, v⟩ = false := by
      unfold actB
      rw [decide_eq_false (show ¬ 0 ≤ d by omega)]
      simp
    rw [hq]
    clear hq
    go_enter Try.func30, Try.ntmps30
    go_wp2
    go_ret
    exact ⟨rfl, hb0⟩
  by_cases q1 : d ≤ 2
  case neg =>
    have hq : actB words ⟨d, a, v⟩ = false := by
      unfold actB
      rw [decide_eq_false (show ¬ d < 3 by omega)]
      simp
    rw [hq]
    clear hq
    go_enter Try.func30, Try.ntmps30
    go_wp2
    go_ret
    exact ⟨rfl, hb0⟩
  by_cases q2 : 0 ≤ a
  case neg =>
    have hq : actB words ⟨d, a, v⟩ = false := by
      unfold actB
      rw [decide_eq_false (show ¬ 0 ≤ a by omega)]
      simp
    rw [hq]
    clear hq
    go_enter Try.func30, Try.ntmps30
    go_wp2
    go_ret
    exact ⟨rfl, hb0⟩
  by_cases q3 : a < words
  case neg =>
    have hq : actB words ⟨d, a, v⟩ = false := by
      unfold actB
      rw [decide_eq_false (show ¬ a < words by omega)]
      simp
    rw [hq]
    clear hq
    go_enter Try.func30, Try.ntmps30
    go_wp2
    go_ret
    exact ⟨rfl, hb0⟩
  by_cases q4 : -1048576 ≤ v
  case neg =>
    have hq : actB words ⟨d, a, v⟩ = false := by
      unfold actB
      rw [decide_eq_false (show ¬ -1048576 ≤ v by omega)]
      simp
    rw [hq]
    clear hq
    go_enter Try.func30, Try.ntmps30
    go_wp2
    go_ret
    exact ⟨rfl, hb0⟩
  by_cases q5 : v ≤ 1048576
  case neg =>
    have hq : actB words ⟨d, a, v⟩ = false := by
      unfold actB
      rw [decide_eq_false (show ¬ v ≤ 1048576 by omega)]
      simp
    rw [hq]
    clear hq
    go_enter Try.func30, Try.ntmps30
    go_wp2
    go_ret
    exact ⟨rfl, hb0⟩
  have hq : actB words ⟨d, a, v⟩ = true := by
    unfold actB
    rw [decide_eq_true q0, decide_eq_true (show d < 3 by omega), decide_eq_true q2, decide_eq_true q3, decide_eq_true q4, decide_eq_true q5]
    rfl
  rw [hq]
  clear hq
  go_enter Try.func30, Try.ntmps30
  go_wp2
  go_ret
  exact ⟨rfl, hb0⟩

set_option maxHeartbeats 16000000 in
theorem rpmay_any (words mx : Int) (pl : List (List (List Ac))) (pv : Value) (w : World) (hpl : PlV w pv pl) :
    Calls Try.prog 15 #[planV words mx pv] w fun e w' => e = .returned (.bool (mayP words mx pl)) ∧ Below w.heap.size w w' := by
  obtain ⟨A, c, rfl, _, _⟩ := hpl.form
  have hb0 : Below w.heap.size w (w.alloc (.cells #[.int .i64 words, .int .i64 mx, .slice A pl.length c] 24)) := (Below.refl _ w).alloc (Nat.le_refl _) _
  have hbx : Blk (w.alloc (.cells #[.int .i64 words, .int .i64 mx, .slice A pl.length c] 24)) w.heap.size 24 #[.int .i64 words, .int .i64 mx, .slice A pl.length c] := Blk.new _ _ _
  have HB0 := Lib.hid hb0
  obtain ⟨n, hn⟩ : ∃ n, n = pl.length := ⟨_, rfl⟩
  obtain ⟨q, hq⟩ : ∃ q, q = mayP words mx pl := ⟨_, rfl⟩
  rw [← hq]
  have HN := Lib.hid hn
  have HQ := Lib.hid hq
  have HPL := Lib.hid (fun W (hb : Below w.heap.size w W) (i : Nat) txs (hi : pl[i]? = some txs) => (hpl.below hb).at_ hi)
  rw [← hn] at hbx hb0 HB0 HPL ⊢
  clear hn hpl
  by_cases g0 : 1 ≤ words
  case neg =>
    have hz : words < 1 := by omega
    have hf : q = false := by
      rw [hq]
      have hn := HN.out
      unfold mayP newOk
      simp only [Bool.and_eq_false_iff, decide_eq_false_iff_not, Bool.and_eq_true, decide_eq_true_eq]
      omega
    subst hf
    clear hq g0 HPL
    unfold planV
    go_enter Try.func15, Try.ntmps15
    go_wp2
    go_ret
    exact ⟨rfl, hb0⟩
  by_cases g1 : words ≤ 8
  case neg =>
    have hz : 8 < words := by omega
    have hf : q = false := by
      rw [hq]
      have hn := HN.out
      unfold mayP newOk
      simp only [Bool.and_eq_false_iff, decide_eq_false_iff_not, Bool.and_eq_true, decide_eq_true_eq]
      omega
    subst hf
    clear hq g1 HPL
    have y0 : ¬ words < 1 := by omega
    unfold planV
    go_enter Try.func15, Try.ntmps15
    go_wp2
    go_ret
    exact ⟨rfl, hb0⟩
  by_cases g2 : 0 ≤ mx
  case neg =>
    have hz : mx < 0 := by omega
    have hf : q = false := by
      rw [hq]
      have hn := HN.out
      unfold mayP newOk
      simp only [Bool.and_eq_false_iff, decide_eq_false_iff_not, Bool.and_eq_true, decide_eq_true_eq]
      omega
    subst hf
    clear hq g2 HPL
    have y0 : ¬ words < 1 := by omega
    have y1 : ¬ 8 < words := by omega
    unfold planV
    go_enter Try.func15, Try.ntmps15
    go_wp2
    go_ret
    exact ⟨rfl, hb0⟩
  by_cases g3 : mx ≤ 1000
  case neg =>
    have hz : 1000 < mx := by omega
    have hf : q = false := by
      rw [hq]
      have hn := HN.out
      unfold mayP newOk
      simp only [Bool.and_eq_false_iff, decide_eq_false_iff_not, Bool.and_eq_true, decide_eq_true_eq]
      omega
    subst hf
    clear hq g3 HPL
    have y0 : ¬ words < 1 := by omega
    have y1 : ¬ 8 < words := by omega
    have y2 : ¬ mx < 0 := by omega
    unfold planV
    go_enter Try.func15, Try.ntmps15
    go_wp2
    go_ret
    exact ⟨rfl, hb0⟩
  by_cases g4 : 1 ≤ n
  case neg =>
    have hz : (n : Int) < 1 := by omega
    have hf : q = false := by
      rw [hq]
      have hn := HN.out
      unfold mayP newOk
      simp only [Bool.and_eq_false_iff, decide_eq_false_iff_not, Bool.and_eq_true, decide_eq_true_eq]
      omega
    subst hf
    clear hq g4 HPL
    have y0 : ¬ words < 1 := by omega
    have y1 : ¬ 8 < words := by omega
    have y2 : ¬ mx < 0 := by omega
    have y3 : ¬ 1000 < mx := by omega
    unfold planV
    go_enter Try.func15, Try.ntmps15
    go_wp2
    go_ret
    exact ⟨rfl, hb0⟩
  by_cases g5 : n ≤ 4
  case neg =>
    have hz : (4 : Int) < (n : Int) := by omega
    have hf : q = false := by
      rw [hq]
      have hn := HN.out
      unfold mayP newOk
      simp only [Bool.and_eq_false_iff, decide_eq_false_iff_not, Bool.and_eq_true, decide_eq_true_eq]
      omega
    subst hf
    clear hq g5 HPL
    have y0 : ¬ words < 1 := by omega
    have y1 : ¬ 8 < words := by omega
    have y2 : ¬ mx < 0 := by omega
    have y3 : ¬ 1000 < mx := by omega
    have y4 : ¬ (n : Int) < 1 := by omega
    unfold planV
    go_enter Try.func15, Try.ntmps15
    go_wp2
    go_ret
    exact ⟨rfl, hb0⟩
  have y0 : ¬ words < 1 := by omega
  have y1 : ¬ 8 < words := by omega
  have y2 : ¬ mx < 0 := by omega
  have y3 : ¬ 1000 < mx := by omega
  have y4 : ¬ (n : Int) < 1 := by omega
  have y5 : ¬ (4 : Int) < (n : Int) := by omega
  have HT := Lib.hid (show (∀ (i : Nat) txs, pl[i]? = some txs → i < n → txB words txs = true) → q = true from fun h => by
    rw [hq]
    have hn := HN.out
    unfold mayP newOk
    have hall : pl.all (txB words) = true := by
      rw [List.all_eq_true]
      intro txs hm
      obtain ⟨i, hi, rfl⟩ := List.getElem_of_mem hm
      exact h i _ (List.getElem?_eq_getElem hi) (by omega)
    simp only [hall, Bool.and_true, Bool.and_eq_true, decide_eq_true_eq]
    omega)
  have HF := Lib.hid (show ∀ (i : Nat) txs, pl[i]? = some txs → txB words txs = false → q = false from fun i txs hi h => by
    rw [hq]
    have : pl.all (txB words) = false := by
      rw [List.all_eq_false]
      exact ⟨txs, List.mem_of_getElem? hi, by simp [h]⟩
    unfold mayP
    rw [this]
    simp)
  have HBX := Lib.hid (fun W (hb : Below (w.alloc (.cells #[.int .i64 words, .int .i64 mx, .slice A n c] 24)).heap.size (w.alloc (.cells #[.int .i64 words, .int .i64 mx, .slice A n c] 24)) W) => hbx.keep hb)
  obtain ⟨w1, hw1⟩ : ∃ z, w.alloc (.cells #[.int .i64 words, .int .i64 mx, .slice A n c] 24) = z := ⟨_, rfl⟩
  have HW1 := Lib.hid hw1
  rw [hw1] at HBX HB0
  clear hbx hb0 hq hw1 g0 g1 g2 g3 g4 g5
  unfold planV
  have HCE := Lib.hid (fun W (hb : Below w1.heap.size w1 W) => (show W.cell? ⟨w.heap.size, 0, none⟩ = some (.int .i64 words) ∧ W.cell? ⟨w.heap.size, 1, none⟩ = some (.int .i64 mx) ∧ W.cell? ⟨w.heap.size, 2, none⟩ = some (.slice A n c) from ⟨by rw [(HBX.out W hb).cell]; rfl, by rw [(HBX.out W hb).cell]; rfl, by rw [(HBX.out W hb).cell]; rfl⟩))
  go_enter Try.func15, Try.ntmps15
  go_upto_region 1 with fail
  rw [HW1.out]
  obtain ⟨p0, p1, p2⟩ := HCE.out _ (Below.refl _ _)
  go_wp2_with fail
  go_loopg [3, 4, 5, 6] n (fun gg s3 s4 s5 s6 wr => ∃ i : Nat, i ≤ n ∧ n - i ≤ gg ∧ s3 = .int .i64 i ∧ Hid (Below w1.heap.size w1 wr ∧ ∀ (i' : Nat) txs, pl[i']? = some txs → i' < i → txB words txs = true))
  case atStart => exact ⟨0, by omega, by omega, rfl, (show Hid _ from ⟨Below.refl _ _, fun i' _ _ h => absurd h (Nat.not_lt_zero _)⟩)⟩
  case round =>
    obtain ⟨i, hi, hg, rfl, HI⟩ := hrel
    clear p0 p1 p2
    obtain ⟨p0, p1, p2⟩ := HCE.out _ HI.out.1
    by_cases hlt : i < n
    · have hltz : (i : Int) < (n : Int) := by omega
      have hi0 : (0 : Int) ≤ (i : Int) := by omega
      obtain ⟨txs, htx⟩ : ∃ txs, pl[i]? = some txs := ⟨_, List.getElem?_eq_getElem (by rw [← HN.out]; exact hlt)⟩
      have HEL := Lib.hid (fun W (hb : Below w.heap.size w W) => HPL.out W hb i txs htx)
      obtain ⟨b1, o1, c1', A2, d2, e1, hb1, _, hc1, hT⟩ := HEL.out w1 HB0.out
      injection e1 with e1 _ e1c
      have HTX := Lib.hid htx
      obtain ⟨n2, hn2⟩ : ∃ z, z = txs.length := ⟨_, rfl⟩
      have HN2 := Lib.hid hn2
      have HE2 := Lib.hid (fun (k : Nat) (l : List Ac) (h : txs[k]? = some l) => hT.at_ h)
      rw [← hn2] at hc1 HE2
      have HC1 := Lib.hid (fun W (hb : Below w1.heap.size w1 W) => (show W.cell? ⟨w.heap.size, 2, none⟩ = some (.slice (some ⟨b1, o1, none⟩) n c) ∧ W.cell? ⟨b1, o1 + i, none⟩ = some (.slice A2 n2 d2) from
        ⟨by rw [← e1]; exact (HCE.out W hb).2.2, (hb.cell (p := ⟨b1, o1 + i, none⟩) hb1).trans hc1⟩))
      have HWR := HB0
      obtain ⟨z2, z3⟩ := HC1.out _ HI.out.1
      clear p2
      by_cases h4 : n2 ≤ 4
      case neg =>
        have h4z : (4 : Int) < (n2 : Int) := by omega
        have hf : q = false := HF.out i txs HTX.out (by unfold txB; rw [decide_eq_false (by rw [← HN2.out]; exact h4)]; rfl)
        subst hf
        clear htx hT hn2 e1 e1c
        go_wp2_with fail
        go_ret
        exact ⟨rfl, HB0.out.trans (HI.out.1.mono HB0.out.size)⟩
      have h4z : ¬ (4 : Int) < (n2 : Int) := by omega
      clear htx hT hn2 e1 e1c
      go_wp2_with fail
      go_loopg [4, 5, 6] n2 (fun gg s4 s5 s6 wq => ∃ k : Nat, k ≤ n2 ∧ n2 - k ≤ gg ∧ s4 = .int .i64 k ∧ Hid (Below w1.heap.size w1 wq ∧ ∀ (k' : Nat) l, txs[k']? = some l → k' < k → lB words l = true))
      case atStart => exact ⟨0, by omega, by omega, by go_num, (show Hid _ from ⟨HI.out.1, fun i' _ _ h => absurd h (Nat.not_lt_zero _)⟩)⟩
      case round =>
        obtain ⟨k, hk, hg2, rfl, HK⟩ := hrel
        clear hc1 p0 p1 z2 z3
        obtain ⟨z2, z3⟩ := HC1.out _ HK.out.1
        by_cases hlt2 : k < n2
        · have hltz2 : (k : Int) < (n2 : Int) := by omega
          have hk0 : (0 : Int) ≤ (k : Int) := by omega
          obtain ⟨l, hl⟩ : ∃ l, txs[k]? = some l := ⟨_, List.getElem?_eq_getElem (by rw [← HN2.out]; exact hlt2)⟩
          obtain ⟨b3, o3, c3, A4, d4, e3, hb3, _, hc3, hL⟩ := HE2.out k l hl
          injection e3 with e3 _ e3c
          have HL := Lib.hid hl
          obtain ⟨n3, hn3⟩ : ∃ z, z = l.length := ⟨_, rfl⟩
          have HN3 := Lib.hid hn3
          have HLV := Lib.hid hL
          rw [← hn3] at hc3
          have HC3 := Lib.hid (fun W (hb : Below w1.heap.size w1 W) => (show W.cell? ⟨w.heap.size, 0, none⟩ = some (.int .i64 words) ∧ W.cell? ⟨w.heap.size, 1, none⟩ = some (.int .i64 mx) ∧ W.cell? ⟨w.heap.size, 2, none⟩ = some (.slice (some ⟨b1, o1, none⟩) n c) ∧ W.cell? ⟨b1, o1 + i, none⟩ = some (.slice (some ⟨b3, o3, none⟩) n2 d2) ∧ W.cell? ⟨b3, o3 + k, none⟩ = some (.slice A4 n3 d4) from
            ⟨(HCE.out W hb).1, (HCE.out W hb).2.1, (HC1.out W hb).1, by rw [← e3]; exact (HC1.out W hb).2, (hb.cell (p := ⟨b3, o3 + k, none⟩) hb3).trans hc3⟩))
          clear z2 z3
          obtain ⟨z0, z1, z2, z3, z4⟩ := HC3.out _ HK.out.1
          by_cases h6 : n3 ≤ 6
          case neg =>
            have h6z : (6 : Int) < (n3 : Int) := by omega
            have hf : q = false := HF.out i txs HTX.out (by
              unfold txB
              rw [show txs.all (lB words) = false from by rw [List.all_eq_false]; exact ⟨l, List.mem_of_getElem? HL.out, by unfold lB; rw [decide_eq_false (by rw [← HN3.out]; exact h6)]; simp⟩]
              simp)
            subst hf
            clear hl hL hn3 e3 e3c
            go_wp2_with fail
            go_ret
            exact ⟨rfl, HWR.out.trans (HK.out.1.mono HWR.out.size)⟩
          have h6z : ¬ (6 : Int) < (n3 : Int) := by omega
          clear hl hL hn3 e3 e3c
          go_wp2_with fail
          go_loopg [5, 6] n3 (fun gg s5 s6 wq => ∃ j : Nat, j ≤ n3 ∧ n3 - j ≤ gg ∧ s5 = .int .i64 j ∧ Hid (Below w1.heap.size w1 wq ∧ ∀ (j' : Nat) x, l[j']? = some x → j' < j → actB words x = true))
          case atStart => exact ⟨0, by omega, by omega, by go_num, (show Hid _ from ⟨HK.out.1, fun i' _ _ h => absurd h (Nat.not_lt_zero _)⟩)⟩
          case round =>
            obtain ⟨j, hj, hg3, rfl, HJ⟩ := hrel
            clear hc3 z0 z1 z2 z3 z4
            obtain ⟨z0, z1, z2, z3, z4⟩ := HC3.out _ HJ.out.1
            by_cases hlt3 : j < n3
            · have hltz3 : (j : Int) < (n3 : Int) := by omega
              have hj0 : (0 : Int) ≤ (j : Int) := by omega
              have hjl : j < l.length := by rw [← HN3.out]; exact hlt3
              obtain ⟨b5, o5, e5, hb5, hc5⟩ := Sl.pos encAc encAc_len HLV.out (by omega)
              have hx := List.getElem?_eq_getElem hjl
              have hcx := fun W hb => hc5 W hb j hjl
              generalize l[j] = x at *
              have HXJ := Lib.hid hx
              have HCX := Lib.hid (fun W (hb : Below w1.heap.size w1 W) => (show W.cell? ⟨w.heap.size, 0, none⟩ = some (.int .i64 words) ∧ W.cell? ⟨w.heap.size, 1, none⟩ = some (.int .i64 mx) ∧ W.cell? ⟨w.heap.size, 2, none⟩ = some (.slice (some ⟨b1, o1, none⟩) n c) ∧ W.cell? ⟨b1, o1 + i, none⟩ = some (.slice (some ⟨b3, o3, none⟩) n2 d2) ∧ W.cell? ⟨b3, o3 + k, none⟩ = some (.slice (some ⟨b5, o5, none⟩) n3 d4) ∧ W.cell? ⟨b5, o5 + j * 3, none⟩ = some (.int .i64 x.d) ∧ W.cell? ⟨b5, o5 + j * 3 + 1, none⟩ = some (.int .i64 x.at_) ∧ W.cell? ⟨b5, o5 + j * 3 + 2, none⟩ = some (.int .i64 x.v) from by
                obtain ⟨u0, u1, u2, u3, u4⟩ := HC3.out W hb
                exact ⟨u0, u1, u2, u3, by rw [← e5]; exact u4, by have := hcx W hb 0 _ rfl; simpa using this, hcx W hb 1 _ rfl, hcx W hb 2 _ rfl⟩))
              have HAC := Lib.hid (fun W => ract_any words mx (.slice (some ⟨b1, o1, none⟩) n c) x W)
              simp only [planV, encAc] at HAC
              clear hx hcx hc5 e5 hjl
              go_upto_region 16 with fail
              clear z0 z1 z2 z3 z4
              refine wp_region_held_drew (S := fun W => W.cell? ⟨w.heap.size, 0, none⟩ = some (.int .i64 words) ∧ W.cell? ⟨w.heap.size, 1, none⟩ = some (.int .i64 mx) ∧ W.cell? ⟨w.heap.size, 2, none⟩ = some (.slice (some ⟨b1, o1, none⟩) n c) ∧ W.cell? ⟨b1, o1 + i, none⟩ = some (.slice (some ⟨b3, o3, none⟩) n2 d2) ∧ W.cell? ⟨b3, o3 + k, none⟩ = some (.slice (some ⟨b5, o5, none⟩) n3 d4) ∧ W.cell? ⟨b5, o5 + j * 3, none⟩ = some (.int .i64 x.d) ∧ W.cell? ⟨b5, o5 + j * 3 + 1, none⟩ = some (.int .i64 x.at_) ∧ W.cell? ⟨b5, o5 + j * 3 + 2, none⟩ = some (.int .i64 x.v)) (by kernel_rfl) ?_ (fun hbr => ?_)
              · exact HCX.out _ HJ.out.1.drew
              refine tkA 0 ?_
              refine tkA 1 ?_
              refine tkA 2 ?_
              refine tkA 3 ?_
              refine tkA 4 ?_
              refine tkA 5 ?_
              refine tkA 6 ?_
              refine tkA 7 ?_
              refine tkA 8 ?_
              refine tkA 9 ?_
              refine tkA 10 ?_
              refine tkA 11 ?_
              refine stA 12 (fun K hK => ?_)
              go_simp
              refine (HAC.out _).mono ?_
              rintro e w9 ⟨rfl, hb9⟩
              have HB9 := Lib.hid (HJ.out.1.drew.trans (hb9.mono HJ.out.1.drew.size))
              clear hb9
              try go_wp2_with fail
              refine hK.out _ _ ?_ (fun hbr12 => ?_)
              · exact HCX.out _ HB9.out
              clear hK K hbr
              try simp only [Act.put, List.setIfInBounds_toArray, List.set_cons_zero, List.set_cons_succ]
              refine stA 13 (fun K hK => ?_)
              go_simp
              refine hK.out _ _ ?_ (fun hbr13 => ?_)
              · exact HCX.out _ HB9.out
              clear hK K hbr12
              try simp only [Act.put, List.setIfInBounds_toArray, List.set_cons_zero, List.set_cons_succ]
              refine wpAnyH_done (by kernel_rfl) ?_ _
              obtain ⟨ab, hab⟩ : ∃ z, z = actB words x := ⟨_, rfl⟩
              have HAB := Lib.hid hab
              rw [← hab]
              clear hab
              cases ab with
              | false =>
                have hf : q = false := HF.out i txs HTX.out (by
                  unfold txB
                  rw [show txs.all (lB words) = false from by
                    rw [List.all_eq_false]
                    refine ⟨l, List.mem_of_getElem? HL.out, ?_⟩
                    unfold lB
                    rw [show l.all (actB words) = false from by rw [List.all_eq_false]; exact ⟨x, List.mem_of_getElem? HXJ.out, by rw [← HAB.out]; simp⟩]
                    simp]
                  simp)
                subst hf
                go_wp2_with fail
                go_ret
                exact ⟨rfl, HWR.out.trans (HB9.out.mono HWR.out.size)⟩
              | true =>
                go_wp2_with fail
                go_roundg (n3 - (j + 1))
                case measure => omega
                case rel =>
                  refine ⟨j + 1, by omega, by omega, by go_num, (show Hid _ from ⟨HB9.out, fun j' y hy hlt => ?_⟩)⟩
                  by_cases e : j' = j
                  · subst e
                    have hq := HXJ.out
                    rw [hy] at hq; injection hq with hq; subst hq
                    exact HAB.out.symm
                  · exact HJ.out.2 j' y hy (by omega)
            · obtain rfl : n3 = j := by omega
              go_wp2_with fail
              go_roundg (n2 - (k + 1))
              case measure => omega
              case rel =>
                refine ⟨k + 1, by omega, by omega, by go_num, (show Hid _ from ⟨HJ.out.1, fun k' y hy hlt => ?_⟩)⟩
                by_cases e : k' = k
                · subst e
                  have hq := HL.out
                  rw [hy] at hq; injection hq with hq; subst hq
                  unfold lB
                  rw [decide_eq_true (by rw [← HN3.out]; exact h6), Bool.true_and, List.all_eq_true]
                  intro z hz
                  obtain ⟨j', hj', rfl⟩ := List.getElem_of_mem hz
                  exact HJ.out.2 j' _ (List.getElem?_eq_getElem hj') (by rw [HN3.out]; exact hj')
                · exact HK.out.2 k' y hy (by omega)
        · obtain rfl : n2 = k := by omega
          go_wp2_with fail
          go_roundg (n - (i + 1))
          case measure => omega
          case rel =>
            refine ⟨i + 1, by omega, by omega, by go_num, (show Hid _ from ⟨HK.out.1, fun i' y hy hlt => ?_⟩)⟩
            by_cases e : i' = i
            · subst e
              have hq := HTX.out
              rw [hy] at hq; injection hq with hq; subst hq
              unfold txB
              rw [decide_eq_true (by rw [← HN2.out]; exact h4), Bool.true_and, List.all_eq_true]
              intro z hz
              obtain ⟨k', hk', rfl⟩ := List.getElem_of_mem hz
              exact HK.out.2 k' _ (List.getElem?_eq_getElem hk') (by rw [HN2.out]; exact hk')
            · exact HI.out.2 i' y hy (by omega)
    · obtain rfl : n = i := by omega
      have hf : q = true := HT.out HI.out.2
      subst hf
      go_wp2_with fail
      go_ret
      exact ⟨rfl, HB0.out.trans (HI.out.1.mono HB0.out.size)⟩
end Go.Proofs.Ytngimbfojccikaa
