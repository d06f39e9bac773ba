/- The walk of SerialSteps. -/
import Derived.Test.YtmcbnpeihedcaaaSrStepsP
import Derived.Test.YtmcbnpeihedcaaaSrAwake
import Derived.Test.YtmcbnpeihedcaaaSrOpen
namespace Go.Proofs.Ytmcbnpeihedcaaa
open Go Go.RowKit
set_option linter.unusedVariables false

def stepsOk (h : List Rx) (n ver i : Int) : Bool := fewR h && (decide (ver ≤ 1073741824) && (decide (-1073741824 ≤ ver) && (decide (1 ≤ n) && (decide (n ≤ 8) && (decide (0 ≤ i) && decide (i < n))))))

set_option maxRecDepth 100000 in
set_option maxHeartbeats 4000000 in
theorem steps_few (w : World) (n : Int) (v : Value) (h : List Rx) (hv : RecsV w v h) (ver i : Int) (hfew : fewR h = false) :
    Calls Try.prog 4 #[.int .i64 n, v, .int .i64 ver, .int .i64 i] w fun e w' => e = .returned (.bool true) ∧ Below w.heap.size w w' := by
  obtain ⟨A, c, rfl, hlc, hcm⟩ := hv.1.form
  have HF := Lib.hid (fun W (hb : Below w.heap.size w W) => hfew ▸ few_any _ h W (hv.below hb))
  clear hv hfew hlc hcm
  generalize h.length = m at *
  go_enter Try.func4, Try.ntmps4
  go_wp2_with fail
  refine (awake_any _).mono ?_
  rintro e w1 ⟨rfl, hb1⟩
  have HB1 := Lib.hid hb1
  clear hb1
  go_wp2_with fail
  refine (HF.out _ HB1.out).mono ?_
  rintro e w2 ⟨rfl, hb2⟩
  have HB2 := Lib.hid (HB1.out.trans (hb2.mono HB1.out.size))
  clear hb2
  go_wp2
  go_ret
  exact ⟨rfl, HB2.out⟩

set_option maxRecDepth 100000 in
set_option maxHeartbeats 4000000 in
theorem steps_out (w : World) (n : Int) (v : Value) (h : List Rx) (hv : RecsV w v h) (ver i : Int) (hfew : fewR h = true) (hout : ¬ (ver ≤ 1073741824 ∧ -1073741824 ≤ ver ∧ 1 ≤ n ∧ n ≤ 8 ∧ 0 ≤ i ∧ i < n)) :
    Calls Try.prog 4 #[.int .i64 n, v, .int .i64 ver, .int .i64 i] w fun e w' => e = .returned (.bool true) ∧ Below w.heap.size w w' := by
  obtain ⟨A, c, rfl, hlc, hcm⟩ := hv.1.form
  have HF := Lib.hid (fun W (hb : Below w.heap.size w W) => hfew ▸ few_any _ h W (hv.below hb))
  have HO := Lib.hid hout
  clear hv hfew hlc hcm hout
  generalize h.length = m at *
  go_enter Try.func4, Try.ntmps4
  go_wp2_with fail
  refine (awake_any _).mono ?_
  rintro e w1 ⟨rfl, hb1⟩
  have HB1 := Lib.hid hb1
  clear hb1
  go_wp2_with fail
  refine (HF.out _ HB1.out).mono ?_
  rintro e w2 ⟨rfl, hb2⟩
  have HB2 := Lib.hid (HB1.out.trans (hb2.mono HB1.out.size))
  clear hb2
  by_cases q1 : (1073741824 : Int) < ver
  · go_wp2
    go_ret
    exact ⟨rfl, HB2.out⟩
  by_cases q2 : ver < (-1073741824 : Int)
  · go_wp2
    go_ret
    exact ⟨rfl, HB2.out⟩
  by_cases q3 : n < 1
  · go_wp2
    go_ret
    exact ⟨rfl, HB2.out⟩
  by_cases q4 : (8 : Int) < n
  · go_wp2
    go_ret
    exact ⟨rfl, HB2.out⟩
  by_cases q5 : i < 0
  · go_wp2
    go_ret
    exact ⟨rfl, HB2.out⟩
  have q6 : n ≤ i := by
    have := HO.out
    omega
  go_wp2
  go_ret
  exact ⟨rfl, HB2.out⟩

set_option maxRecDepth 100000 in
set_option maxHeartbeats 4000000 in
theorem steps_main (w : World) (n : Nat) (v : Value) (h : List Rx) (hv : RecsV w v h) (ver : Int) (i : Nat) (hfew : fewR h = true) (q1 : ver ≤ 1073741824) (q2 : -1073741824 ≤ ver) (q3 : 1 ≤ n) (q4 : n ≤ 8) (q6 : i < n) :
    Calls Try.prog 4 #[.int .i64 (n : Int), v, .int .i64 ver, .int .i64 (i : Int)] w fun e w' => e = .returned (.bool true) ∧ Below w.heap.size w w' := by
  obtain ⟨A, c, rfl, hlc, hcm⟩ := hv.1.form
  have hl30 : h.length ≤ 30 := by unfold fewR at hfew; simp at hfew; exact hfew.2
  have HF := Lib.hid (fun W (hb : Below w.heap.size w W) => hfew ▸ few_any _ h W (hv.below hb))
  have HW := Lib.hid (show ∀ x ∈ h, x.W.length ≤ 12 from fun x hx => by unfold fewR at hfew; simp at hfew; exact (hfew.1 x hx).2)
  have HP := Lib.hid (fun h0 : 0 < h.length => Sl.pos encRx encRx_len hv.1 h0)
  have HOK := Lib.hid (fun x hx W (hb : Below w.heap.size w W) => (hv.2 x hx).below hb)
  have hst : ∀ ver, stateL (n : Int) h ver = foldS n ((wsOf h).takeWhile (fun x => decide (x.wv ≤ ver))) := fun ver => by
    unfold stateL
    rw [if_neg (by omega), Int.toNat_natCast]
  have HS := Lib.hid (fun ver W (hb : Below w.heap.size w W) => hst ver ▸ state_any (n : Int) ver _ h W (hv.below hb) (by omega))
  have hlaw : ∀ va, (foldS n ((wsOf h).takeWhile (fun x => decide (x.wv ≤ ver))))[i]? = some va → (foldS n ((wsOf h).takeWhile (fun x => decide (x.wv ≤ ver + 1))))[i]? = some (h.foldl (scan1 i (ver + 1)) va) := fun va hva => by
    rw [steps_law n i q6 h ver]
    rw [List.getElem?_eq_getElem (by rw [foldS_len]; exact q6)] at hva
    rw [Option.some.inj hva]
  have hl1 := foldS_len n ((wsOf h).takeWhile (fun x => decide (x.wv ≤ ver)))
  have hl2 := foldS_len n ((wsOf h).takeWhile (fun x => decide (x.wv ≤ ver + 1)))
  have HS0 := Lib.hid (fun W hb => HS.out ver W hb)
  have HS1 := Lib.hid (fun W hb => HS.out (ver + 1) W hb)
  clear HS hst
  generalize foldS n ((wsOf h).takeWhile (fun x => decide (x.wv ≤ ver))) = a at *
  generalize foldS n ((wsOf h).takeWhile (fun x => decide (x.wv ≤ ver + 1))) = b at *
  obtain ⟨m, hm⟩ : ∃ m, m = h.length := ⟨_, rfl⟩
  rw [← hm] at HF HS0 HS1 hl30 ⊢
  have HM := Lib.hid hm
  have HL := Lib.hid hlaw
  have HLA := Lib.hid hl1
  have HLB := Lib.hid hl2
  have q2' : ¬ ver < (-1073741824 : Int) := by omega
  have q1' : ¬ (1073741824 : Int) < ver := by omega
  have q3' : ¬ (n : Int) < 1 := by omega
  have q4' : ¬ (8 : Int) < (n : Int) := by omega
  have q5' : ¬ (i : Int) < 0 := by omega
  have q6' : ¬ (n : Int) ≤ (i : Int) := by omega
  have q7 : (i : Int) < (n : Int) := by omega
  have hwrap : IntKind.i64.wrap (ver + 1) = ver + 1 := by rw [IntKind.wrap_i64]; omega
  clear hv hfew hlc hcm hlaw hl1 hl2 hm q1 q2 q3 q4
  go_enter Try.func4, Try.ntmps4
  go_wp2_with fail
  refine (awake_any _).mono ?_
  rintro e w1 ⟨rfl, hb1⟩
  have HB1 := Lib.hid hb1
  clear hb1
  go_wp2_with fail
  refine (HF.out _ HB1.out).mono ?_
  rintro e w2 ⟨rfl, hb2⟩
  have HB2 := Lib.hid (HB1.out.trans (hb2.mono HB1.out.size))
  clear hb2 HB1
  go_wp2_with fail
  refine (HS0.out _ HB2.out).mono ?_
  rintro e w3 ⟨v3, rfl, hv3, hb3⟩
  have HB3 := Lib.hid (HB2.out.trans (hb3.mono HB2.out.size))
  clear hb3 HB2
  rw [HLA.out] at hv3
  obtain ⟨A3, c3, rfl, _, _⟩ := hv3.form
  go_wp2_with fail
  refine (HS1.out _ HB3.out).mono ?_
  rintro e w4 ⟨v4, rfl, hv4, hb4⟩
  have HB4 := Lib.hid (HB3.out.trans (hb4.mono HB3.out.size))
  have hv3 := hv3.below hb4
  clear hb4 HB3
  rw [HLB.out] at hv4
  obtain ⟨A4, c4, rfl, _, _⟩ := hv4.form
  obtain ⟨b3, o3, e3, hb3, he3⟩ := Sl.pos (xs := a) encI encI_len (by rw [HLA.out]; exact hv3) (by rw [HLA.out]; omega)
  obtain ⟨b4, o4, e4, hb4, he4⟩ := Sl.pos (xs := b) encI encI_len (by rw [HLB.out]; exact hv4) (by rw [HLB.out]; omega)
  subst e3 e4
  have x3 := he3 w4 (Below.refl _ _) i (by rw [HLA.out]; exact q6) 0 _ rfl
  have HX4 := Lib.hid (fun W hb => he4 W hb i (by rw [HLB.out]; exact q6) 0 _ rfl)
  have HLV : Hid (b[i]'(by rw [HLB.out]; exact q6) = h.foldl (scan1 i (ver + 1)) (a[i]'(by rw [HLA.out]; exact q6))) := by
    have h2 := HL.out _ (List.getElem?_eq_getElem (by rw [HLA.out]; exact q6))
    rw [List.getElem?_eq_getElem (by rw [HLB.out]; exact q6)] at h2
    exact Option.some.inj h2
  simp only [Nat.add_zero, Nat.mul_one] at x3 HX4
  generalize a[i]'(by rw [HLA.out]; exact q6) = va at *
  generalize b[i]'(by rw [HLB.out]; exact q6) = vb at *
  clear he3 he4 hv3 hv4 HL
  go_wp2_with fail
  clear x3
  go_loopg [13, 14, 15] m (fun gg s13 s14 _ wr => ∃ k : Nat, k ≤ m ∧ m - k ≤ gg ∧ s14 = .int .i64 k ∧ s13 = .int .i64 ((h.take k).foldl (scan1 i (ver + 1)) va) ∧ w4 = wr)
  case atStart => exact ⟨0, by omega, by omega, by go_num, rfl, rfl⟩
  case round =>
    obtain ⟨k, hk, hg, rfl, rfl, rfl⟩ := hrel
    by_cases hlt : k < m
    · have hltz : (k : Int) < (m : Int) := by omega
      have hk0 : (0 : Int) ≤ (k : Int) := by omega
      have hkl : k < h.length := by rw [← HM.out]; exact hlt
      obtain ⟨bb, oo, hA, hbl, hel⟩ := HP.out (by omega)
      subst hA
      have hel := hel w4 HB4.out k hkl
      have hok := HOK.out h[k] (List.getElem_mem hkl) w4 HB4.out
      have HWK := Lib.hid (HW.out h[k] (List.getElem_mem hkl))
      have HTK := Lib.hid (show (h.take (k + 1)).foldl (scan1 i (ver + 1)) va = scan1 i (ver + 1) ((h.take k).foldl (scan1 i (ver + 1)) va) h[k] from by
        rw [List.take_succ_eq_append_getElem hkl, List.foldl_append]; rfl)
      generalize h[k] = x at *
      generalize (h.take k).foldl (scan1 i (ver + 1)) va = vk at *
      have c3 := hel 3 _ rfl
      have c5 := hel 5 _ rfl
      have c7 := hel 7 _ rfl
      clear hel
      obtain ⟨p, hp⟩ : ∃ p, p = x.W.length := ⟨_, rfl⟩
      have HPL := Lib.hid hp
      have HPP := Lib.hid (fun h0 : 0 < x.W.length => Sl.pos encPr encPr_len hok.2 h0)
      rw [← hp] at HWK c7
      clear hok hp
      have hp12 : p ≤ 12 := HWK.out
      go_wp2_with fail
      go_loopg [13, 15] p (fun gg s13 s15 wr => ∃ j : Nat, j ≤ p ∧ p - j ≤ gg ∧ s15 = .int .i64 j ∧ s13 = .int .i64 (scan2 i (ver + 1) vk x.en x.wv (x.W.take j)) ∧ w4 = wr)
      case atStart =>
        refine ⟨0, by omega, by omega, by go_num, ?_, rfl⟩
        unfold scan2
        simp
      case round =>
        obtain ⟨j, hj, hg2, rfl, rfl, rfl⟩ := hrel
        by_cases hlt2 : j < p
        · have hltz2 : (j : Int) < (p : Int) := by omega
          have hj0 : (0 : Int) ≤ (j : Int) := by omega
          have hjl : j < x.W.length := by rw [← HPL.out]; exact hlt2
          obtain ⟨b5, o5, e5, _, he5⟩ := HPP.out (by omega)
          rw [e5] at c7
          have hq := he5 w4 (Below.refl _ _) j hjl
          have HT := Lib.hid (List.take_succ_eq_append_getElem hjl)
          generalize x.W[j] = y at *
          have d0 := hq 0 _ rfl
          have d1 := hq 1 _ rfl
          simp only [Nat.add_zero] at d0
          clear hq he5 e5
          by_cases g1 : x.en = 0
          · have g1b : (x.en == 0) = true := by simpa using g1
            by_cases g2 : x.wv = ver + 1
            · have g2b : (x.wv == ver + 1) = true := by simpa using g2
              have HSC := Lib.hid (show scan2 i (ver + 1) vk x.en x.wv (x.W.take (j + 1)) = pick1 i (scan2 i (ver + 1) vk x.en x.wv (x.W.take j)) y from by
                unfold scan2
                simp only [if_pos (And.intro g1 g2)]
                rw [HT.out, List.foldl_append]; rfl)
              generalize scan2 i (ver + 1) vk x.en x.wv (x.W.take j) = vj at *
              clear g1 g2
              by_cases g3 : y.at_ = (i : Int)
              · have g3b : (y.at_ == (i : Int)) = true := by simpa using g3
                have HSD := Lib.hid (HSC.out.trans (show pick1 i vj y = y.v from by unfold pick1; rw [if_pos g3]))
                clear g3
                go_wp2
                go_roundg (p - (j + 1))
                case measure => omega
                case rel => exact ⟨j + 1, by omega, by omega, by go_num, by rw [HSD.out], rfl⟩
              · have g3b : (y.at_ == (i : Int)) = false := by simpa using g3
                have HSD := Lib.hid (HSC.out.trans (show pick1 i vj y = vj from by unfold pick1; rw [if_neg g3]))
                clear g3
                go_wp2
                go_roundg (p - (j + 1))
                case measure => omega
                case rel => exact ⟨j + 1, by omega, by omega, by go_num, by rw [HSD.out], rfl⟩
            · have g2b : (x.wv == ver + 1) = false := by simpa using g2
              have HSC := Lib.hid (show scan2 i (ver + 1) vk x.en x.wv (x.W.take (j + 1)) = scan2 i (ver + 1) vk x.en x.wv (x.W.take j) from by
                unfold scan2
                simp only [if_neg (fun h : x.en = 0 ∧ x.wv = ver + 1 => g2 h.2)])
              generalize scan2 i (ver + 1) vk x.en x.wv (x.W.take j) = vj at *
              clear g1 g2
              go_wp2
              go_roundg (p - (j + 1))
              case measure => omega
              case rel => exact ⟨j + 1, by omega, by omega, by go_num, by rw [HSC.out], rfl⟩
          · have g1b : (x.en == 0) = false := by simpa using g1
            have HSC := Lib.hid (show scan2 i (ver + 1) vk x.en x.wv (x.W.take (j + 1)) = scan2 i (ver + 1) vk x.en x.wv (x.W.take j) from by
              unfold scan2
              simp only [if_neg (fun h : x.en = 0 ∧ x.wv = ver + 1 => g1 h.1)])
            generalize scan2 i (ver + 1) vk x.en x.wv (x.W.take j) = vj at *
            clear g1
            go_wp2
            go_roundg (p - (j + 1))
            case measure => omega
            case rel => exact ⟨j + 1, by omega, by omega, by go_num, by rw [HSC.out], rfl⟩
        · obtain rfl : p = j := by omega
          have HSX := Lib.hid (show scan2 i (ver + 1) vk x.en x.wv (x.W.take p) = scan1 i (ver + 1) vk x from by rw [scan12, List.take_of_length_le (by rw [← HPL.out]; exact Nat.le_refl _)])
          generalize scan2 i (ver + 1) vk x.en x.wv (x.W.take p) = vj at *
          go_wp2
          go_roundg (m - (k + 1))
          case measure => omega
          case rel => exact ⟨k + 1, by omega, by omega, by go_num, by rw [HTK.out, ← HSX.out], rfl⟩
    · obtain rfl : m = k := by omega
      have hv5 : vb = (h.take m).foldl (scan1 i (ver + 1)) va := by rw [HLV.out, List.take_of_length_le (by rw [← HM.out]; exact Nat.le_refl _)]
      rw [← hv5]
      have x4 := HX4.out w4 (Below.refl _ _)
      clear hv5
      go_wp2
      go_ret
      exact ⟨rfl, HB4.out⟩

theorem serialSteps_walk (w : World) (n : Int) (_wn : okI n) (v : Value) (h : List Rx) (hv : RecsV w v h) (hok : ∀ x ∈ h, recOk x) (ver : Int) (_wv : okI ver) (i : Int) (_wi : okI i) :
    Calls Try.prog 4 #[.int .i64 n, v, .int .i64 ver, .int .i64 i] w fun e w' => e = .returned (.bool true) ∧ Below w.heap.size w w' := by
  cases hfew : fewR h with
  | false => exact steps_few w n v h hv ver i hfew
  | true =>
    by_cases hin : ver ≤ 1073741824 ∧ -1073741824 ≤ ver ∧ 1 ≤ n ∧ n ≤ 8 ∧ 0 ≤ i ∧ i < n
    · obtain ⟨n', rfl⟩ : ∃ n' : Nat, n = (n' : Int) := ⟨n.toNat, by omega⟩
      obtain ⟨i', rfl⟩ : ∃ i' : Nat, i = (i' : Int) := ⟨i.toNat, by omega⟩
      exact steps_main w n' v h hv ver i' hfew hin.1 hin.2.1 (by omega) (by omega) (by omega)
    · exact steps_out w n v h hv ver i hfew hin
end Go.Proofs.Ytmcbnpeihedcaaa
