/- Several texts in one: SrLawNow, RowSerialNow. -/
import Derived.Test.YtmcbnpeihedcaaaSrTopB
import Derived.Test.YtmcbnpeihedcaaaStRunA
import Derived.Test.YtmcbnpeihedcaaaStOpA
import Derived.Test.YtmcbnpeihedcaaaLawKit
namespace Go.Proofs.Ytmcbnpeihedcaaa
set_option linter.unusedSimpArgs false
open Go Go.RowKit
set_option linter.unusedVariables false

theorem wf_of {n : Int} (h0 : 0 ≤ n) (h1 : n ≤ 1000) : (Lit.int .i64 n).wf = true := by
  simp [Lit.wf, IntKind.min, IntKind.max, IntKind.signed, IntKind.bits]
  omega
set_option maxRecDepth 100000 in
set_option maxHeartbeats 16000000 in
theorem serialNow_walk (w : World) (words mx : Int) (pv : Value) (pl : List (List (List Ac))) (hpl : PlV w pv pl) (ww : okI words) (wm : okI mx) (kv : Value) (picks : List Int) (hkv : Sl w 1 kv picks.length (picks.flatMap encI)) (hok : ∀ q ∈ picks, okI q) :
    Calls Try.prog 7 #[planV words mx pv, kv] w fun e w' => e = .returned (.bool true) ∧ Below w.heap.size w w' := by
  obtain ⟨A, c, rfl, _, _⟩ := hpl.form
  obtain ⟨kA, kc, rfl, _, _⟩ := hkv.form
  have kP := Blk.new_ w 39 #[.int .i64 words, .int .i64 mx, .slice A pl.length c] _ rfl
  have bP : Below w.heap.size w (w.alloc (.cells #[.int .i64 words, .int .i64 mx, .slice A pl.length c] 39)) := (Below.refl _ w).alloc (Nat.le_refl _) _
  obtain ⟨w1, hw1⟩ : ∃ z, w.alloc (.cells #[.int .i64 words, .int .i64 mx, .slice A pl.length c] 39) = z := ⟨_, rfl⟩
  rw [hw1] at kP bP
  have HB1 := Lib.hid bP
  have HP := Lib.hid (fun W (hb : Below w1.heap.size w1 W) => (show W.cell? ⟨w.heap.size, 0, none⟩ = some (.int .i64 words) ∧ W.cell? ⟨w.heap.size, 1, none⟩ = some (.int .i64 mx) ∧ W.cell? ⟨w.heap.size, 2, none⟩ = some (.slice A pl.length c) from ⟨by rw [(kP.keep hb).cell]; rfl, by rw [(kP.keep hb).cell]; rfl, by rw [(kP.keep hb).cell]; rfl⟩))
  have HPV := Lib.hid (fun W (hb : Below w1.heap.size w1 W) => (hpl.below bP).below hb)
  have HKV := Lib.hid (fun W (hb : Below w1.heap.size w1 W) => (hkv.below bP).below hb)
  have HF := Lib.hid (fun W (hb : Below w1.heap.size w1 W) => few19_any words mx pl _ kA picks.length kc W (HPV.out W hb))
  have HRN := Lib.hid (fun (h : mayP words mx pl = false) v W (hb : Below w1.heap.size w1 W) => run_no words mx pl _ v W (HPV.out W hb) h)
  have HRY := Lib.hid (fun (wn : Nat) (hw : words = (wn : Int)) (h : mayP words mx pl = true) v (l : List Int) (hl : l.length ≤ 900) W (hb : Below w1.heap.size w1 W) (hv : Sl W 1 v l.length (l.flatMap encI)) => (show Calls Try.prog 16 #[planV words mx (.slice A pl.length c), v] W (RunPost W (runM wn mx pl l)) from by subst hw; exact run_yes wn mx pl _ v l W (HPV.out W hb) hv h hl))
  have HW1 := Lib.hid hw1
  obtain ⟨n, hn⟩ : ∃ n, n = pl.length := ⟨_, rfl⟩
  obtain ⟨np, hnp⟩ : ∃ n, n = picks.length := ⟨_, rfl⟩
  have HN := Lib.hid hn
  have HNP := Lib.hid hnp
  have HOK := Lib.hid hok
  have HWW := Lib.hid (And.intro ww wm)
  rw [← hn] at HP HRN HRY HW1 HF
  rw [← hnp] at HF
  rw [← hn, ← hnp]
  clear kP bP hw1 hpl hkv hn hnp hok ww wm
  simp only [planV] at HF HRN HRY ⊢
  go_enter Try.func7, Try.ntmps7
  go_upto_region 1 with fail
  rw [HW1.out]
  go_wp2_with fail
  refine (awake_any _).mono ?_
  rintro e w2 ⟨rfl, hb2⟩
  have HB2 := Lib.hid hb2
  obtain ⟨p0, p1, p2⟩ := HP.out _ hb2
  clear hb2
  go_wp2_with fail
  refine (HF.out _ HB2.out).mono ?_
  rintro e w3 ⟨fb, rfl, hfew, hb3⟩
  have HB3 := Lib.hid (HB2.out.trans (hb3.mono HB2.out.size))
  clear p0 p1 p2 hb3
  cases fb with
  | false =>
    clear hfew
    go_wp2_with fail
    go_ret
    exact ⟨rfl, HB1.out.trans (HB3.out.mono HB1.out.size)⟩
  | true =>
  have hf := hfew rfl
  have HFW := Lib.hid hf
  clear hfew hf
  obtain ⟨p0, p1, p2⟩ := HP.out _ HB3.out
  cases hmay : mayP words mx pl with
  | false =>
    go_wp2_with fail
    refine (HRN.out hmay _ _ HB3.out).mono ?_
    rintro e w4 ⟨rfl, hb4⟩
    have HB4 := Lib.hid (HB3.out.trans (hb4.mono HB3.out.size))
    clear p0 p1 p2 hb4
    go_wp2_with fail
    go_ret
    exact ⟨rfl, HB1.out.trans ((HB4.out.alloc HB4.out.size _).mono HB1.out.size)⟩
  | true =>
  obtain ⟨wn, hwn, hPO⟩ := planOk_of hmay
  have HPO := Lib.hid hPO
  have HWN := Lib.hid hwn
  have HMAY := Lib.hid hmay
  clear hwn hPO hmay
  go_wp2_with fail
  refine (HRY.out wn HWN.out HMAY.out (.slice kA np kc) picks (by have := HFW.out.2; have := HNP.out; omega) _ HB3.out (by have := HKV.out _ HB3.out; rw [← HNP.out] at this ⊢; exact this)).mono ?_
  rintro e w4 ⟨a, m, rfl, hm, her, hb4⟩
  have HB4 := Lib.hid (HB3.out.trans (hb4.mono HB3.out.size))
  have HER := Lib.hid her
  have HRG := Lib.hid (good_run HPO.out picks)
  have HGO := Lib.hid (show Good wn pl m from good_er (by rw [her]; exact good_er2 HRG.out.1))
  have HTM := Lib.hid (show m.time = (picks.length : Int) from by have e1 : m.er.time = m.time := rfl; have e2 : (runM wn mx pl picks).er.time = (runM wn mx pl picks).time := rfl; rw [← e1, her, e2]; exact HRG.out.2)
  clear p0 p1 p2 hb4 her
  have kM := Blk.new_ w4 46 (memCells a m).toArray _ rfl
  obtain ⟨w5, hw5⟩ : ∃ z, w4.alloc (.cells (memCells a m).toArray 46) = z := ⟨_, rfl⟩
  have HM := Lib.hid (hm.below (show Below w4.heap.size w4 w5 from hw5 ▸ (Below.refl _ _).alloc (Nat.le_refl _) _))
  have HB5 := Lib.hid (show Below w1.heap.size w1 w5 from hw5 ▸ HB4.out.alloc HB4.out.size _)
  rw [hw5] at kM
  have HKM := Lib.hid kM
  have HG := Lib.hid (fun W (hb : Below w5.heap.size w5 W) => (show W.cell? ⟨w4.heap.size, 0, none⟩ = some (.slice (some ⟨a.gW, 0, none⟩) m.W.length a.cW) ∧ W.cell? ⟨w4.heap.size, 1, none⟩ = some (.int .i64 m.now) ∧ W.cell? ⟨w4.heap.size, 2, none⟩ = some (.int .i64 m.mx) ∧ W.cell? ⟨w4.heap.size, 3, none⟩ = some (.slice a.lA m.L.length a.lc) ∧ W.cell? ⟨w4.heap.size, 4, none⟩ = some (.slice (some ⟨a.gT, 0, none⟩) m.T.length a.cT) ∧ W.cell? ⟨w4.heap.size, 5, none⟩ = some (.slice a.hA m.H.length a.hc) ∧ W.cell? ⟨w4.heap.size, 6, none⟩ = some (.int .i64 m.time) from
    ⟨by rw [(kM.keep hb).cell]; rfl, by rw [(kM.keep hb).cell]; rfl, by rw [(kM.keep hb).cell]; rfl, by rw [(kM.keep hb).cell]; rfl, by rw [(kM.keep hb).cell]; rfl, by rw [(kM.keep hb).cell]; rfl, by rw [(kM.keep hb).cell]; rfl⟩))
  have HW5 := Lib.hid hw5
  clear hm kM hw5
  simp only [memCells] at HW5 ⊢
  go_upto_region 6 with fail
  rw [HW5.out]
  have HRV := Lib.hid (fun W (hb : Below w5.heap.size w5 W) => (show RecsV W (.slice a.hA m.H.length a.hc) m.H from ⟨HM.out.H.below hb, fun x hx => (HM.out.hs x hx).below hb⟩))
  have hwu : words = (wn : Int) := HWN.out
  subst hwu
  have hw1 : 1 ≤ wn := HPO.out.w1
  have hw8 : wn ≤ 8 := HPO.out.w8
  have HFI := Lib.hid (runs_fin HPO.out HER.out)
  have hHl : m.H.length ≤ 100000 := by have := HGO.out.h; have := HTM.out; have := HFW.out.2; have := HNP.out; omega
  have HHL := Lib.hid hHl
  have HLL := Lib.hid (fun (i : Nat) (hi : i < m.L.length) => Sl.pos encL encL_len HM.out.L (by omega))
  have HST := Lib.hid (fun ver W (hb : Below w5.heap.size w5 W) => state_any (wn : Int) ver (.slice a.hA m.H.length a.hc) m.H W (HRV.out W hb) HHL.out)
  have HNW := Lib.hid (fun (hf : ∀ l ∈ m.L, l.o < 0) (i : Nat) v (hv : m.W[i]? = some v) => now_words HPO.out HER.out hf hv)
  have HRD := Lib.hid (fun t (ht : t ∈ m.T) p (hp : p ∈ t.R) => now_reads HPO.out HER.out ht hp)
  have HWC := Lib.hid (fun (hi : 0 < m.W.length) => Sl.pos encI encI_len HM.out.W hi)
  have HTC := Lib.hid (fun (hi : 0 < m.T.length) => Sl.pos encTx encTx_len HM.out.T hi)
  have HWL := Lib.hid (show m.W.length = wn from HGO.out.W)
  have HTL := Lib.hid (show m.T.length = n from by rw [HGO.out.T, HN.out])
  obtain ⟨nl, hnl⟩ : ∃ z, z = m.L.length := ⟨_, rfl⟩
  have HNL := Lib.hid hnl
  have hnl8 : nl ≤ 8 := by rw [hnl, HGO.out.L]; exact hw8
  have hn8 : n ≤ 8 := HFW.out.1
  rw [← hnl, HWL.out, HTL.out] at HG
  clear hHl hnl
  go_wp2_with fail
  go_loopg [9, 10] nl (fun gg s9 s10 wr => ∃ (i : Nat) (held : Bool), i ≤ nl ∧ nl - i ≤ gg ∧ s9 = .bool held ∧ s10 = .int .i64 i ∧ Hid (Below w5.heap.size w5 wr ∧ (held = false → ∀ l ∈ m.L.take i, l.o < 0)))
  case atStart => exact ⟨0, false, by omega, by omega, rfl, rfl, (show Hid _ from ⟨Below.refl _ _, fun _ l hl => by simp at hl⟩)⟩
  case round =>
    obtain ⟨i, held, hi, hg, rfl, rfl, HI⟩ := hrel
    obtain ⟨m0, m1, m2, m3, m4, m5, m6⟩ := HG.out _ HI.out.1
    by_cases hlt : i < nl
    · have hltz : (i : Int) < (nl : Int) := by omega
      have hi0 : (0 : Int) ≤ (i : Int) := by omega
      have hil : i < m.L.length := by rw [← HNL.out]; exact hlt
      obtain ⟨bl, ol, el, hbl, hcl⟩ := HLL.out i hil
      have x1 := hcl wr HI.out.1 i hil 1 _ rfl
      have HTK := Lib.hid (List.take_succ_eq_append_getElem hil)
      generalize m.L[i] = x at *
      obtain ⟨o, ho⟩ : ∃ o, o = x.o := ⟨_, rfl⟩
      have HO := Lib.hid ho
      rw [← ho] at x1
      rw [el] at m3
      clear el hcl hil ho
      cases held with
      | true =>
        go_wp2_with fail
        go_roundg (nl - (i + 1))
        case measure => omega
        case rel => exact ⟨i + 1, true, by omega, by omega, by go_num, by go_num, (show Hid _ from ⟨HI.out.1, fun h => by cases h⟩)⟩
      | false =>
        by_cases h0 : o < 0
        · have hge : ¬ (0 : Int) ≤ o := by omega
          go_wp2_with fail
          go_roundg (nl - (i + 1))
          case measure => omega
          case rel =>
            refine ⟨i + 1, false, by omega, by omega, by go_num, by go_num, (show Hid _ from ⟨HI.out.1, fun _ l hl => ?_⟩)⟩
            rw [HTK.out, List.mem_append] at hl
            rcases hl with hl | hl
            · exact HI.out.2 (by first | rfl | trivial) l hl
            · rw [List.mem_singleton.1 hl, ← HO.out]; exact h0
        · have hge : (0 : Int) ≤ o := by omega
          go_wp2_with fail
          go_roundg (nl - (i + 1))
          case measure => omega
          case rel => exact ⟨i + 1, true, by omega, by omega, by go_num, by go_num, (show Hid _ from ⟨HI.out.1, fun h => by cases h⟩)⟩
    · obtain rfl : nl = i := by omega
      have HF := Lib.hid (fun h => HNW.out (fun l hl => HI.out.2 h l (by rw [List.take_of_length_le (by rw [← HNL.out]; exact Nat.le_refl _)]; exact hl)))
      have HBR := Lib.hid HI.out.1
      obtain ⟨p0, p1, p2⟩ := HP.out _ (HB5.out.trans (HBR.out.mono HB5.out.size))
      clear HI
      go_wp2_with fail
      refine (HST.out m.now _ HBR.out).mono ?_
      rintro e w6 ⟨v6, rfl, hs6, hb6⟩
      rw [stateL_len hw1 hw8] at hs6
      obtain ⟨A6, c6, rfl, _, _⟩ := hs6.form
      have HB6 := Lib.hid (HBR.out.trans (hb6.mono HBR.out.size))
      have HS6 := Lib.hid (show Sl w6 1 (.slice A6 (stateL (wn : Int) m.H m.now).length c6) (stateL (wn : Int) m.H m.now).length ((stateL (wn : Int) m.H m.now).flatMap encI) from by rw [stateL_len hw1 hw8]; exact hs6)
      clear hs6 hb6 p0 p1 p2 m0 m1 m2 m3 m4 m5 m6
      obtain ⟨m0, m1, m2, m3, m4, m5, m6⟩ := HG.out _ HB6.out
      have hnn : ((wn : Int) != (wn : Int)) = false := by simp
      go_wp2_with fail
      go_loopg [12] wn (fun gg s12 wr => ∃ i : Nat, i ≤ wn ∧ wn - i ≤ gg ∧ s12 = .int .i64 i ∧ Hid (Below w6.heap.size w6 wr))
      case atStart => exact ⟨0, by omega, by omega, rfl, Below.refl _ _⟩
      case round =>
        obtain ⟨i, hi, hg2, rfl, BW⟩ := hrel
        have HB7 := Lib.hid (HB6.out.trans (BW.out.mono HB6.out.size))
        clear m0 m1 m2 m3 m4 m5 m6
        obtain ⟨m0, m1, m2, m3, m4, m5, m6⟩ := HG.out _ HB7.out
        by_cases hgo : i < wn ∧ held = false
        · obtain ⟨hlt, rfl⟩ := hgo
          have hltz : (i : Int) < (wn : Int) := by omega
          have hi0 : (0 : Int) ≤ (i : Int) := by omega
          obtain ⟨bw, ow, ew, hbw, hcw⟩ := HWC.out (by rw [HWL.out]; omega)
          injection ew with ew
          injection ew with ewb ewo ews
          subst ewb ewo
          have hiW : i < m.W.length := by rw [HWL.out]; exact hlt
          have y1 := hcw wr HB7.out i hiW 0 _ rfl
          have hsl : i < (stateL (wn : Int) m.H m.now).length := by rw [stateL_len hw1 hw8]; exact hlt
          obtain ⟨bs, os, es, hbs, hcs⟩ := Sl.pos encI encI_len HS6.out (by omega)
          have y2 := hcs wr BW.out i hsl 0 _ rfl
          have hq := stateL_at hw1 hw8 HFI.out.dx HFI.out.ws hlt (HF.out rfl i _ (List.getElem?_eq_getElem hiW))
          rw [List.getElem?_eq_getElem hsl] at hq
          injection hq with hq
          rw [hq] at y2
          subst es
          simp only [Nat.zero_add, Nat.add_zero, Nat.mul_one] at y1 y2
          generalize m.W[i] = v at *
          have Y1 := Lib.hid y1
          have Y2 := Lib.hid y2
          have hvv : (v != v) = false := by simp
          clear hcw hcs hq hsl hiW y1 y2 m0 m1 m2 m3 m4 m5 m6
          go_upto_region 19 with fail
          refine wp_region_held_drew (S := fun W => W.cell? ⟨w4.heap.size, 0, none⟩ = some (.slice (some ⟨a.gW, 0, none⟩) wn a.cW) ∧ W.cell? ⟨a.gW, i, none⟩ = some (.int .i64 v) ∧ W.cell? ⟨bs, os + i, none⟩ = some (.int .i64 v)) (by kernel_rfl) ?_ (fun hHeldbr => ?_)
          · exact ⟨(HG.out _ HB7.out.drew).1, Y1.out, Y2.out⟩
          refine tkW 0 { dst := some 79, op := Op.move (Operand.tmp 11), type := 29, pos := "law.go:76", after := _, guard := none } (v := ?vbr0) rfl (Or.inl ⟨by rfl, ?hybr0⟩) ?restbr0
          case hybr0 => (intro w hSw; (try dsimp only at hSw); go_simp <;> with_reducible rfl)
          try simp only [putW, setZ, setS]
          refine tkW 1 { dst := some 80, op := Op.move (Operand.tmp 12), type := 3, pos := "law.go:76", after := _, guard := none } (v := ?vbr1) rfl (Or.inl ⟨by rfl, ?hybr1⟩) ?restbr1
          case hybr1 => (intro w hSw; (try dsimp only at hSw); go_simp <;> with_reducible rfl)
          try simp only [putW, setZ, setS]
          refine tkW 2 { dst := some 81, op := Op.indexAddr 29 (Operand.tmp 79) (Operand.tmp 80), type := 0, pos := "law.go:76", after := _, guard := none } (v := ?vbr2) rfl (Or.inl ⟨by rfl, ?hybr2⟩) ?restbr2
          case hybr2 => (intro w hSw; (try dsimp only at hSw); go_simp <;> with_reducible rfl)
          try simp only [putW, setZ, setS]
          refine tkW 3 { dst := some 82, op := Op.load 3 (Operand.tmp 81), type := 3, pos := "law.go:76", after := _, guard := none } (v := ?vbr3) rfl (Or.inl ⟨by rfl, ?hybr3⟩) ?restbr3
          case hybr3 => (intro w hSw; (try dsimp only at hSw); go_simp <;> with_reducible rfl)
          try simp only [putW, setZ, setS]
          refine tkW 4 { dst := some 83, op := Op.fieldAddr 46 (Operand.tmp 7) 0, type := 0, pos := "law.go:76", after := _, guard := none } (v := ?vbr4) rfl (Or.inl ⟨by rfl, ?hybr4⟩) ?restbr4
          case hybr4 => (intro w hSw; (try dsimp only at hSw); go_simp <;> with_reducible rfl)
          try simp only [putW, setZ, setS]
          refine tkW 5 { dst := some 84, op := Op.load 29 (Operand.tmp 83), type := 29, pos := "law.go:76", after := _, guard := none } (v := ?vbr5) rfl (Or.inl ⟨by rfl, ?hybr5⟩) ?restbr5
          case hybr5 => (intro w hSw; (try dsimp only at hSw); go_simp <;> with_reducible rfl)
          try simp only [putW, setZ, setS]
          refine tkW 6 { dst := some 85, op := Op.move (Operand.tmp 12), type := 3, pos := "law.go:76", after := _, guard := none } (v := ?vbr6) rfl (Or.inl ⟨by rfl, ?hybr6⟩) ?restbr6
          case hybr6 => (intro w hSw; (try dsimp only at hSw); go_simp <;> with_reducible rfl)
          try simp only [putW, setZ, setS]
          refine tkW 7 { dst := some 86, op := Op.indexAddr 29 (Operand.tmp 84) (Operand.tmp 85), type := 0, pos := "law.go:76", after := _, guard := none } (v := ?vbr7) rfl (Or.inl ⟨by rfl, ?hybr7⟩) ?restbr7
          case hybr7 => (intro w hSw; (try dsimp only at hSw); go_simp <;> with_reducible rfl)
          try simp only [putW, setZ, setS]
          refine tkW 8 { dst := some 87, op := Op.load 3 (Operand.tmp 86), type := 3, pos := "law.go:76", after := _, guard := none } (v := ?vbr8) rfl (Or.inl ⟨by rfl, ?hybr8⟩) ?restbr8
          case hybr8 => (intro w hSw; (try dsimp only at hSw); go_simp <;> with_reducible rfl)
          try simp only [putW, setZ, setS]
          refine tkW 9 { dst := some 88, op := Op.binOp BinOp.neq 3 (Operand.tmp 82) (Operand.tmp 87) 3, type := 4, pos := "law.go:76", after := _, guard := none } (v := .bool false) rfl (Or.inl ⟨by rfl, ?hybr9⟩) ?restbr9
          case hybr9 => (intro w hSw; (try dsimp only at hSw); go_simp <;> first | done | with_reducible rfl | omega | (simp; done) | (simp; omega) | (simp [*]; done) | (simp [*]; omega) | exact decide_eq_false (by omega) | exact decide_eq_true (by omega))
          try simp only [putW, setZ, setS]
          refine wpAnyH_done (by kernel_rfl) ?_ _
          go_wp2_with fail
          go_roundg (wn - (i + 1))
          case measure => omega
          case rel => exact ⟨i + 1, by omega, by omega, by go_num, BW.out.drew⟩
        · have hout : (decide ((i : Int) < (wn : Int)) && !held) = false := by
            rw [Bool.and_eq_false_iff]
            by_cases h1 : i < wn
            · right
              cases held with
              | true => rfl
              | false => exact absurd ⟨h1, rfl⟩ hgo
            · left; exact decide_eq_false (by omega)
          by_cases h1 : i < wn
          · obtain rfl : held = true := by
              cases held with
              | true => rfl
              | false => exact absurd ⟨h1, rfl⟩ hgo
            have hltz : (i : Int) < (wn : Int) := by omega
            clear hout hgo
            go_wp2_with fail
            go_loopg [13, 15, 16] n (fun gg s13 s15 s16 wr => ∃ k : Nat, k ≤ n ∧ n - k ≤ gg ∧ s13 = .int .i64 k ∧ Hid (Below w5.heap.size w5 wr))
            case atStart => exact ⟨0, by omega, by omega, rfl, HB7.out⟩
            case round =>
              obtain ⟨k, hk, hg3, rfl, BW3⟩ := hrel
              clear m0 m1 m2 m3 m4 m5 m6
              obtain ⟨m0, m1, m2, m3, m4, m5, m6⟩ := HG.out _ BW3.out
              by_cases hlt3 : k < n
              · have hltz3 : (k : Int) < (n : Int) := by omega
                have hk0 : (0 : Int) ≤ (k : Int) := by omega
                have hkT : k < m.T.length := by rw [HTL.out]; exact hlt3
                obtain ⟨bt, ot, et, hbt, hct⟩ := HTC.out (by omega)
                injection et with et
                injection et with etb eto ets
                subst etb eto
                have l1 := hct wr BW3.out k hkT
                have HTM2 := Lib.hid (List.getElem_mem hkT)
                generalize m.T[k] = t at *
                have HOKT := Lib.hid (HM.out.ts t HTM2.out).1
                have HRDT := Lib.hid (HRD.out t HTM2.out)
                obtain ⟨nr, hnr⟩ : ∃ z, z = t.R.length := ⟨_, rfl⟩
                have HNR := Lib.hid hnr
                have hnr9 : nr ≤ 9223372036854775807 := by obtain ⟨_, _, _, h6, h7⟩ := HOKT.out.form; unfold maxLen at h7; omega
                have x0 := l1 0 _ rfl
                have x1 := l1 1 _ rfl
                have x2 := l1 2 _ rfl
                have x3 := l1 3 _ rfl
                have x4 := l1 4 _ rfl
                have x5 := l1 5 _ rfl
                have x6 := l1 6 _ rfl
                have x7 := l1 7 _ rfl
                have x8 := l1 8 _ rfl
                have x9 := l1 9 _ rfl
                have x10 := l1 10 _ rfl
                simp only [Nat.add_zero, Nat.zero_add] at x0 x1 x2 x3 x4 x5 x6 x7 x8 x9 x10
                rw [← hnr] at x7
                have kX := Blk.new_ wr 52 #[.int .i64 t.st, .int .i64 t.tx, .int .i64 t.try_, .int .i64 t.pc, .int .i64 t.rv, .int .i64 t.wv, .int .i64 t.sum, .slice t.rA nr t.rc, .slice t.wA t.W.length t.wc, .int .i64 t.i, .int .i64 t.fr] _ rfl
                have HBX := Lib.hid (BW3.out.alloc BW3.out.size (.cells #[.int .i64 t.st, .int .i64 t.tx, .int .i64 t.try_, .int .i64 t.pc, .int .i64 t.rv, .int .i64 t.wv, .int .i64 t.sum, .slice t.rA nr t.rc, .slice t.wA t.W.length t.wc, .int .i64 t.i, .int .i64 t.fr] 52))
                obtain ⟨wx, hwx⟩ : ∃ z, wr.alloc (.cells #[.int .i64 t.st, .int .i64 t.tx, .int .i64 t.try_, .int .i64 t.pc, .int .i64 t.rv, .int .i64 t.wv, .int .i64 t.sum, .slice t.rA nr t.rc, .slice t.wA t.W.length t.wc, .int .i64 t.i, .int .i64 t.fr] 52) = z := ⟨_, rfl⟩
                rw [hwx] at kX HBX
                have HWX := Lib.hid hwx
                obtain ⟨gx, hgx⟩ : ∃ z, wr.heap.size = z := ⟨_, rfl⟩
                rw [hgx] at kX
                have HGX := Lib.hid hgx
                have HC := Lib.hid (fun W (hb : Below wx.heap.size wx W) => (show W.cell? ⟨gx, 4, none⟩ = some (.int .i64 t.rv) ∧ W.cell? ⟨gx, 7, none⟩ = some (.slice t.rA nr t.rc) from ⟨by rw [(kX.keep hb).cell]; rfl, by rw [(kX.keep hb).cell]; rfl⟩))
                clear l1 hct kX hwx hgx hnr
                go_upto_region 25 with fail
                rw [HWX.out, HGX.out]
                clear x0 x1 x2 x3 x4 x5 x6 x7 x8 x9 x10 m0 m1 m2 m3 m4 m5 m6
                obtain ⟨c4, c7⟩ := HC.out _ (Below.refl _ _)
                obtain ⟨p0, p1, p2⟩ := HP.out _ (HB5.out.trans (HBX.out.mono HB5.out.size))
                obtain ⟨m0, m1, m2, m3, m4, m5, m6⟩ := HG.out _ HBX.out
                go_wp2_with fail
                refine (HST.out t.rv _ HBX.out).mono ?_
                rintro e w9 ⟨v9, rfl, hs9, hb9⟩
                have hs9' := hs9
                rw [stateL_len hw1 hw8] at hs9
                obtain ⟨A9, c9, rfl, _, _⟩ := hs9.form
                have HB9 := Lib.hid hb9
                have HS9 := Lib.hid (show Sl w9 1 (.slice A9 (stateL (wn : Int) m.H t.rv).length c9) (stateL (wn : Int) m.H t.rv).length ((stateL (wn : Int) m.H t.rv).flatMap encI) from by rw [stateL_len hw1 hw8]; rw [stateL_len hw1 hw8] at hs9'; exact hs9')
                clear hs9 hs9' hb9 c4 c7 p0 p1 p2 m0 m1 m2 m3 m4 m5 m6
                obtain ⟨c4, c7⟩ := HC.out _ HB9.out
                go_wp2_with fail
                go_loopg [16] nr (fun gg s16 wr => ∃ j : Nat, j ≤ nr ∧ nr - j ≤ gg ∧ s16 = .int .i64 j ∧ Hid (Below w9.heap.size w9 wr))
                case atStart => exact ⟨0, by omega, by omega, by go_num, Below.refl _ _⟩
                case round =>
                  obtain ⟨j, hj, hg4, rfl, BW4⟩ := hrel
                  have HBW := Lib.hid (HB9.out.trans (BW4.out.mono HB9.out.size))
                  clear c4 c7
                  obtain ⟨c4, c7⟩ := HC.out _ HBW.out
                  by_cases hlt4 : j < nr
                  · have hltz4 : (j : Int) < (nr : Int) := by omega
                    have hj0 : (0 : Int) ≤ (j : Int) := by omega
                    have hjR : j < t.R.length := by rw [← HNR.out]; exact hlt4
                    obtain ⟨br, orr, er, hbr, hcr⟩ := Sl.pos encPr encPr_len HOKT.out (by omega)
                    have y0 := hcr wr (HBX.out.trans (HBW.out.mono HBX.out.size) : Below w5.heap.size w5 wr) j hjR 0 _ rfl
                    have y1 := hcr wr (HBX.out.trans (HBW.out.mono HBX.out.size) : Below w5.heap.size w5 wr) j hjR 1 _ rfl
                    obtain ⟨q0, q1, q2⟩ := HRDT.out _ (List.getElem_mem hjR)
                    generalize t.R[j] = p at *
                    obtain ⟨at_, hat⟩ : ∃ z : Nat, p.at_ = (z : Int) := ⟨p.at_.toNat, by omega⟩
                    obtain ⟨pv, hpv⟩ : ∃ z, z = p.v := ⟨_, rfl⟩
                    rw [hat] at y0 q1 q2
                    rw [← hpv] at y1 q2
                    have hatn : at_ < wn := by omega
                    have hsl : at_ < (stateL (wn : Int) m.H t.rv).length := by rw [stateL_len hw1 hw8]; exact hatn
                    obtain ⟨bs, os, es, hbs, hcs⟩ := Sl.pos encI encI_len HS9.out (by omega)
                    have y2 := hcs wr BW4.out at_ hsl 0 _ rfl
                    have hq := stateL_at hw1 hw8 HFI.out.dx HFI.out.ws hatn q2
                    rw [List.getElem?_eq_getElem hsl] at hq
                    injection hq with hq
                    rw [hq] at y2
                    subst es
                    simp only [Nat.add_zero, Nat.mul_one] at y0 y2
                    rw [er] at HC
                    have Y0 := Lib.hid y0
                    have Y1 := Lib.hid y1
                    have Y2 := Lib.hid y2
                    have hpp : (pv != pv) = false := by simp
                    have ha0 : (0 : Int) ≤ (at_ : Int) := by omega
                    have ha1 : (at_ : Int) < (wn : Int) := by omega
                    have ha2 : ¬ (at_ : Int) < 0 := by omega
                    have ha3 : ¬ (wn : Int) ≤ (at_ : Int) := by omega
                    clear hcr hcs hq hsl hjR y0 y1 y2 q0 q1 q2 c4 hat hpv er
                    go_upto_region 29 with fail
                    clear c7
                    refine wp_region_held_drew (S := fun W => W.cell? ⟨gx, 7, none⟩ = some (.slice (some ⟨br, orr, none⟩) nr t.rc) ∧ W.cell? ⟨br, orr + j * 2, none⟩ = some (.int .i64 (at_ : Int)) ∧ W.cell? ⟨br, orr + j * 2 + 1, none⟩ = some (.int .i64 pv) ∧ W.cell? ⟨bs, os + at_, none⟩ = some (.int .i64 pv)) (by kernel_rfl) ?_ (fun hHeldcr => ?_)
                    · exact ⟨(HC.out _ HBW.out.drew).2, Y0.out, Y1.out, Y2.out⟩
                    refine tkW 0 { dst := some 115, op := Op.fieldAddr 52 (Operand.tmp 14) 7, type := 0, pos := "law.go:84", after := _, guard := none } (v := ?vcr0) rfl (Or.inl ⟨by rfl, ?hycr0⟩) ?restcr0
                    case hycr0 => (intro w hSw; (try dsimp only at hSw); go_simp <;> with_reducible rfl)
                    try simp only [putW, setZ, setS]
                    refine tkW 1 { dst := some 116, op := Op.load 25 (Operand.tmp 115), type := 25, pos := "law.go:84", after := _, guard := none } (v := ?vcr1) rfl (Or.inl ⟨by rfl, ?hycr1⟩) ?restcr1
                    case hycr1 => (intro w hSw; (try dsimp only at hSw); go_simp <;> with_reducible rfl)
                    try simp only [putW, setZ, setS]
                    refine tkW 2 { dst := some 117, op := Op.move (Operand.tmp 16), type := 3, pos := "law.go:84", after := _, guard := none } (v := ?vcr2) rfl (Or.inl ⟨by rfl, ?hycr2⟩) ?restcr2
                    case hycr2 => (intro w hSw; (try dsimp only at hSw); go_simp <;> with_reducible rfl)
                    try simp only [putW, setZ, setS]
                    refine tkW 3 { dst := some 118, op := Op.indexAddr 25 (Operand.tmp 116) (Operand.tmp 117), type := 0, pos := "law.go:84", after := _, guard := none } (v := ?vcr3) rfl (Or.inl ⟨by rfl, ?hycr3⟩) ?restcr3
                    case hycr3 => (intro w hSw; (try dsimp only at hSw); go_simp <;> with_reducible rfl)
                    try simp only [putW, setZ, setS]
                    refine tkW 4 { dst := some 119, op := Op.fieldAddr 34 (Operand.tmp 118) 0, type := 0, pos := "law.go:84", after := _, guard := none } (v := ?vcr4) rfl (Or.inl ⟨by rfl, ?hycr4⟩) ?restcr4
                    case hycr4 => (intro w hSw; (try dsimp only at hSw); go_simp <;> with_reducible rfl)
                    try simp only [putW, setZ, setS]
                    refine tkW 5 { dst := some 120, op := Op.load 3 (Operand.tmp 119), type := 3, pos := "law.go:84", after := _, guard := none } (v := ?vcr5) rfl (Or.inl ⟨by rfl, ?hycr5⟩) ?restcr5
                    case hycr5 => (intro w hSw; (try dsimp only at hSw); go_simp <;> with_reducible rfl)
                    try simp only [putW, setZ, setS]
                    refine tkW 6 { dst := some 121, op := Op.binOp BinOp.lss 3 (Operand.tmp 120) (Operand.const (Value.int IntKind.i64 0)) 3, type := 4, pos := "law.go:84", after := _, guard := none } (v := .bool false) rfl (Or.inl ⟨by rfl, ?hycr6⟩) ?restcr6
                    case hycr6 => (intro w hSw; (try dsimp only at hSw); go_simp <;> first | done | with_reducible rfl | omega | (simp; done) | (simp; omega) | (simp [*]; done) | (simp [*]; omega) | exact decide_eq_false (by omega) | exact decide_eq_true (by omega))
                    try simp only [putW, setZ, setS]
                    refine tkW 7 { dst := some 122, op := Op.move (Operand.tmp 121), type := 4, pos := "law.go:84", after := _, guard := none } (v := ?vcr7) rfl (Or.inl ⟨by rfl, ?hycr7⟩) ?restcr7
                    case hycr7 => (intro w hSw; (try dsimp only at hSw); go_simp <;> with_reducible rfl)
                    try simp only [putW, setZ, setS]
                    refine tkW 8 { dst := some 123, op := Op.fieldAddr 52 (Operand.tmp 14) 7, type := 0, pos := "law.go:84", after := _, guard := some (7, false) } (v := ?vcr8) rfl (Or.inl ⟨by rfl, ?hycr8⟩) ?restcr8
                    case hycr8 => (intro w hSw; (try dsimp only at hSw); go_simp <;> with_reducible rfl)
                    try simp only [putW, setZ, setS]
                    refine tkW 9 { dst := some 124, op := Op.load 25 (Operand.tmp 123), type := 25, pos := "law.go:84", after := _, guard := some (7, false) } (v := ?vcr9) rfl (Or.inl ⟨by rfl, ?hycr9⟩) ?restcr9
                    case hycr9 => (intro w hSw; (try dsimp only at hSw); go_simp <;> with_reducible rfl)
                    try simp only [putW, setZ, setS]
                    refine tkW 10 { dst := some 125, op := Op.move (Operand.tmp 16), type := 3, pos := "law.go:84", after := _, guard := some (7, false) } (v := ?vcr10) rfl (Or.inl ⟨by rfl, ?hycr10⟩) ?restcr10
                    case hycr10 => (intro w hSw; (try dsimp only at hSw); go_simp <;> with_reducible rfl)
                    try simp only [putW, setZ, setS]
                    refine tkW 11 { dst := some 126, op := Op.indexAddr 25 (Operand.tmp 124) (Operand.tmp 125), type := 0, pos := "law.go:84", after := _, guard := some (7, false) } (v := ?vcr11) rfl (Or.inl ⟨by rfl, ?hycr11⟩) ?restcr11
                    case hycr11 => (intro w hSw; (try dsimp only at hSw); go_simp <;> with_reducible rfl)
                    try simp only [putW, setZ, setS]
                    refine tkW 12 { dst := some 127, op := Op.fieldAddr 34 (Operand.tmp 126) 0, type := 0, pos := "law.go:84", after := _, guard := some (7, false) } (v := ?vcr12) rfl (Or.inl ⟨by rfl, ?hycr12⟩) ?restcr12
                    case hycr12 => (intro w hSw; (try dsimp only at hSw); go_simp <;> with_reducible rfl)
                    try simp only [putW, setZ, setS]
                    refine tkW 13 { dst := some 128, op := Op.load 3 (Operand.tmp 127), type := 3, pos := "law.go:84", after := _, guard := some (7, false) } (v := ?vcr13) rfl (Or.inl ⟨by rfl, ?hycr13⟩) ?restcr13
                    case hycr13 => (intro w hSw; (try dsimp only at hSw); go_simp <;> with_reducible rfl)
                    try simp only [putW, setZ, setS]
                    refine tkW 14 { dst := some 129, op := Op.move (Operand.tmp 15), type := 29, pos := "law.go:84", after := _, guard := some (7, false) } (v := ?vcr14) rfl (Or.inl ⟨by rfl, ?hycr14⟩) ?restcr14
                    case hycr14 => (intro w hSw; (try dsimp only at hSw); go_simp <;> with_reducible rfl)
                    try simp only [putW, setZ, setS]
                    refine tkW 15 { dst := some 130, op := Op.call { callee := Callee.builtin Builtin.len, args := #[Operand.tmp 129], argTypes := #[29] }, type := 3, pos := "law.go:84", after := _, guard := some (7, false) } (v := ?vcr15) rfl (Or.inl ⟨by rfl, ?hycr15⟩) ?restcr15
                    case hycr15 => (intro w hSw; (try dsimp only at hSw); go_simp <;> with_reducible rfl)
                    try simp only [putW, setZ, setS]
                    refine tkW 16 { dst := some 131, op := Op.binOp BinOp.geq 3 (Operand.tmp 128) (Operand.tmp 130) 3, type := 4, pos := "law.go:84", after := _, guard := some (7, false) } (v := .bool false) rfl (Or.inl ⟨by rfl, ?hycr16⟩) ?restcr16
                    case hycr16 => (intro w hSw; (try dsimp only at hSw); go_simp <;> first | done | with_reducible rfl | omega | (simp; done) | (simp; omega) | (simp [*]; done) | (simp [*]; omega) | exact decide_eq_false (by omega) | exact decide_eq_true (by omega))
                    try simp only [putW, setZ, setS]
                    refine tkW 17 { dst := some 132, op := Op.pick (Operand.tmp 122) (Operand.const (Value.bool true)) (Operand.tmp 131), type := 4, pos := "law.go:84", after := _, guard := none } (v := ?vcr17) rfl (Or.inl ⟨by rfl, ?hycr17⟩) ?restcr17
                    case hycr17 => (intro w hSw; (try dsimp only at hSw); go_simp <;> with_reducible rfl)
                    try simp only [putW, setZ, setS]
                    refine tkW 18 { dst := some 133, op := Op.move (Operand.tmp 132), type := 4, pos := "law.go:84", after := _, guard := none } (v := ?vcr18) rfl (Or.inl ⟨by rfl, ?hycr18⟩) ?restcr18
                    case hycr18 => (intro w hSw; (try dsimp only at hSw); go_simp <;> with_reducible rfl)
                    try simp only [putW, setZ, setS]
                    refine tkW 19 { dst := some 134, op := Op.move (Operand.tmp 15), type := 29, pos := "law.go:84", after := _, guard := some (18, false) } (v := ?vcr19) rfl (Or.inl ⟨by rfl, ?hycr19⟩) ?restcr19
                    case hycr19 => (intro w hSw; (try dsimp only at hSw); go_simp <;> with_reducible rfl)
                    try simp only [putW, setZ, setS]
                    refine tkW 20 { dst := some 135, op := Op.fieldAddr 52 (Operand.tmp 14) 7, type := 0, pos := "law.go:84", after := _, guard := some (18, false) } (v := ?vcr20) rfl (Or.inl ⟨by rfl, ?hycr20⟩) ?restcr20
                    case hycr20 => (intro w hSw; (try dsimp only at hSw); go_simp <;> with_reducible rfl)
                    try simp only [putW, setZ, setS]
                    refine tkW 21 { dst := some 136, op := Op.load 25 (Operand.tmp 135), type := 25, pos := "law.go:84", after := _, guard := some (18, false) } (v := ?vcr21) rfl (Or.inl ⟨by rfl, ?hycr21⟩) ?restcr21
                    case hycr21 => (intro w hSw; (try dsimp only at hSw); go_simp <;> with_reducible rfl)
                    try simp only [putW, setZ, setS]
                    refine tkW 22 { dst := some 137, op := Op.move (Operand.tmp 16), type := 3, pos := "law.go:84", after := _, guard := some (18, false) } (v := ?vcr22) rfl (Or.inl ⟨by rfl, ?hycr22⟩) ?restcr22
                    case hycr22 => (intro w hSw; (try dsimp only at hSw); go_simp <;> with_reducible rfl)
                    try simp only [putW, setZ, setS]
                    refine tkW 23 { dst := some 138, op := Op.indexAddr 25 (Operand.tmp 136) (Operand.tmp 137), type := 0, pos := "law.go:84", after := _, guard := some (18, false) } (v := ?vcr23) rfl (Or.inl ⟨by rfl, ?hycr23⟩) ?restcr23
                    case hycr23 => (intro w hSw; (try dsimp only at hSw); go_simp <;> with_reducible rfl)
                    try simp only [putW, setZ, setS]
                    refine tkW 24 { dst := some 139, op := Op.fieldAddr 34 (Operand.tmp 138) 0, type := 0, pos := "law.go:84", after := _, guard := some (18, false) } (v := ?vcr24) rfl (Or.inl ⟨by rfl, ?hycr24⟩) ?restcr24
                    case hycr24 => (intro w hSw; (try dsimp only at hSw); go_simp <;> with_reducible rfl)
                    try simp only [putW, setZ, setS]
                    refine tkW 25 { dst := some 140, op := Op.load 3 (Operand.tmp 139), type := 3, pos := "law.go:84", after := _, guard := some (18, false) } (v := ?vcr25) rfl (Or.inl ⟨by rfl, ?hycr25⟩) ?restcr25
                    case hycr25 => (intro w hSw; (try dsimp only at hSw); go_simp <;> with_reducible rfl)
                    try simp only [putW, setZ, setS]
                    refine tkW 26 { dst := some 141, op := Op.indexAddr 29 (Operand.tmp 134) (Operand.tmp 140), type := 0, pos := "law.go:84", after := _, guard := some (18, false) } (v := ?vcr26) rfl (Or.inl ⟨by rfl, ?hycr26⟩) ?restcr26
                    case hycr26 => (intro w hSw; (try dsimp only at hSw); go_simp <;> with_reducible rfl)
                    try simp only [putW, setZ, setS]
                    refine tkW 27 { dst := some 142, op := Op.load 3 (Operand.tmp 141), type := 3, pos := "law.go:84", after := _, guard := some (18, false) } (v := ?vcr27) rfl (Or.inl ⟨by rfl, ?hycr27⟩) ?restcr27
                    case hycr27 => (intro w hSw; (try dsimp only at hSw); go_simp <;> with_reducible rfl)
                    try simp only [putW, setZ, setS]
                    refine tkW 28 { dst := some 143, op := Op.fieldAddr 52 (Operand.tmp 14) 7, type := 0, pos := "law.go:84", after := _, guard := some (18, false) } (v := ?vcr28) rfl (Or.inl ⟨by rfl, ?hycr28⟩) ?restcr28
                    case hycr28 => (intro w hSw; (try dsimp only at hSw); go_simp <;> with_reducible rfl)
                    try simp only [putW, setZ, setS]
                    refine tkW 29 { dst := some 144, op := Op.load 25 (Operand.tmp 143), type := 25, pos := "law.go:84", after := _, guard := some (18, false) } (v := ?vcr29) rfl (Or.inl ⟨by rfl, ?hycr29⟩) ?restcr29
                    case hycr29 => (intro w hSw; (try dsimp only at hSw); go_simp <;> with_reducible rfl)
                    try simp only [putW, setZ, setS]
                    refine tkW 30 { dst := some 145, op := Op.move (Operand.tmp 16), type := 3, pos := "law.go:84", after := _, guard := some (18, false) } (v := ?vcr30) rfl (Or.inl ⟨by rfl, ?hycr30⟩) ?restcr30
                    case hycr30 => (intro w hSw; (try dsimp only at hSw); go_simp <;> with_reducible rfl)
                    try simp only [putW, setZ, setS]
                    refine tkW 31 { dst := some 146, op := Op.indexAddr 25 (Operand.tmp 144) (Operand.tmp 145), type := 0, pos := "law.go:84", after := _, guard := some (18, false) } (v := ?vcr31) rfl (Or.inl ⟨by rfl, ?hycr31⟩) ?restcr31
                    case hycr31 => (intro w hSw; (try dsimp only at hSw); go_simp <;> with_reducible rfl)
                    try simp only [putW, setZ, setS]
                    refine tkW 32 { dst := some 147, op := Op.fieldAddr 34 (Operand.tmp 146) 1, type := 0, pos := "law.go:84", after := _, guard := some (18, false) } (v := ?vcr32) rfl (Or.inl ⟨by rfl, ?hycr32⟩) ?restcr32
                    case hycr32 => (intro w hSw; (try dsimp only at hSw); go_simp <;> with_reducible rfl)
                    try simp only [putW, setZ, setS]
                    refine tkW 33 { dst := some 148, op := Op.load 3 (Operand.tmp 147), type := 3, pos := "law.go:84", after := _, guard := some (18, false) } (v := ?vcr33) rfl (Or.inl ⟨by rfl, ?hycr33⟩) ?restcr33
                    case hycr33 => (intro w hSw; (try dsimp only at hSw); go_simp <;> with_reducible rfl)
                    try simp only [putW, setZ, setS]
                    refine tkW 34 { dst := some 149, op := Op.binOp BinOp.neq 3 (Operand.tmp 142) (Operand.tmp 148) 3, type := 4, pos := "law.go:84", after := _, guard := some (18, false) } (v := .bool false) rfl (Or.inl ⟨by rfl, ?hycr34⟩) ?restcr34
                    case hycr34 => (intro w hSw; (try dsimp only at hSw); go_simp <;> first | done | with_reducible rfl | omega | (simp; done) | (simp; omega) | (simp [*]; done) | (simp [*]; omega) | exact decide_eq_false (by omega) | exact decide_eq_true (by omega))
                    try simp only [putW, setZ, setS]
                    refine tkW 35 { dst := some 150, op := Op.pick (Operand.tmp 133) (Operand.const (Value.bool true)) (Operand.tmp 149), type := 4, pos := "law.go:84", after := _, guard := none } (v := ?vcr35) rfl (Or.inl ⟨by rfl, ?hycr35⟩) ?restcr35
                    case hycr35 => (intro w hSw; (try dsimp only at hSw); go_simp <;> with_reducible rfl)
                    try simp only [putW, setZ, setS]
                    refine wpAnyH_done (by kernel_rfl) ?_ _
                    go_wp2_with fail
                    go_roundg (nr - (j + 1))
                    case measure => omega
                    case rel => exact ⟨j + 1, by omega, by omega, by go_num, BW4.out.drew⟩
                  · obtain rfl : nr = j := by omega
                    go_wp2_with fail
                    go_roundg (n - (k + 1))
                    case measure => omega
                    case rel => exact ⟨k + 1, by omega, by omega, by go_num, HBX.out.trans (HBW.out.mono HBX.out.size)⟩
              · obtain rfl : n = k := by omega
                go_wp2_with fail
                go_ret
                exact ⟨rfl, HB1.out.trans ((HB5.out.trans (BW3.out.mono HB5.out.size)).mono HB1.out.size)⟩
          · have hltz : ¬ (i : Int) < (wn : Int) := by omega
            clear hout hgo
            go_wp2_with fail
            go_loopg [13, 15, 16] n (fun gg s13 s15 s16 wr => ∃ k : Nat, k ≤ n ∧ n - k ≤ gg ∧ s13 = .int .i64 k ∧ Hid (Below w5.heap.size w5 wr))
            case atStart => exact ⟨0, by omega, by omega, rfl, HB7.out⟩
            case round =>
              obtain ⟨k, hk, hg3, rfl, BW3⟩ := hrel
              clear m0 m1 m2 m3 m4 m5 m6
              obtain ⟨m0, m1, m2, m3, m4, m5, m6⟩ := HG.out _ BW3.out
              by_cases hlt3 : k < n
              · have hltz3 : (k : Int) < (n : Int) := by omega
                have hk0 : (0 : Int) ≤ (k : Int) := by omega
                have hkT : k < m.T.length := by rw [HTL.out]; exact hlt3
                obtain ⟨bt, ot, et, hbt, hct⟩ := HTC.out (by omega)
                injection et with et
                injection et with etb eto ets
                subst etb eto
                have l1 := hct wr BW3.out k hkT
                have HTM2 := Lib.hid (List.getElem_mem hkT)
                generalize m.T[k] = t at *
                have HOKT := Lib.hid (HM.out.ts t HTM2.out).1
                have HRDT := Lib.hid (HRD.out t HTM2.out)
                obtain ⟨nr, hnr⟩ : ∃ z, z = t.R.length := ⟨_, rfl⟩
                have HNR := Lib.hid hnr
                have hnr9 : nr ≤ 9223372036854775807 := by obtain ⟨_, _, _, h6, h7⟩ := HOKT.out.form; unfold maxLen at h7; omega
                have x0 := l1 0 _ rfl
                have x1 := l1 1 _ rfl
                have x2 := l1 2 _ rfl
                have x3 := l1 3 _ rfl
                have x4 := l1 4 _ rfl
                have x5 := l1 5 _ rfl
                have x6 := l1 6 _ rfl
                have x7 := l1 7 _ rfl
                have x8 := l1 8 _ rfl
                have x9 := l1 9 _ rfl
                have x10 := l1 10 _ rfl
                simp only [Nat.add_zero, Nat.zero_add] at x0 x1 x2 x3 x4 x5 x6 x7 x8 x9 x10
                rw [← hnr] at x7
                have kX := Blk.new_ wr 52 #[.int .i64 t.st, .int .i64 t.tx, .int .i64 t.try_, .int .i64 t.pc, .int .i64 t.rv, .int .i64 t.wv, .int .i64 t.sum, .slice t.rA nr t.rc, .slice t.wA t.W.length t.wc, .int .i64 t.i, .int .i64 t.fr] _ rfl
                have HBX := Lib.hid (BW3.out.alloc BW3.out.size (.cells #[.int .i64 t.st, .int .i64 t.tx, .int .i64 t.try_, .int .i64 t.pc, .int .i64 t.rv, .int .i64 t.wv, .int .i64 t.sum, .slice t.rA nr t.rc, .slice t.wA t.W.length t.wc, .int .i64 t.i, .int .i64 t.fr] 52))
                obtain ⟨wx, hwx⟩ : ∃ z, wr.alloc (.cells #[.int .i64 t.st, .int .i64 t.tx, .int .i64 t.try_, .int .i64 t.pc, .int .i64 t.rv, .int .i64 t.wv, .int .i64 t.sum, .slice t.rA nr t.rc, .slice t.wA t.W.length t.wc, .int .i64 t.i, .int .i64 t.fr] 52) = z := ⟨_, rfl⟩
                rw [hwx] at kX HBX
                have HWX := Lib.hid hwx
                obtain ⟨gx, hgx⟩ : ∃ z, wr.heap.size = z := ⟨_, rfl⟩
                rw [hgx] at kX
                have HGX := Lib.hid hgx
                have HC := Lib.hid (fun W (hb : Below wx.heap.size wx W) => (show W.cell? ⟨gx, 4, none⟩ = some (.int .i64 t.rv) ∧ W.cell? ⟨gx, 7, none⟩ = some (.slice t.rA nr t.rc) from ⟨by rw [(kX.keep hb).cell]; rfl, by rw [(kX.keep hb).cell]; rfl⟩))
                clear l1 hct kX hwx hgx hnr
                go_upto_region 25 with fail
                rw [HWX.out, HGX.out]
                clear x0 x1 x2 x3 x4 x5 x6 x7 x8 x9 x10 m0 m1 m2 m3 m4 m5 m6
                obtain ⟨c4, c7⟩ := HC.out _ (Below.refl _ _)
                obtain ⟨p0, p1, p2⟩ := HP.out _ (HB5.out.trans (HBX.out.mono HB5.out.size))
                obtain ⟨m0, m1, m2, m3, m4, m5, m6⟩ := HG.out _ HBX.out
                go_wp2_with fail
                refine (HST.out t.rv _ HBX.out).mono ?_
                rintro e w9 ⟨v9, rfl, hs9, hb9⟩
                have hs9' := hs9
                rw [stateL_len hw1 hw8] at hs9
                obtain ⟨A9, c9, rfl, _, _⟩ := hs9.form
                have HB9 := Lib.hid hb9
                have HS9 := Lib.hid (show Sl w9 1 (.slice A9 (stateL (wn : Int) m.H t.rv).length c9) (stateL (wn : Int) m.H t.rv).length ((stateL (wn : Int) m.H t.rv).flatMap encI) from by rw [stateL_len hw1 hw8]; rw [stateL_len hw1 hw8] at hs9'; exact hs9')
                clear hs9 hs9' hb9 c4 c7 p0 p1 p2 m0 m1 m2 m3 m4 m5 m6
                obtain ⟨c4, c7⟩ := HC.out _ HB9.out
                go_wp2_with fail
                go_loopg [16] nr (fun gg s16 wr => ∃ j : Nat, j ≤ nr ∧ nr - j ≤ gg ∧ s16 = .int .i64 j ∧ Hid (Below w9.heap.size w9 wr))
                case atStart => exact ⟨0, by omega, by omega, by go_num, Below.refl _ _⟩
                case round =>
                  obtain ⟨j, hj, hg4, rfl, BW4⟩ := hrel
                  have HBW := Lib.hid (HB9.out.trans (BW4.out.mono HB9.out.size))
                  clear c4 c7
                  obtain ⟨c4, c7⟩ := HC.out _ HBW.out
                  by_cases hlt4 : j < nr
                  · have hltz4 : (j : Int) < (nr : Int) := by omega
                    have hj0 : (0 : Int) ≤ (j : Int) := by omega
                    have hjR : j < t.R.length := by rw [← HNR.out]; exact hlt4
                    obtain ⟨br, orr, er, hbr, hcr⟩ := Sl.pos encPr encPr_len HOKT.out (by omega)
                    have y0 := hcr wr (HBX.out.trans (HBW.out.mono HBX.out.size) : Below w5.heap.size w5 wr) j hjR 0 _ rfl
                    have y1 := hcr wr (HBX.out.trans (HBW.out.mono HBX.out.size) : Below w5.heap.size w5 wr) j hjR 1 _ rfl
                    obtain ⟨q0, q1, q2⟩ := HRDT.out _ (List.getElem_mem hjR)
                    generalize t.R[j] = p at *
                    obtain ⟨at_, hat⟩ : ∃ z : Nat, p.at_ = (z : Int) := ⟨p.at_.toNat, by omega⟩
                    obtain ⟨pv, hpv⟩ : ∃ z, z = p.v := ⟨_, rfl⟩
                    rw [hat] at y0 q1 q2
                    rw [← hpv] at y1 q2
                    have hatn : at_ < wn := by omega
                    have hsl : at_ < (stateL (wn : Int) m.H t.rv).length := by rw [stateL_len hw1 hw8]; exact hatn
                    obtain ⟨bs, os, es, hbs, hcs⟩ := Sl.pos encI encI_len HS9.out (by omega)
                    have y2 := hcs wr BW4.out at_ hsl 0 _ rfl
                    have hq := stateL_at hw1 hw8 HFI.out.dx HFI.out.ws hatn q2
                    rw [List.getElem?_eq_getElem hsl] at hq
                    injection hq with hq
                    rw [hq] at y2
                    subst es
                    simp only [Nat.add_zero, Nat.mul_one] at y0 y2
                    rw [er] at HC
                    have Y0 := Lib.hid y0
                    have Y1 := Lib.hid y1
                    have Y2 := Lib.hid y2
                    have hpp : (pv != pv) = false := by simp
                    have ha0 : (0 : Int) ≤ (at_ : Int) := by omega
                    have ha1 : (at_ : Int) < (wn : Int) := by omega
                    have ha2 : ¬ (at_ : Int) < 0 := by omega
                    have ha3 : ¬ (wn : Int) ≤ (at_ : Int) := by omega
                    clear hcr hcs hq hsl hjR y0 y1 y2 q0 q1 q2 c4 hat hpv er
                    go_upto_region 29 with fail
                    clear c7
                    refine wp_region_held_drew (S := fun W => W.cell? ⟨gx, 7, none⟩ = some (.slice (some ⟨br, orr, none⟩) nr t.rc) ∧ W.cell? ⟨br, orr + j * 2, none⟩ = some (.int .i64 (at_ : Int)) ∧ W.cell? ⟨br, orr + j * 2 + 1, none⟩ = some (.int .i64 pv) ∧ W.cell? ⟨bs, os + at_, none⟩ = some (.int .i64 pv)) (by kernel_rfl) ?_ (fun hHelddr => ?_)
                    · exact ⟨(HC.out _ HBW.out.drew).2, Y0.out, Y1.out, Y2.out⟩
                    refine tkW 0 { dst := some 115, op := Op.fieldAddr 52 (Operand.tmp 14) 7, type := 0, pos := "law.go:84", after := _, guard := none } (v := ?vdr0) rfl (Or.inl ⟨by rfl, ?hydr0⟩) ?restdr0
                    case hydr0 => (intro w hSw; (try dsimp only at hSw); go_simp <;> with_reducible rfl)
                    try simp only [putW, setZ, setS]
                    refine tkW 1 { dst := some 116, op := Op.load 25 (Operand.tmp 115), type := 25, pos := "law.go:84", after := _, guard := none } (v := ?vdr1) rfl (Or.inl ⟨by rfl, ?hydr1⟩) ?restdr1
                    case hydr1 => (intro w hSw; (try dsimp only at hSw); go_simp <;> with_reducible rfl)
                    try simp only [putW, setZ, setS]
                    refine tkW 2 { dst := some 117, op := Op.move (Operand.tmp 16), type := 3, pos := "law.go:84", after := _, guard := none } (v := ?vdr2) rfl (Or.inl ⟨by rfl, ?hydr2⟩) ?restdr2
                    case hydr2 => (intro w hSw; (try dsimp only at hSw); go_simp <;> with_reducible rfl)
                    try simp only [putW, setZ, setS]
                    refine tkW 3 { dst := some 118, op := Op.indexAddr 25 (Operand.tmp 116) (Operand.tmp 117), type := 0, pos := "law.go:84", after := _, guard := none } (v := ?vdr3) rfl (Or.inl ⟨by rfl, ?hydr3⟩) ?restdr3
                    case hydr3 => (intro w hSw; (try dsimp only at hSw); go_simp <;> with_reducible rfl)
                    try simp only [putW, setZ, setS]
                    refine tkW 4 { dst := some 119, op := Op.fieldAddr 34 (Operand.tmp 118) 0, type := 0, pos := "law.go:84", after := _, guard := none } (v := ?vdr4) rfl (Or.inl ⟨by rfl, ?hydr4⟩) ?restdr4
                    case hydr4 => (intro w hSw; (try dsimp only at hSw); go_simp <;> with_reducible rfl)
                    try simp only [putW, setZ, setS]
                    refine tkW 5 { dst := some 120, op := Op.load 3 (Operand.tmp 119), type := 3, pos := "law.go:84", after := _, guard := none } (v := ?vdr5) rfl (Or.inl ⟨by rfl, ?hydr5⟩) ?restdr5
                    case hydr5 => (intro w hSw; (try dsimp only at hSw); go_simp <;> with_reducible rfl)
                    try simp only [putW, setZ, setS]
                    refine tkW 6 { dst := some 121, op := Op.binOp BinOp.lss 3 (Operand.tmp 120) (Operand.const (Value.int IntKind.i64 0)) 3, type := 4, pos := "law.go:84", after := _, guard := none } (v := .bool false) rfl (Or.inl ⟨by rfl, ?hydr6⟩) ?restdr6
                    case hydr6 => (intro w hSw; (try dsimp only at hSw); go_simp <;> first | done | with_reducible rfl | omega | (simp; done) | (simp; omega) | (simp [*]; done) | (simp [*]; omega) | exact decide_eq_false (by omega) | exact decide_eq_true (by omega))
                    try simp only [putW, setZ, setS]
                    refine tkW 7 { dst := some 122, op := Op.move (Operand.tmp 121), type := 4, pos := "law.go:84", after := _, guard := none } (v := ?vdr7) rfl (Or.inl ⟨by rfl, ?hydr7⟩) ?restdr7
                    case hydr7 => (intro w hSw; (try dsimp only at hSw); go_simp <;> with_reducible rfl)
                    try simp only [putW, setZ, setS]
                    refine tkW 8 { dst := some 123, op := Op.fieldAddr 52 (Operand.tmp 14) 7, type := 0, pos := "law.go:84", after := _, guard := some (7, false) } (v := ?vdr8) rfl (Or.inl ⟨by rfl, ?hydr8⟩) ?restdr8
                    case hydr8 => (intro w hSw; (try dsimp only at hSw); go_simp <;> with_reducible rfl)
                    try simp only [putW, setZ, setS]
                    refine tkW 9 { dst := some 124, op := Op.load 25 (Operand.tmp 123), type := 25, pos := "law.go:84", after := _, guard := some (7, false) } (v := ?vdr9) rfl (Or.inl ⟨by rfl, ?hydr9⟩) ?restdr9
                    case hydr9 => (intro w hSw; (try dsimp only at hSw); go_simp <;> with_reducible rfl)
                    try simp only [putW, setZ, setS]
                    refine tkW 10 { dst := some 125, op := Op.move (Operand.tmp 16), type := 3, pos := "law.go:84", after := _, guard := some (7, false) } (v := ?vdr10) rfl (Or.inl ⟨by rfl, ?hydr10⟩) ?restdr10
                    case hydr10 => (intro w hSw; (try dsimp only at hSw); go_simp <;> with_reducible rfl)
                    try simp only [putW, setZ, setS]
                    refine tkW 11 { dst := some 126, op := Op.indexAddr 25 (Operand.tmp 124) (Operand.tmp 125), type := 0, pos := "law.go:84", after := _, guard := some (7, false) } (v := ?vdr11) rfl (Or.inl ⟨by rfl, ?hydr11⟩) ?restdr11
                    case hydr11 => (intro w hSw; (try dsimp only at hSw); go_simp <;> with_reducible rfl)
                    try simp only [putW, setZ, setS]
                    refine tkW 12 { dst := some 127, op := Op.fieldAddr 34 (Operand.tmp 126) 0, type := 0, pos := "law.go:84", after := _, guard := some (7, false) } (v := ?vdr12) rfl (Or.inl ⟨by rfl, ?hydr12⟩) ?restdr12
                    case hydr12 => (intro w hSw; (try dsimp only at hSw); go_simp <;> with_reducible rfl)
                    try simp only [putW, setZ, setS]
                    refine tkW 13 { dst := some 128, op := Op.load 3 (Operand.tmp 127), type := 3, pos := "law.go:84", after := _, guard := some (7, false) } (v := ?vdr13) rfl (Or.inl ⟨by rfl, ?hydr13⟩) ?restdr13
                    case hydr13 => (intro w hSw; (try dsimp only at hSw); go_simp <;> with_reducible rfl)
                    try simp only [putW, setZ, setS]
                    refine tkW 14 { dst := some 129, op := Op.move (Operand.tmp 15), type := 29, pos := "law.go:84", after := _, guard := some (7, false) } (v := ?vdr14) rfl (Or.inl ⟨by rfl, ?hydr14⟩) ?restdr14
                    case hydr14 => (intro w hSw; (try dsimp only at hSw); go_simp <;> with_reducible rfl)
                    try simp only [putW, setZ, setS]
                    refine tkW 15 { dst := some 130, op := Op.call { callee := Callee.builtin Builtin.len, args := #[Operand.tmp 129], argTypes := #[29] }, type := 3, pos := "law.go:84", after := _, guard := some (7, false) } (v := ?vdr15) rfl (Or.inl ⟨by rfl, ?hydr15⟩) ?restdr15
                    case hydr15 => (intro w hSw; (try dsimp only at hSw); go_simp <;> with_reducible rfl)
                    try simp only [putW, setZ, setS]
                    refine tkW 16 { dst := some 131, op := Op.binOp BinOp.geq 3 (Operand.tmp 128) (Operand.tmp 130) 3, type := 4, pos := "law.go:84", after := _, guard := some (7, false) } (v := .bool false) rfl (Or.inl ⟨by rfl, ?hydr16⟩) ?restdr16
                    case hydr16 => (intro w hSw; (try dsimp only at hSw); go_simp <;> first | done | with_reducible rfl | omega | (simp; done) | (simp; omega) | (simp [*]; done) | (simp [*]; omega) | exact decide_eq_false (by omega) | exact decide_eq_true (by omega))
                    try simp only [putW, setZ, setS]
                    refine tkW 17 { dst := some 132, op := Op.pick (Operand.tmp 122) (Operand.const (Value.bool true)) (Operand.tmp 131), type := 4, pos := "law.go:84", after := _, guard := none } (v := ?vdr17) rfl (Or.inl ⟨by rfl, ?hydr17⟩) ?restdr17
                    case hydr17 => (intro w hSw; (try dsimp only at hSw); go_simp <;> with_reducible rfl)
                    try simp only [putW, setZ, setS]
                    refine tkW 18 { dst := some 133, op := Op.move (Operand.tmp 132), type := 4, pos := "law.go:84", after := _, guard := none } (v := ?vdr18) rfl (Or.inl ⟨by rfl, ?hydr18⟩) ?restdr18
                    case hydr18 => (intro w hSw; (try dsimp only at hSw); go_simp <;> with_reducible rfl)
                    try simp only [putW, setZ, setS]
                    refine tkW 19 { dst := some 134, op := Op.move (Operand.tmp 15), type := 29, pos := "law.go:84", after := _, guard := some (18, false) } (v := ?vdr19) rfl (Or.inl ⟨by rfl, ?hydr19⟩) ?restdr19
                    case hydr19 => (intro w hSw; (try dsimp only at hSw); go_simp <;> with_reducible rfl)
                    try simp only [putW, setZ, setS]
                    refine tkW 20 { dst := some 135, op := Op.fieldAddr 52 (Operand.tmp 14) 7, type := 0, pos := "law.go:84", after := _, guard := some (18, false) } (v := ?vdr20) rfl (Or.inl ⟨by rfl, ?hydr20⟩) ?restdr20
                    case hydr20 => (intro w hSw; (try dsimp only at hSw); go_simp <;> with_reducible rfl)
                    try simp only [putW, setZ, setS]
                    refine tkW 21 { dst := some 136, op := Op.load 25 (Operand.tmp 135), type := 25, pos := "law.go:84", after := _, guard := some (18, false) } (v := ?vdr21) rfl (Or.inl ⟨by rfl, ?hydr21⟩) ?restdr21
                    case hydr21 => (intro w hSw; (try dsimp only at hSw); go_simp <;> with_reducible rfl)
                    try simp only [putW, setZ, setS]
                    refine tkW 22 { dst := some 137, op := Op.move (Operand.tmp 16), type := 3, pos := "law.go:84", after := _, guard := some (18, false) } (v := ?vdr22) rfl (Or.inl ⟨by rfl, ?hydr22⟩) ?restdr22
                    case hydr22 => (intro w hSw; (try dsimp only at hSw); go_simp <;> with_reducible rfl)
                    try simp only [putW, setZ, setS]
                    refine tkW 23 { dst := some 138, op := Op.indexAddr 25 (Operand.tmp 136) (Operand.tmp 137), type := 0, pos := "law.go:84", after := _, guard := some (18, false) } (v := ?vdr23) rfl (Or.inl ⟨by rfl, ?hydr23⟩) ?restdr23
                    case hydr23 => (intro w hSw; (try dsimp only at hSw); go_simp <;> with_reducible rfl)
                    try simp only [putW, setZ, setS]
                    refine tkW 24 { dst := some 139, op := Op.fieldAddr 34 (Operand.tmp 138) 0, type := 0, pos := "law.go:84", after := _, guard := some (18, false) } (v := ?vdr24) rfl (Or.inl ⟨by rfl, ?hydr24⟩) ?restdr24
                    case hydr24 => (intro w hSw; (try dsimp only at hSw); go_simp <;> with_reducible rfl)
                    try simp only [putW, setZ, setS]
                    refine tkW 25 { dst := some 140, op := Op.load 3 (Operand.tmp 139), type := 3, pos := "law.go:84", after := _, guard := some (18, false) } (v := ?vdr25) rfl (Or.inl ⟨by rfl, ?hydr25⟩) ?restdr25
                    case hydr25 => (intro w hSw; (try dsimp only at hSw); go_simp <;> with_reducible rfl)
                    try simp only [putW, setZ, setS]
                    refine tkW 26 { dst := some 141, op := Op.indexAddr 29 (Operand.tmp 134) (Operand.tmp 140), type := 0, pos := "law.go:84", after := _, guard := some (18, false) } (v := ?vdr26) rfl (Or.inl ⟨by rfl, ?hydr26⟩) ?restdr26
                    case hydr26 => (intro w hSw; (try dsimp only at hSw); go_simp <;> with_reducible rfl)
                    try simp only [putW, setZ, setS]
                    refine tkW 27 { dst := some 142, op := Op.load 3 (Operand.tmp 141), type := 3, pos := "law.go:84", after := _, guard := some (18, false) } (v := ?vdr27) rfl (Or.inl ⟨by rfl, ?hydr27⟩) ?restdr27
                    case hydr27 => (intro w hSw; (try dsimp only at hSw); go_simp <;> with_reducible rfl)
                    try simp only [putW, setZ, setS]
                    refine tkW 28 { dst := some 143, op := Op.fieldAddr 52 (Operand.tmp 14) 7, type := 0, pos := "law.go:84", after := _, guard := some (18, false) } (v := ?vdr28) rfl (Or.inl ⟨by rfl, ?hydr28⟩) ?restdr28
                    case hydr28 => (intro w hSw; (try dsimp only at hSw); go_simp <;> with_reducible rfl)
                    try simp only [putW, setZ, setS]
                    refine tkW 29 { dst := some 144, op := Op.load 25 (Operand.tmp 143), type := 25, pos := "law.go:84", after := _, guard := some (18, false) } (v := ?vdr29) rfl (Or.inl ⟨by rfl, ?hydr29⟩) ?restdr29
                    case hydr29 => (intro w hSw; (try dsimp only at hSw); go_simp <;> with_reducible rfl)
                    try simp only [putW, setZ, setS]
                    refine tkW 30 { dst := some 145, op := Op.move (Operand.tmp 16), type := 3, pos := "law.go:84", after := _, guard := some (18, false) } (v := ?vdr30) rfl (Or.inl ⟨by rfl, ?hydr30⟩) ?restdr30
                    case hydr30 => (intro w hSw; (try dsimp only at hSw); go_simp <;> with_reducible rfl)
                    try simp only [putW, setZ, setS]
                    refine tkW 31 { dst := some 146, op := Op.indexAddr 25 (Operand.tmp 144) (Operand.tmp 145), type := 0, pos := "law.go:84", after := _, guard := some (18, false) } (v := ?vdr31) rfl (Or.inl ⟨by rfl, ?hydr31⟩) ?restdr31
                    case hydr31 => (intro w hSw; (try dsimp only at hSw); go_simp <;> with_reducible rfl)
                    try simp only [putW, setZ, setS]
                    refine tkW 32 { dst := some 147, op := Op.fieldAddr 34 (Operand.tmp 146) 1, type := 0, pos := "law.go:84", after := _, guard := some (18, false) } (v := ?vdr32) rfl (Or.inl ⟨by rfl, ?hydr32⟩) ?restdr32
                    case hydr32 => (intro w hSw; (try dsimp only at hSw); go_simp <;> with_reducible rfl)
                    try simp only [putW, setZ, setS]
                    refine tkW 33 { dst := some 148, op := Op.load 3 (Operand.tmp 147), type := 3, pos := "law.go:84", after := _, guard := some (18, false) } (v := ?vdr33) rfl (Or.inl ⟨by rfl, ?hydr33⟩) ?restdr33
                    case hydr33 => (intro w hSw; (try dsimp only at hSw); go_simp <;> with_reducible rfl)
                    try simp only [putW, setZ, setS]
                    refine tkW 34 { dst := some 149, op := Op.binOp BinOp.neq 3 (Operand.tmp 142) (Operand.tmp 148) 3, type := 4, pos := "law.go:84", after := _, guard := some (18, false) } (v := .bool false) rfl (Or.inl ⟨by rfl, ?hydr34⟩) ?restdr34
                    case hydr34 => (intro w hSw; (try dsimp only at hSw); go_simp <;> first | done | with_reducible rfl | omega | (simp; done) | (simp; omega) | (simp [*]; done) | (simp [*]; omega) | exact decide_eq_false (by omega) | exact decide_eq_true (by omega))
                    try simp only [putW, setZ, setS]
                    refine tkW 35 { dst := some 150, op := Op.pick (Operand.tmp 133) (Operand.const (Value.bool true)) (Operand.tmp 149), type := 4, pos := "law.go:84", after := _, guard := none } (v := ?vdr35) rfl (Or.inl ⟨by rfl, ?hydr35⟩) ?restdr35
                    case hydr35 => (intro w hSw; (try dsimp only at hSw); go_simp <;> with_reducible rfl)
                    try simp only [putW, setZ, setS]
                    refine wpAnyH_done (by kernel_rfl) ?_ _
                    go_wp2_with fail
                    go_roundg (nr - (j + 1))
                    case measure => omega
                    case rel => exact ⟨j + 1, by omega, by omega, by go_num, BW4.out.drew⟩
                  · obtain rfl : nr = j := by omega
                    go_wp2_with fail
                    go_roundg (n - (k + 1))
                    case measure => omega
                    case rel => exact ⟨k + 1, by omega, by omega, by go_num, HBX.out.trans (HBW.out.mono HBX.out.size)⟩
              · obtain rfl : n = k := by omega
                go_wp2_with fail
                go_ret
                exact ⟨rfl, HB1.out.trans ((HB5.out.trans (BW3.out.mono HB5.out.size)).mono HB1.out.size)⟩
end Go.Proofs.Ytmcbnpeihedcaaa
namespace Go.Proofs.Ytmcbnpeihedcaaa
set_option linter.unusedSimpArgs false
open Go Go.ChangeShapes Go.WideShapes Go.ChangeAt Go.RowKit
set_option linter.unusedVariables false

set_option maxRecDepth 100000 in
theorem serialNow_lifted (os : Os) (started : os.Started) (H : Type) (enc : TypeId × Value → H) :
    ReturnsInHanded {} Try.checked os 7 .any (Rows.serialNowSpec.pre6 enc Try.prog Try.f7 Rows.serialNowRow.domain false) (Rows.serialNowSpec.post enc Try.prog Try.f7 false true false false) := by
  refine returnsInHanded_of_change (C := Try.checked) own started (by kernel_rfl) Try.func7
    (ChangeSpec.witness6 (enc := enc) (C := Try.checked) false ⟨#[], #[.agg #[.int .i64 0, .int .i64 0, .slice none 0 0], .slice none 0 0], []⟩ 8 (by kernel_rfl) (by kernel_rfl) (by kernel_rfl) (by kernel_rfl)) ?_
  intro W base args ds gs before hval0 hW hcnd _
  have hval : ∀ (j : Nat) t v, Try.f7.params[j]? = some t → args[j]? = some v → Value.okWide Try.prog W .any base t v := hval0
  obtain ⟨p, q, hA0, hV, -, -, -⟩ := id hW
  have hA : DataW.TrodAll enc Try.prog W 0 (fun _ => true) true Try.f7.params.toList args.toList ds p := hA0
  rw [Try.params7] at hA hval
  obtain ⟨v0, vs0, d0, ds0, p0, q0, hargs, rfl, -, h0, r0⟩ := trodAll_cons hA
  obtain ⟨v1, vs1, d1, ds1, p1, q1, rfl, rfl, -, h1, r1⟩ := trodAll_cons r0
  obtain ⟨rfl, rfl, -⟩ := trodAll_nil r1
  obtain rfl : args = #[v0, v1] := by cases args; simp_all
  obtain ⟨rfl, -⟩ := trodVars_none hV
  obtain ⟨words0, mx0, pv0, pl0, rfl, hst0, ww0, wm0⟩ := open_plan (hval 0 39 v0 rfl rfl) h0
  obtain ⟨l1, hst1, hok1⟩ := open_picks (hval 1 29 v1 rfl rfl) h1
  refine (serialNow_walk W words0 mx0 pv0 pl0 hst0 ww0 wm0 v1 l1 hst1 hok1).mono fun e W' ⟨he, hb⟩ => ?_
  subst he
  exact ⟨_, rfl, post_law laidOut Try.underlying4 (by kernel_rfl) (fun t ht => by have h := List.all_eq_true.1 (show (Try.f7.params.toList.all fun t => Try.prog.readableRec t && decide (t < Try.prog.types.size)) = true from by kernel_rfl) t ht; rw [Bool.and_eq_true, decide_eq_true_eq] at h; exact h) rfl hW rfl hb⟩

theorem serialNow_holds : Rows.SerialNowSaid :=
  show Rows.serialNowRow.holds Try.pinned (OpenSpec.ofChange Rows.serialNowSpec) from
  OpenClaim.holds_of_wide 7 Try.f7 rfl rfl rfl rfl rfl rfl rfl ⟨rfl, rfl, rfl, rfl, rfl⟩ rfl rfl rfl rfl rfl (by kernel_rfl) Try.func7 (by kernel_rfl)
    (of_decide_eq_true (by kernel_rfl)) (by unfold Func.isWrapper; first | (rw [if_pos (by decide +kernel)]; kernel_rfl) | (rw [if_neg (by decide +kernel)]; exact ⟨rfl, rfl⟩))
    (fun os started H enc _ => serialNow_lifted os started H enc)

#print axioms serialNow_holds
end Go.Proofs.Ytmcbnpeihedcaaa
