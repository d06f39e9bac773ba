/- StmOrder: printed by st_order.py. -/
import Derived.Test.YtngimbfojccikaaStAwake
import Derived.Test.YtngimbfojccikaaStOpen
import Derived.Test.YtngimbfojccikaaStInv
namespace Go.Proofs.Ytngimbfojccikaa
set_option linter.unusedSimpArgs false
open Go Go.RowKit
set_option linter.unusedVariables false

theorem memer_H {m s : Mm} (h : m.er = s.er) {i : Nat} {x : Rx} (hx : m.H[i]? = some x) : ∃ y, s.H[i]? = some y ∧ erX y = erX x := by
  have h1 : m.er.H[i]? = s.er.H[i]? := by rw [h]
  simp only [Mm.er, List.getElem?_map, hx, Option.map_some] at h1
  obtain ⟨y, hy, e⟩ := Option.map_eq_some_iff.1 h1.symm
  exact ⟨y, hy, e⟩
theorem memer_T {m s : Mm} (h : m.er = s.er) {i : Nat} {x : Tx} (hx : m.T[i]? = some x) : ∃ y, s.T[i]? = some y ∧ erT y = erT x := by
  have h1 : m.er.T[i]? = s.er.T[i]? := by rw [h]
  simp only [Mm.er, List.getElem?_map, hx, Option.map_some] at h1
  obtain ⟨y, hy, e⟩ := Option.map_eq_some_iff.1 h1.symm
  exact ⟨y, hy, e⟩
theorem ord_er {m s : Mm} (h : OrdI s) (he : m.er = s.er) : OrdI m := by
  have hnow : m.now = s.now := show m.er.now = s.er.now by rw [he]
  refine ⟨fun k t hk hs => ?_, fun k t hk hs => ?_, fun x hx => ?_⟩
  · obtain ⟨u, hu, e⟩ := memer_T he hk
    have e1 : u.st = t.st := by have := congrArg Tx.st e; exact this
    have e2 : u.rv = t.rv := by have := congrArg Tx.rv e; exact this
    have := h.t1 k u hu (by omega)
    omega
  · obtain ⟨u, hu, e⟩ := memer_T he hk
    have e1 : u.st = t.st := by have := congrArg Tx.st e; exact this
    have e2 : u.rv = t.rv := by have := congrArg Tx.rv e; exact this
    have e3 : u.wv = t.wv := by have := congrArg Tx.wv e; exact this
    have := h.t4 k u hu (by omega)
    omega
  · obtain ⟨i, hi, rfl⟩ := List.getElem_of_mem hx
    obtain ⟨u, hu, e⟩ := memer_H he (List.getElem?_eq_getElem hi)
    have e1 : u.W = m.H[i].W := by have := congrArg Rx.W e; exact this
    have e2 : u.rv = m.H[i].rv := by have := congrArg Rx.rv e; exact this
    have e3 : u.wv = m.H[i].wv := by have := congrArg Rx.wv e; exact this
    have e4 : u.en = m.H[i].en := by have := congrArg Rx.en e; exact this
    have := h.hs u (List.mem_of_getElem? hu)
    rw [e1, e2, e3, e4, ← hnow] at this
    exact this

set_option maxRecDepth 100000 in
set_option maxHeartbeats 16000000 in
theorem stmOrder_walk (w : World) (words mx : Int) (pv : Value) (pl : List (List (List Ac))) (hpl : PlV w pv pl) (ww : okI words) (wm : okI mx) (kv : Value) (picks : List Int) (hkv : Sl w 1 kv picks.length (picks.flatMap encI)) (hok : ∀ q ∈ picks, okI q) :
    Calls Try.prog 8 #[planV words mx pv, kv] w fun e w' => e = .returned (.bool true) ∧ Below w.heap.size w w' := by
  obtain ⟨A, c, rfl, _, _⟩ := hpl.form
  obtain ⟨kA, kc, rfl, _, _⟩ := hkv.form
  have kP := Blk.new_ w 24 #[.int .i64 words, .int .i64 mx, .slice A pl.length c] _ rfl
  have bP : Below w.heap.size w (w.alloc (.cells #[.int .i64 words, .int .i64 mx, .slice A pl.length c] 24)) := (Below.refl _ w).alloc (Nat.le_refl _) _
  obtain ⟨w1, hw1⟩ : ∃ z, w.alloc (.cells #[.int .i64 words, .int .i64 mx, .slice A pl.length c] 24) = z := ⟨_, rfl⟩
  rw [hw1] at kP bP
  have HB1 := Lib.hid bP
  have HP := Lib.hid (fun W (hb : Below w1.heap.size w1 W) => (show W.cell? ⟨w.heap.size, 0, none⟩ = some (.int .i64 words) ∧ W.cell? ⟨w.heap.size, 1, none⟩ = some (.int .i64 mx) ∧ W.cell? ⟨w.heap.size, 2, none⟩ = some (.slice A pl.length c) from ⟨by rw [(kP.keep hb).cell]; rfl, by rw [(kP.keep hb).cell]; rfl, by rw [(kP.keep hb).cell]; rfl⟩))
  have HPV := Lib.hid (fun W (hb : Below w1.heap.size w1 W) => (hpl.below bP).below hb)
  have HKV := Lib.hid (fun W (hb : Below w1.heap.size w1 W) => (hkv.below bP).below hb)
  have HF := Lib.hid (fun W (hb : Below w1.heap.size w1 W) => few19_any words mx pl _ kA picks.length kc W (HPV.out W hb))
  have HRN := Lib.hid (fun (h : mayP words mx pl = false) v W (hb : Below w1.heap.size w1 W) => run_no words mx pl _ v W (HPV.out W hb) h)
  have HRY := Lib.hid (fun (wn : Nat) (hw : words = (wn : Int)) (h : mayP words mx pl = true) v (l : List Int) (hl : l.length ≤ 900) W (hb : Below w1.heap.size w1 W) (hv : Sl W 1 v l.length (l.flatMap encI)) => (show Calls Try.prog 12 #[planV words mx (.slice A pl.length c), v] W (RunPost W (runM wn mx pl l)) from by subst hw; exact run_yes wn mx pl _ v l W (HPV.out W hb) hv h hl))
  have HW1 := Lib.hid hw1
  obtain ⟨n, hn⟩ : ∃ n, n = pl.length := ⟨_, rfl⟩
  obtain ⟨np, hnp⟩ : ∃ n, n = picks.length := ⟨_, rfl⟩
  have HN := Lib.hid hn
  have HNP := Lib.hid hnp
  have HOK := Lib.hid hok
  have HWW := Lib.hid (And.intro ww wm)
  rw [← hn] at HP HRN HRY HW1 HF
  rw [← hnp] at HF
  rw [← hn, ← hnp]
  clear kP bP hw1 hpl hkv hn hnp hok ww wm
  simp only [planV] at HF HRN HRY ⊢
  go_enter Try.func8, Try.ntmps8
  go_upto_region 1 with fail
  rw [HW1.out]
  go_wp2_with fail
  refine (awake_any _).mono ?_
  rintro e w2 ⟨rfl, hb2⟩
  have HB2 := Lib.hid hb2
  obtain ⟨p0, p1, p2⟩ := HP.out _ hb2
  clear hb2
  go_wp2_with fail
  refine (HF.out _ HB2.out).mono ?_
  rintro e w3 ⟨fb, rfl, hfew, hb3⟩
  have HB3 := Lib.hid (HB2.out.trans (hb3.mono HB2.out.size))
  clear p0 p1 p2 hb3
  cases fb with
  | false =>
    clear hfew
    go_wp2_with fail
    go_ret
    exact ⟨rfl, HB1.out.trans (HB3.out.mono HB1.out.size)⟩
  | true =>
  have hf := hfew rfl
  have HFW := Lib.hid hf
  clear hfew hf
  obtain ⟨p0, p1, p2⟩ := HP.out _ HB3.out
  cases hmay : mayP words mx pl with
  | false =>
    go_wp2_with fail
    refine (HRN.out hmay _ _ HB3.out).mono ?_
    rintro e w4 ⟨rfl, hb4⟩
    have HB4 := Lib.hid (HB3.out.trans (hb4.mono HB3.out.size))
    clear p0 p1 p2 hb4
    go_wp2_with fail
    refine wp_loop_rounds 1 ?_
    rw [rounds_succ]
    go_wp2_with fail
    go_ret
    exact ⟨rfl, HB1.out.trans ((HB4.out.alloc HB4.out.size _).mono HB1.out.size)⟩
  | true =>
  obtain ⟨wn, hwn, hPO⟩ := planOk_of hmay
  have HPO := Lib.hid hPO
  have HWN := Lib.hid hwn
  have HMAY := Lib.hid hmay
  clear hwn hPO hmay
  go_wp2_with fail
  refine (HRY.out wn HWN.out HMAY.out (.slice kA np kc) picks (by have := HFW.out.2; have := HNP.out; omega) _ HB3.out (by have := HKV.out _ HB3.out; rw [← HNP.out] at this ⊢; exact this)).mono ?_
  rintro e w4 ⟨a, m, rfl, hm, her, hb4⟩
  have HB4 := Lib.hid (HB3.out.trans (hb4.mono HB3.out.size))
  have HER := Lib.hid her
  have HRG := Lib.hid (good_run HPO.out picks)
  have HGO := Lib.hid (show Good wn pl m from good_er (by rw [her]; exact good_er2 HRG.out.1))
  have HTM := Lib.hid (show m.time = (picks.length : Int) from by have e1 : m.er.time = m.time := rfl; have e2 : (runM wn mx pl picks).er.time = (runM wn mx pl picks).time := rfl; rw [← e1, her, e2]; exact HRG.out.2)
  clear p0 p1 p2 hb4 her
  have kM := Blk.new_ w4 34 (memCells a m).toArray _ rfl
  obtain ⟨w5, hw5⟩ : ∃ z, w4.alloc (.cells (memCells a m).toArray 34) = z := ⟨_, rfl⟩
  have HM := Lib.hid (hm.below (show Below w4.heap.size w4 w5 from hw5 ▸ (Below.refl _ _).alloc (Nat.le_refl _) _))
  have HB5 := Lib.hid (show Below w1.heap.size w1 w5 from hw5 ▸ HB4.out.alloc HB4.out.size _)
  rw [hw5] at kM
  have HKM := Lib.hid kM
  have HG := Lib.hid (fun W (hb : Below w5.heap.size w5 W) => (show W.cell? ⟨w4.heap.size, 0, none⟩ = some (.slice (some ⟨a.gW, 0, none⟩) m.W.length a.cW) ∧ W.cell? ⟨w4.heap.size, 1, none⟩ = some (.int .i64 m.now) ∧ W.cell? ⟨w4.heap.size, 2, none⟩ = some (.int .i64 m.mx) ∧ W.cell? ⟨w4.heap.size, 3, none⟩ = some (.slice a.lA m.L.length a.lc) ∧ W.cell? ⟨w4.heap.size, 4, none⟩ = some (.slice (some ⟨a.gT, 0, none⟩) m.T.length a.cT) ∧ W.cell? ⟨w4.heap.size, 5, none⟩ = some (.slice a.hA m.H.length a.hc) ∧ W.cell? ⟨w4.heap.size, 6, none⟩ = some (.int .i64 m.time) from
    ⟨by rw [(kM.keep hb).cell]; rfl, by rw [(kM.keep hb).cell]; rfl, by rw [(kM.keep hb).cell]; rfl, by rw [(kM.keep hb).cell]; rfl, by rw [(kM.keep hb).cell]; rfl, by rw [(kM.keep hb).cell]; rfl, by rw [(kM.keep hb).cell]; rfl⟩))
  have HW5 := Lib.hid hw5
  clear hm kM hw5
  simp only [memCells] at HW5 ⊢
  go_upto_region 6 with fail
  rw [HW5.out]
  have HOR := Lib.hid (ord_er (ord_run HPO.out picks) HER.out)
  have HH := Lib.hid (fun (i : Nat) (hi : i < m.H.length) => Sl.pos encRx encRx_len HM.out.H (by omega))
  obtain ⟨nh, hnh⟩ : ∃ n, n = m.H.length := ⟨_, rfl⟩
  have HNH := Lib.hid hnh
  have hnh9 : nh ≤ 9223372036854775807 := by have := HGO.out.h; have := HTM.out; have := HFW.out.2; have := HNP.out; omega
  rw [← hnh] at HG
  clear hnh
  go_wp2_with fail
  go_loopg [9, 11] nh (fun gg s9 s11 wr => ∃ i : Nat, i ≤ nh ∧ nh - i ≤ gg ∧ s9 = .int .i64 i ∧ Hid (Below w5.heap.size w5 wr))
  case atStart => exact ⟨0, by omega, by omega, rfl, Below.refl _ _⟩
  case round =>
    obtain ⟨i, hi, hg, rfl, BW⟩ := hrel
    obtain ⟨m0, m1, m2, m3, m4, m5, m6⟩ := HG.out _ BW.out
    by_cases hlt : i < nh
    · have hltz : (i : Int) < (nh : Int) := by omega
      have hi0 : (0 : Int) ≤ (i : Int) := by omega
      have hil : i < m.H.length := by rw [← HNH.out]; exact hlt
      obtain ⟨bh, oh, eh, hbh, hch⟩ := HH.out i hil
      have l1 := hch wr BW.out i hil
      obtain ⟨x, hx⟩ : ∃ x, x = m.H[i] := ⟨_, rfl⟩
      rw [← hx] at l1
      have HX := Lib.hid (show x ∈ m.H from hx ▸ List.getElem_mem hil)
      have x0 := l1 0 _ rfl
      have x1 := l1 1 _ rfl
      have x2 := l1 2 _ rfl
      have x3 := l1 3 _ rfl
      have x4 := l1 4 _ rfl
      have x5 := l1 5 _ rfl
      have x6 := l1 6 _ rfl
      have x7 := l1 7 _ rfl
      have x8 := l1 8 _ rfl
      have x9 := l1 9 _ rfl
      simp only [Nat.add_zero] at x0
      clear l1 hch hil hx
      rw [eh] at m5
      clear eh
      have HOX := Lib.hid (HOR.out.hs x HX.out)
      have HXW := Lib.hid (HM.out.hs x HX.out).2
      obtain ⟨nw, hnw⟩ : ∃ n, n = x.W.length := ⟨_, rfl⟩
      have HNW := Lib.hid hnw
      rw [← hnw] at x7
      have hnw9 : nw ≤ 9223372036854775807 := by obtain ⟨_, _, _, h6, h7⟩ := (HM.out.hs x HX.out).2.form; unfold maxLen at h7; omega
      have bX := Below.alloc (Below.refl wr.heap.size wr) (Nat.le_refl _) (.cells #[.int .i64 x.who, .int .i64 x.tx, .int .i64 x.try_, .int .i64 x.en, .int .i64 x.rv, .int .i64 x.wv, .slice x.rA x.R.length x.rc, .slice x.wA nw x.wc, .int .i64 x.fr, .int .i64 x.to_] 50)
      have kX := Blk.new_ wr 50 #[.int .i64 x.who, .int .i64 x.tx, .int .i64 x.try_, .int .i64 x.en, .int .i64 x.rv, .int .i64 x.wv, .slice x.rA x.R.length x.rc, .slice x.wA nw x.wc, .int .i64 x.fr, .int .i64 x.to_] _ rfl
      have HBX := Lib.hid (BW.out.trans (bX.mono BW.out.size))
      obtain ⟨wx, hwx⟩ : ∃ z, wr.alloc (.cells #[.int .i64 x.who, .int .i64 x.tx, .int .i64 x.try_, .int .i64 x.en, .int .i64 x.rv, .int .i64 x.wv, .slice x.rA x.R.length x.rc, .slice x.wA nw x.wc, .int .i64 x.fr, .int .i64 x.to_] 50) = z := ⟨_, rfl⟩
      rw [hwx] at kX HBX
      have HWX := Lib.hid hwx
      have HC := Lib.hid (fun W (hb : Below wx.heap.size wx W) => (show W.cell? ⟨wr.heap.size, 3, none⟩ = some (.int .i64 x.en) ∧ W.cell? ⟨wr.heap.size, 4, none⟩ = some (.int .i64 x.rv) ∧ W.cell? ⟨wr.heap.size, 5, none⟩ = some (.int .i64 x.wv) ∧ W.cell? ⟨wr.heap.size, 7, none⟩ = some (.slice x.wA nw x.wc) from
        ⟨by rw [(kX.keep hb).cell]; rfl, by rw [(kX.keep hb).cell]; rfl, by rw [(kX.keep hb).cell]; rfl, by rw [(kX.keep hb).cell]; rfl⟩))
      clear hnw kX hwx bX
      go_upto_region 10 with fail
      rw [HWX.out]
      obtain ⟨gx, hgx⟩ : ∃ z, wr.heap.size = z := ⟨_, rfl⟩
      rw [hgx] at HC ⊢
      clear hgx
      clear x0 x1 x2 x3 x4 x5 x6 x7 x8 x9 m0 m1 m2 m3 m4 m5 m6
      obtain ⟨c3, c4, c5, c7⟩ := HC.out _ (Below.refl _ _)
      go_wp2_with fail
      go_loopg [11] nw (fun gg s11 wr2 => ∃ k : Nat, nw - k ≤ gg ∧ 1 ≤ k ∧ (k ≤ nw ∨ k = 1) ∧ s11 = .int .i64 (k : Int) ∧ Hid (Below wx.heap.size wx wr2))
      case atStart => exact ⟨1, by omega, by omega, .inr rfl, by go_num, Below.refl _ _⟩
      case round =>
        obtain ⟨k, hg2, hk1, hk2, rfl, BX⟩ := hrel
        obtain ⟨c3', c4', c5', c7'⟩ := HC.out _ BX.out
        by_cases hlt2 : k < nw
        · have hz2 : (k : Int) < (nw : Int) := by omega
          have hk0 : (0 : Int) ≤ (k : Int) := by omega
          obtain ⟨q, hq⟩ : ∃ q, k = q + 1 := ⟨k - 1, by omega⟩
          obtain ⟨bq, oq, eq, hbq, hcq⟩ := Sl.pos encPr encPr_len HXW.out (by have := HNW.out; omega)
          have hk' : k < x.W.length := by rw [← HNW.out]; exact hlt2
          have hq' : q < x.W.length := by rw [← HNW.out]; omega
          have hcmp : x.W[q].at_ < x.W[k].at_ := (pairwise_idx.1 HOX.out.1) q k _ _ (List.getElem?_eq_getElem hq') (List.getElem?_eq_getElem hk') (by omega)
          have HCQ := Lib.hid (fun W (hb : Below wx.heap.size wx W) => (show W.cell? ⟨bq, oq + k * 2, none⟩ = some (.int .i64 x.W[k].at_) ∧ W.cell? ⟨bq, oq + q * 2, none⟩ = some (.int .i64 x.W[q].at_) from
            ⟨hcq W (HBX.out.trans (hb.mono HBX.out.size)) k hk' 0 _ rfl, hcq W (HBX.out.trans (hb.mono HBX.out.size)) q hq' 0 _ rfl⟩))
          obtain ⟨y1, hy1⟩ : ∃ y, y = x.W[k].at_ := ⟨_, rfl⟩
          obtain ⟨y0, hy0⟩ : ∃ y, y = x.W[q].at_ := ⟨_, rfl⟩
          rw [← hy1, ← hy0] at hcmp HCQ
          have hle : ¬ y1 ≤ y0 := by omega
          have hqz : (q : Int) < (nw : Int) := by omega
          have hq0 : (0 : Int) ≤ (q : Int) := by omega
          have hwr : IntKind.i64.wrap ((k : Int) - 1) = (q : Int) := by rw [IntKind.wrap_i64]; omega
          rw [eq] at HC c7' c7
          clear eq hcq hy1 hy0 hk' hq' hcmp hq
          go_wp2_with fail
          refine wp_region_held_drew (S := fun W => W.cell? ⟨gx, 7, none⟩ = some (.slice (some ⟨bq, oq, none⟩) nw x.wc) ∧ W.cell? ⟨bq, oq + k * 2, none⟩ = some (.int .i64 y1) ∧ W.cell? ⟨bq, oq + q * 2, none⟩ = some (.int .i64 y0)) (by kernel_rfl) ?_ (fun hHeldbr => ?_)
          · exact ⟨(HC.out _ BX.out.drew).2.2.2, HCQ.out _ BX.out.drew⟩
          refine wpAnyH_take (i := 0) (oi := { dst := some 51, op := Op.fieldAddr 50 (Operand.tmp 10) 7, type := 0, pos := "more.go:52", after := _, guard := none }) (v := ?vbr0) rfl (by kernel_rfl) (by kernel_rfl) (by kernel_rfl) (fun _ _ _ h => h) (Or.inl ⟨by rfl, ?hybr0⟩) (by assumption) ?restbr0
          case hybr0 => (intro w hSw; (try dsimp only at hSw); go_simp <;> with_reducible rfl)
          try simp only [Act.put, List.setIfInBounds_toArray, List.set_cons_zero, List.set_cons_succ]
          refine wpAnyH_take (i := 1) (oi := { dst := some 52, op := Op.load 44 (Operand.tmp 51), type := 44, pos := "more.go:52", after := _, guard := none }) (v := ?vbr1) rfl (by kernel_rfl) (by kernel_rfl) (by kernel_rfl) (fun _ _ _ h => h) (Or.inl ⟨by rfl, ?hybr1⟩) (by assumption) ?restbr1
          case hybr1 => (intro w hSw; (try dsimp only at hSw); go_simp <;> with_reducible rfl)
          try simp only [Act.put, List.setIfInBounds_toArray, List.set_cons_zero, List.set_cons_succ]
          refine wpAnyH_take (i := 2) (oi := { dst := some 53, op := Op.move (Operand.tmp 11), type := 3, pos := "more.go:52", after := _, guard := none }) (v := ?vbr2) rfl (by kernel_rfl) (by kernel_rfl) (by kernel_rfl) (fun _ _ _ h => h) (Or.inl ⟨by rfl, ?hybr2⟩) (by assumption) ?restbr2
          case hybr2 => (intro w hSw; (try dsimp only at hSw); go_simp <;> with_reducible rfl)
          try simp only [Act.put, List.setIfInBounds_toArray, List.set_cons_zero, List.set_cons_succ]
          refine wpAnyH_take (i := 3) (oi := { dst := some 54, op := Op.indexAddr 44 (Operand.tmp 52) (Operand.tmp 53), type := 0, pos := "more.go:52", after := _, guard := none }) (v := ?vbr3) rfl (by kernel_rfl) (by kernel_rfl) (by kernel_rfl) (fun _ _ _ h => h) (Or.inl ⟨by rfl, ?hybr3⟩) (by assumption) ?restbr3
          case hybr3 => (intro w hSw; (try dsimp only at hSw); go_simp <;> with_reducible rfl)
          try simp only [Act.put, List.setIfInBounds_toArray, List.set_cons_zero, List.set_cons_succ]
          refine wpAnyH_take (i := 4) (oi := { dst := some 55, op := Op.fieldAddr 55 (Operand.tmp 54) 0, type := 0, pos := "more.go:52", after := _, guard := none }) (v := ?vbr4) rfl (by kernel_rfl) (by kernel_rfl) (by kernel_rfl) (fun _ _ _ h => h) (Or.inl ⟨by rfl, ?hybr4⟩) (by assumption) ?restbr4
          case hybr4 => (intro w hSw; (try dsimp only at hSw); go_simp <;> with_reducible rfl)
          try simp only [Act.put, List.setIfInBounds_toArray, List.set_cons_zero, List.set_cons_succ]
          refine wpAnyH_take (i := 5) (oi := { dst := some 56, op := Op.load 3 (Operand.tmp 55), type := 3, pos := "more.go:52", after := _, guard := none }) (v := ?vbr5) rfl (by kernel_rfl) (by kernel_rfl) (by kernel_rfl) (fun _ _ _ h => h) (Or.inl ⟨by rfl, ?hybr5⟩) (by assumption) ?restbr5
          case hybr5 => (intro w hSw; (try dsimp only at hSw); go_simp <;> with_reducible rfl)
          try simp only [Act.put, List.setIfInBounds_toArray, List.set_cons_zero, List.set_cons_succ]
          refine wpAnyH_take (i := 6) (oi := { dst := some 57, op := Op.fieldAddr 50 (Operand.tmp 10) 7, type := 0, pos := "more.go:52", after := _, guard := none }) (v := ?vbr6) rfl (by kernel_rfl) (by kernel_rfl) (by kernel_rfl) (fun _ _ _ h => h) (Or.inl ⟨by rfl, ?hybr6⟩) (by assumption) ?restbr6
          case hybr6 => (intro w hSw; (try dsimp only at hSw); go_simp <;> with_reducible rfl)
          try simp only [Act.put, List.setIfInBounds_toArray, List.set_cons_zero, List.set_cons_succ]
          refine wpAnyH_take (i := 7) (oi := { dst := some 58, op := Op.load 44 (Operand.tmp 57), type := 44, pos := "more.go:52", after := _, guard := none }) (v := ?vbr7) rfl (by kernel_rfl) (by kernel_rfl) (by kernel_rfl) (fun _ _ _ h => h) (Or.inl ⟨by rfl, ?hybr7⟩) (by assumption) ?restbr7
          case hybr7 => (intro w hSw; (try dsimp only at hSw); go_simp <;> with_reducible rfl)
          try simp only [Act.put, List.setIfInBounds_toArray, List.set_cons_zero, List.set_cons_succ]
          refine wpAnyH_take (i := 8) (oi := { dst := some 59, op := Op.move (Operand.tmp 11), type := 3, pos := "more.go:52", after := _, guard := none }) (v := ?vbr8) rfl (by kernel_rfl) (by kernel_rfl) (by kernel_rfl) (fun _ _ _ h => h) (Or.inl ⟨by rfl, ?hybr8⟩) (by assumption) ?restbr8
          case hybr8 => (intro w hSw; (try dsimp only at hSw); go_simp <;> with_reducible rfl)
          try simp only [Act.put, List.setIfInBounds_toArray, List.set_cons_zero, List.set_cons_succ]
          refine wpAnyH_take (i := 9) (oi := { dst := some 60, op := Op.binOp BinOp.sub 3 (Operand.tmp 59) (Operand.const (Value.int IntKind.i64 1)) 3, type := 3, pos := "more.go:52", after := _, guard := none }) (v := .int .i64 (q : Int)) rfl (by kernel_rfl) (by kernel_rfl) (by kernel_rfl) (fun _ _ _ h => h) (Or.inl ⟨by rfl, ?hybr9⟩) (by assumption) ?restbr9
          case hybr9 => (intro w hSw; (try dsimp only at hSw); go_simp <;> first | done | with_reducible rfl | omega | (simp; done) | (simp; omega) | (simp [*]; done) | (simp [*]; omega) | exact decide_eq_false (by omega) | exact decide_eq_true (by omega))
          try simp only [Act.put, List.setIfInBounds_toArray, List.set_cons_zero, List.set_cons_succ]
          refine wpAnyH_take (i := 10) (oi := { dst := some 61, op := Op.indexAddr 44 (Operand.tmp 58) (Operand.tmp 60), type := 0, pos := "more.go:52", after := _, guard := none }) (v := ?vbr10) rfl (by kernel_rfl) (by kernel_rfl) (by kernel_rfl) (fun _ _ _ h => h) (Or.inl ⟨by rfl, ?hybr10⟩) (by assumption) ?restbr10
          case hybr10 => (intro w hSw; (try dsimp only at hSw); go_simp <;> with_reducible rfl)
          try simp only [Act.put, List.setIfInBounds_toArray, List.set_cons_zero, List.set_cons_succ]
          refine wpAnyH_take (i := 11) (oi := { dst := some 62, op := Op.fieldAddr 55 (Operand.tmp 61) 0, type := 0, pos := "more.go:52", after := _, guard := none }) (v := ?vbr11) rfl (by kernel_rfl) (by kernel_rfl) (by kernel_rfl) (fun _ _ _ h => h) (Or.inl ⟨by rfl, ?hybr11⟩) (by assumption) ?restbr11
          case hybr11 => (intro w hSw; (try dsimp only at hSw); go_simp <;> with_reducible rfl)
          try simp only [Act.put, List.setIfInBounds_toArray, List.set_cons_zero, List.set_cons_succ]
          refine wpAnyH_take (i := 12) (oi := { dst := some 63, op := Op.load 3 (Operand.tmp 62), type := 3, pos := "more.go:52", after := _, guard := none }) (v := ?vbr12) rfl (by kernel_rfl) (by kernel_rfl) (by kernel_rfl) (fun _ _ _ h => h) (Or.inl ⟨by rfl, ?hybr12⟩) (by assumption) ?restbr12
          case hybr12 => (intro w hSw; (try dsimp only at hSw); go_simp <;> with_reducible rfl)
          try simp only [Act.put, List.setIfInBounds_toArray, List.set_cons_zero, List.set_cons_succ]
          refine wpAnyH_take (i := 13) (oi := { dst := some 64, op := Op.binOp BinOp.leq 3 (Operand.tmp 56) (Operand.tmp 63) 3, type := 4, pos := "more.go:52", after := _, guard := none }) (v := .bool false) rfl (by kernel_rfl) (by kernel_rfl) (by kernel_rfl) (fun _ _ _ h => h) (Or.inl ⟨by rfl, ?hybr13⟩) (by assumption) ?restbr13
          case hybr13 => (intro w hSw; (try dsimp only at hSw); go_simp <;> first | done | with_reducible rfl | omega | (simp; done) | (simp; omega) | (simp [*]; done) | (simp [*]; omega) | exact decide_eq_false (by omega) | exact decide_eq_true (by omega))
          try simp only [Act.put, List.setIfInBounds_toArray, List.set_cons_zero, List.set_cons_succ]
          refine wpAnyH_done (by kernel_rfl) ?_ _
          go_wp2_with fail
          go_roundg (nw - (k + 1))
          case measure => omega
          case rel => exact ⟨k + 1, by omega, by omega, by omega, by go_num, BX.out.drew⟩
        · have hz2 : ¬ (k : Int) < (nw : Int) := by omega
          have hrv : ¬ m.now < x.rv := by have := HOX.out.2.1; omega
          obtain ⟨m0, m1, m2, m3, m4, m5, m6⟩ := HG.out _ (HBX.out.trans (BX.out.mono HBX.out.size))
          by_cases he : x.en = 0
          · by_cases hw0 : nw = 0
            · have hz3 : ¬ (0 : Int) < (nw : Int) := by omega
              go_wp2_with fail
              go_roundg (nh - (i + 1))
              case measure => omega
              case rel => exact ⟨i + 1, by omega, by omega, by go_num, HBX.out.trans (BX.out.mono HBX.out.size)⟩
            · have hz3 : (0 : Int) < (nw : Int) := by omega
              have hwv := HOX.out.2.2 he (by intro h; have := HNW.out; rw [h] at this; exact hw0 this)
              have hz4 : ¬ x.wv ≤ x.rv := by omega
              have hz5 : ¬ m.now < x.wv := by omega
              clear hwv
              go_wp2_with fail
              go_roundg (nh - (i + 1))
              case measure => omega
              case rel => exact ⟨i + 1, by omega, by omega, by go_num, HBX.out.trans (BX.out.mono HBX.out.size)⟩
          · have he' : (x.en == 0) = false := by simp [he]
            go_wp2_with fail
            go_roundg (nh - (i + 1))
            case measure => omega
            case rel => exact ⟨i + 1, by omega, by omega, by go_num, HBX.out.trans (BX.out.mono HBX.out.size)⟩
    · obtain rfl : nh = i := by omega
      go_wp2_with fail
      go_ret
      exact ⟨rfl, HB1.out.trans ((HB5.out.trans (BW.out.mono HB5.out.size)).mono HB1.out.size)⟩
end Go.Proofs.Ytngimbfojccikaa

