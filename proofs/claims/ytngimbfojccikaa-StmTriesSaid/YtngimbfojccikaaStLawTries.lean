/- StmTries: printed by st_tries.py. -/
import Derived.Test.YtngimbfojccikaaStLawOrder
import Derived.Test.YtngimbfojccikaaStTry
namespace Go.Proofs.Ytngimbfojccikaa
set_option linter.unusedSimpArgs false
open Go Go.RowKit
set_option linter.unusedVariables false

theorem triesF_take {who : Int} {h : List Rx} {s0 sf : Int × Int × Int} (hf : triesF who h s0 = some sf) (i : Nat) : ∃ s, triesF who (h.take i) s0 = some s := by
  rw [← List.take_append_drop i h, triesF_app] at hf
  cases hs : triesF who (h.take i) s0 with
  | none => rw [hs] at hf; cases hf
  | some s => exact ⟨s, rfl⟩
/-- A told try of this thread is the one awaited. -/
theorem tries_at {who : Int} {h : List Rx} {s0 sf : Int × Int × Int} (hf : triesF who h s0 = some sf) {i : Nat} {x : Rx} (hx : h[i]? = some x) {a b c : Int} (hs : triesF who (h.take i) s0 = some (a, b, c)) :
    (x.who ≠ who ∧ triesF who (h.take (i + 1)) s0 = some (a, b, c)) ∨ (x.who = who ∧ x.tx = a ∧ x.try_ = b ∧ c < x.fr ∧ x.fr ≤ x.to_ ∧ b ≤ 3 ∧
      ((x.en ≠ 1 ∧ triesF who (h.take (i + 1)) s0 = some (a + 1, 1, x.to_)) ∨ (x.en = 1 ∧ b = 3 ∧ triesF who (h.take (i + 1)) s0 = some (a + 1, 1, x.to_)) ∨ (x.en = 1 ∧ b ≠ 3 ∧ triesF who (h.take (i + 1)) s0 = some (a, b + 1, x.to_)))) := by
  have e : h.take (i + 1) = h.take i ++ [x] := by rw [List.take_add_one, hx]; rfl
  obtain ⟨s, h2⟩ := triesF_take hf (i + 1)
  rw [e, triesF_snoc hs] at h2
  rw [e, triesF_snoc hs]
  unfold tryF at h2 ⊢
  by_cases hw : x.who = who
  · rw [if_pos hw] at h2 ⊢
    simp only at h2 ⊢
    split at h2
    · cases h2
    · rename_i hc
      rw [if_neg hc]
      refine .inr ⟨hw, by omega, by omega, by omega, by omega, by omega, ?_⟩
      by_cases hen : x.en ≠ 1
      · exact .inl ⟨hen, by rw [if_pos (.inl hen)]⟩
      · by_cases hb : b = 3
        · exact .inr (.inl ⟨by omega, hb, by rw [if_pos (.inr (by omega))]⟩)
        · exact .inr (.inr ⟨by omega, hb, by rw [if_neg (by omega)]⟩)
  · rw [if_neg hw]
    exact .inl ⟨hw, rfl⟩
theorem try_er {m s : Mm} (h : TryI s) (he : m.er = s.er) : TryI m := by
  intro k t hk
  obtain ⟨u, hu, e⟩ := memer_T he hk
  obtain ⟨z, h1, h2⟩ := h k u hu
  have hH : m.H.map erX = s.H.map erX := show m.er.H = s.er.H by rw [he]
  have ht : m.time = s.time := show m.er.time = s.er.time by rw [he]
  refine ⟨z, by rw [← triesF_er, hH, triesF_er]; exact h1, ?_⟩
  have e1 : u.st = t.st := by have := congrArg Tx.st e; exact this
  have e2 : u.tx = t.tx := by have := congrArg Tx.tx e; exact this
  have e3 : u.try_ = t.try_ := by have := congrArg Tx.try_ e; exact this
  have e4 : u.fr = t.fr := by have := congrArg Tx.fr e; exact this
  unfold TryT at h2 ⊢
  rw [← e1, ← e2, ← e3, ← e4, ht]
  exact h2

set_option maxRecDepth 100000 in
set_option maxHeartbeats 16000000 in
theorem stmTries_walk (w : World) (words mx : Int) (pv : Value) (pl : List (List (List Ac))) (hpl : PlV w pv pl) (ww : okI words) (wm : okI mx) (kv : Value) (picks : List Int) (hkv : Sl w 1 kv picks.length (picks.flatMap encI)) (hok : ∀ q ∈ picks, okI q) (who : Int) (hwho : okI who) :
    Calls Try.prog 5 #[planV words mx pv, kv, .int .i64 who] w fun e w' => e = .returned (.bool true) ∧ Below w.heap.size w w' := by
  obtain ⟨A, c, rfl, _, _⟩ := hpl.form
  obtain ⟨kA, kc, rfl, _, _⟩ := hkv.form
  have kP := Blk.new_ w 24 #[.int .i64 words, .int .i64 mx, .slice A pl.length c] _ rfl
  have bP : Below w.heap.size w (w.alloc (.cells #[.int .i64 words, .int .i64 mx, .slice A pl.length c] 24)) := (Below.refl _ w).alloc (Nat.le_refl _) _
  obtain ⟨w1, hw1⟩ : ∃ z, w.alloc (.cells #[.int .i64 words, .int .i64 mx, .slice A pl.length c] 24) = z := ⟨_, rfl⟩
  rw [hw1] at kP bP
  have HB1 := Lib.hid bP
  have HP := Lib.hid (fun W (hb : Below w1.heap.size w1 W) => (show W.cell? ⟨w.heap.size, 0, none⟩ = some (.int .i64 words) ∧ W.cell? ⟨w.heap.size, 1, none⟩ = some (.int .i64 mx) ∧ W.cell? ⟨w.heap.size, 2, none⟩ = some (.slice A pl.length c) from ⟨by rw [(kP.keep hb).cell]; rfl, by rw [(kP.keep hb).cell]; rfl, by rw [(kP.keep hb).cell]; rfl⟩))
  have HPV := Lib.hid (fun W (hb : Below w1.heap.size w1 W) => (hpl.below bP).below hb)
  have HKV := Lib.hid (fun W (hb : Below w1.heap.size w1 W) => (hkv.below bP).below hb)
  have HF := Lib.hid (fun W (hb : Below w1.heap.size w1 W) => few19_any words mx pl _ kA picks.length kc W (HPV.out W hb))
  have HRN := Lib.hid (fun (h : mayP words mx pl = false) v W (hb : Below w1.heap.size w1 W) => run_no words mx pl _ v W (HPV.out W hb) h)
  have HRY := Lib.hid (fun (wn : Nat) (hw : words = (wn : Int)) (h : mayP words mx pl = true) v (l : List Int) (hl : l.length ≤ 900) W (hb : Below w1.heap.size w1 W) (hv : Sl W 1 v l.length (l.flatMap encI)) => (show Calls Try.prog 12 #[planV words mx (.slice A pl.length c), v] W (RunPost W (runM wn mx pl l)) from by subst hw; exact run_yes wn mx pl _ v l W (HPV.out W hb) hv h hl))
  have HW1 := Lib.hid hw1
  obtain ⟨n, hn⟩ : ∃ n, n = pl.length := ⟨_, rfl⟩
  obtain ⟨np, hnp⟩ : ∃ n, n = picks.length := ⟨_, rfl⟩
  have HN := Lib.hid hn
  have HNP := Lib.hid hnp
  have HOK := Lib.hid hok
  have HWW := Lib.hid (And.intro ww wm)
  rw [← hn] at HP HRN HRY HW1 HF
  rw [← hnp] at HF
  rw [← hn, ← hnp]
  clear kP bP hw1 hpl hkv hn hnp hok ww wm
  simp only [planV] at HF HRN HRY ⊢
  go_enter Try.func5, Try.ntmps5
  go_upto_region 1 with fail
  rw [HW1.out]
  go_wp2_with fail
  refine (awake_any _).mono ?_
  rintro e w2 ⟨rfl, hb2⟩
  have HB2 := Lib.hid hb2
  obtain ⟨p0, p1, p2⟩ := HP.out _ hb2
  clear hb2
  go_wp2_with fail
  refine (HF.out _ HB2.out).mono ?_
  rintro e w3 ⟨fb, rfl, hfew, hb3⟩
  have HB3 := Lib.hid (HB2.out.trans (hb3.mono HB2.out.size))
  clear p0 p1 p2 hb3
  cases fb with
  | false =>
    clear hfew
    go_wp2_with fail
    go_ret
    exact ⟨rfl, HB1.out.trans (HB3.out.mono HB1.out.size)⟩
  | true =>
  have hf := hfew rfl
  have HFW := Lib.hid hf
  clear hfew hf
  obtain ⟨p0, p1, p2⟩ := HP.out _ HB3.out
  cases hmay : mayP words mx pl with
  | false =>
    go_wp2_with fail
    refine (HRN.out hmay _ _ HB3.out).mono ?_
    rintro e w4 ⟨rfl, hb4⟩
    have HB4 := Lib.hid (HB3.out.trans (hb4.mono HB3.out.size))
    clear p0 p1 p2 hb4
    go_wp2_with fail
    go_ret
    exact ⟨rfl, HB1.out.trans ((HB4.out.alloc HB4.out.size _).mono HB1.out.size)⟩
  | true =>
  obtain ⟨wn, hwn, hPO⟩ := planOk_of hmay
  have HPO := Lib.hid hPO
  have HWN := Lib.hid hwn
  have HMAY := Lib.hid hmay
  clear hwn hPO hmay
  go_wp2_with fail
  refine (HRY.out wn HWN.out HMAY.out (.slice kA np kc) picks (by have := HFW.out.2; have := HNP.out; omega) _ HB3.out (by have := HKV.out _ HB3.out; rw [← HNP.out] at this ⊢; exact this)).mono ?_
  rintro e w4 ⟨a, m, rfl, hm, her, hb4⟩
  have HB4 := Lib.hid (HB3.out.trans (hb4.mono HB3.out.size))
  have HER := Lib.hid her
  have HRG := Lib.hid (good_run HPO.out picks)
  have HGO := Lib.hid (show Good wn pl m from good_er (by rw [her]; exact good_er2 HRG.out.1))
  have HTM := Lib.hid (show m.time = (picks.length : Int) from by have e1 : m.er.time = m.time := rfl; have e2 : (runM wn mx pl picks).er.time = (runM wn mx pl picks).time := rfl; rw [← e1, her, e2]; exact HRG.out.2)
  clear p0 p1 p2 hb4 her
  have kM := Blk.new_ w4 34 (memCells a m).toArray _ rfl
  obtain ⟨w5, hw5⟩ : ∃ z, w4.alloc (.cells (memCells a m).toArray 34) = z := ⟨_, rfl⟩
  have HM := Lib.hid (hm.below (show Below w4.heap.size w4 w5 from hw5 ▸ (Below.refl _ _).alloc (Nat.le_refl _) _))
  have HB5 := Lib.hid (show Below w1.heap.size w1 w5 from hw5 ▸ HB4.out.alloc HB4.out.size _)
  rw [hw5] at kM
  have HKM := Lib.hid kM
  have HG := Lib.hid (fun W (hb : Below w5.heap.size w5 W) => (show W.cell? ⟨w4.heap.size, 0, none⟩ = some (.slice (some ⟨a.gW, 0, none⟩) m.W.length a.cW) ∧ W.cell? ⟨w4.heap.size, 1, none⟩ = some (.int .i64 m.now) ∧ W.cell? ⟨w4.heap.size, 2, none⟩ = some (.int .i64 m.mx) ∧ W.cell? ⟨w4.heap.size, 3, none⟩ = some (.slice a.lA m.L.length a.lc) ∧ W.cell? ⟨w4.heap.size, 4, none⟩ = some (.slice (some ⟨a.gT, 0, none⟩) m.T.length a.cT) ∧ W.cell? ⟨w4.heap.size, 5, none⟩ = some (.slice a.hA m.H.length a.hc) ∧ W.cell? ⟨w4.heap.size, 6, none⟩ = some (.int .i64 m.time) from
    ⟨by rw [(kM.keep hb).cell]; rfl, by rw [(kM.keep hb).cell]; rfl, by rw [(kM.keep hb).cell]; rfl, by rw [(kM.keep hb).cell]; rfl, by rw [(kM.keep hb).cell]; rfl, by rw [(kM.keep hb).cell]; rfl, by rw [(kM.keep hb).cell]; rfl⟩))
  have HW5 := Lib.hid hw5
  clear hm kM hw5
  simp only [memCells] at HW5 ⊢
  go_upto_region 6 with fail
  rw [HW5.out]
  have hTn : m.T.length = n := by rw [HGO.out.T, HN.out]
  obtain ⟨m0, m1, m2, m3, m4, m5, m6⟩ := HG.out _ (Below.refl _ _)
  by_cases hw0 : who < 0
  · go_wp2_with fail
    go_ret
    exact ⟨rfl, HB1.out.trans (HB5.out.mono HB1.out.size)⟩
  by_cases hw1 : (n : Int) ≤ who
  · rw [hTn] at m4
    go_wp2_with fail
    go_ret
    exact ⟨rfl, HB1.out.trans (HB5.out.mono HB1.out.size)⟩
  obtain ⟨k, rfl⟩ : ∃ k : Nat, who = (k : Int) := ⟨who.toNat, by omega⟩
  have hkn : k < n := by omega
  have hkT : k < m.T.length := by omega
  obtain ⟨t, ht⟩ : ∃ t, m.T[k]? = some t := ⟨_, List.getElem?_eq_getElem hkT⟩
  obtain ⟨sf, hsf, htt⟩ := try_er (try_run HPO.out picks) HER.out k t ht
  have HSF := Lib.hid hsf
  have HTT := Lib.hid htt
  have HTK := Lib.hid ht
  have HH := Lib.hid (fun (i : Nat) (hi : i < m.H.length) => Sl.pos encRx encRx_len HM.out.H (by omega))
  have HT1 := Lib.hid (Sl.pos encTx encTx_len HM.out.T (by omega))
  obtain ⟨nh, hnh⟩ : ∃ n, n = m.H.length := ⟨_, rfl⟩
  have HNH := Lib.hid hnh
  have hnh9 : nh ≤ 150 := by have := HGO.out.h; have := HTM.out; have := HFW.out.2; have := HNP.out; omega
  rw [← hnh] at HG
  rw [hTn] at HG m4
  rw [← hnh] at m5
  have hwn : ¬ n ≤ k := by omega
  clear hnh hsf htt ht hkT hTn
  go_wp2_with fail
  clear m0 m1 m2 m3 m4 m5 m6
  go_loopg [11, 12, 13, 14, 15] nh (fun gg s11 s12 s13 s14 s15 wr => ∃ (i : Nat) (a0 b0 c0 : Int), i ≤ nh ∧ nh - i ≤ gg ∧ s11 = .int .i64 a0 ∧ s12 = .int .i64 b0 ∧ s13 = .int .i64 c0 ∧ s14 = .int .i64 i ∧ 0 ≤ a0 ∧ a0 ≤ (i : Int) ∧ 1 ≤ b0 ∧ b0 ≤ (i : Int) + 1 ∧ Hid (triesF (k : Int) (m.H.take i) (0, 1, -1) = some (a0, b0, c0) ∧ Below w5.heap.size w5 wr))
  case atStart => exact ⟨0, 0, 1, -1, by omega, by omega, rfl, rfl, rfl, rfl, by omega, by omega, by omega, by omega, (show Hid _ from ⟨rfl, Below.refl _ _⟩)⟩
  case round =>
    obtain ⟨i, a0, b0, c0, hi, hg, rfl, rfl, rfl, rfl, ha0, ha1, hb0, hb1, HI⟩ := hrel
    have BW := Lib.hid HI.out.2
    obtain ⟨m0, m1, m2, m3, m4, m5, m6⟩ := HG.out _ BW.out
    by_cases hlt : i < nh
    · have hltz : (i : Int) < (nh : Int) := by omega
      have hi0 : (0 : Int) ≤ (i : Int) := by omega
      have hil : i < m.H.length := by rw [← HNH.out]; exact hlt
      obtain ⟨bh, oh, eh, hbh, hch⟩ := HH.out i hil
      have l1 := hch wr BW.out i hil
      have hx := List.getElem?_eq_getElem hil
      generalize m.H[i] = x at *
      have x0 := l1 0 _ rfl
      have x1 := l1 1 _ rfl
      have x2 := l1 2 _ rfl
      have x3 := l1 3 _ rfl
      have x4 := l1 4 _ rfl
      have x5 := l1 5 _ rfl
      have x6 := l1 6 _ rfl
      have x7 := l1 7 _ rfl
      have x8 := l1 8 _ rfl
      have x9 := l1 9 _ rfl
      simp only [Nat.add_zero] at x0
      have hat := tries_at HSF.out hx HI.out.1
      have HAT := Lib.hid hat
      rw [eh] at m5
      clear l1 hch hil hx eh hat
      have kX := Blk.new_ wr 50 #[.int .i64 x.who, .int .i64 x.tx, .int .i64 x.try_, .int .i64 x.en, .int .i64 x.rv, .int .i64 x.wv, .slice x.rA x.R.length x.rc, .slice x.wA x.W.length x.wc, .int .i64 x.fr, .int .i64 x.to_] _ rfl
      have HBX := Lib.hid (BW.out.alloc BW.out.size (.cells #[.int .i64 x.who, .int .i64 x.tx, .int .i64 x.try_, .int .i64 x.en, .int .i64 x.rv, .int .i64 x.wv, .slice x.rA x.R.length x.rc, .slice x.wA x.W.length x.wc, .int .i64 x.fr, .int .i64 x.to_] 50))
      obtain ⟨wx, hwx⟩ : ∃ z, wr.alloc (.cells #[.int .i64 x.who, .int .i64 x.tx, .int .i64 x.try_, .int .i64 x.en, .int .i64 x.rv, .int .i64 x.wv, .slice x.rA x.R.length x.rc, .slice x.wA x.W.length x.wc, .int .i64 x.fr, .int .i64 x.to_] 50) = z := ⟨_, rfl⟩
      rw [hwx] at kX HBX
      have HWX := Lib.hid hwx
      obtain ⟨gx, hgx⟩ : ∃ z, wr.heap.size = z := ⟨_, rfl⟩
      rw [hgx] at kX
      have c0' : wx.cell? ⟨gx, 0, none⟩ = some (.int .i64 x.who) := by rw [kX.cell]; rfl
      have c1' : wx.cell? ⟨gx, 1, none⟩ = some (.int .i64 x.tx) := by rw [kX.cell]; rfl
      have c2' : wx.cell? ⟨gx, 2, none⟩ = some (.int .i64 x.try_) := by rw [kX.cell]; rfl
      have c3' : wx.cell? ⟨gx, 3, none⟩ = some (.int .i64 x.en) := by rw [kX.cell]; rfl
      have c8' : wx.cell? ⟨gx, 8, none⟩ = some (.int .i64 x.fr) := by rw [kX.cell]; rfl
      have c9' : wx.cell? ⟨gx, 9, none⟩ = some (.int .i64 x.to_) := by rw [kX.cell]; rfl
      have HGX := Lib.hid hgx
      clear kX hwx hgx
      go_upto_region 15 with fail
      rw [HWX.out, HGX.out]
      clear x0 x1 x2 x3 x4 x5 x6 x7 x8 x9 m0 m1 m2 m3 m4 m5 m6
      rcases HAT.out with ⟨hne, htr⟩ | ⟨he, e1, e2, h3, h4, h5, hor⟩
      · have hneb : (x.who != (k : Int)) = true := by simpa using hne
        have HTR := Lib.hid htr
        clear htr
        go_wp2_with fail
        go_roundg (nh - (i + 1))
        case measure => omega
        case rel => exact ⟨i + 1, a0, b0, c0, by omega, by omega, by go_num, by go_num, by go_num, by go_num, by omega, by omega, by omega, by omega, (show Hid _ from ⟨HTR.out, HBX.out⟩)⟩
      · obtain ⟨xf, hxf⟩ : ∃ z, z = x.fr := ⟨_, rfl⟩
        obtain ⟨xo, hxo⟩ : ∃ z, z = x.to_ := ⟨_, rfl⟩
        obtain ⟨xe, hxe⟩ : ∃ z, z = x.en := ⟨_, rfl⟩
        rw [he] at c0'
        rw [e1] at c1'
        rw [e2] at c2'
        rw [← hxf] at c8' h3 h4
        rw [← hxo] at c9' h4 hor
        rw [← hxe] at c3' hor
        have g1 : ¬ xf ≤ c0 := by omega
        have g2 : ¬ xo < xf := by omega
        have g3 : ¬ (3 : Int) < b0 := by omega
        clear he e1 e2 hxf hxo hxe
        rcases hor with ⟨hen, htr⟩ | ⟨hen, hb3, htr⟩ | ⟨hen, hb3, htr⟩
        · have henb : (xe != 1) = true := by simpa using hen
          have HTR := Lib.hid htr
          clear htr hen
          go_wp2_with fail
          go_roundg (nh - (i + 1))
          case measure => omega
          case rel => exact ⟨i + 1, a0 + 1, 1, xo, by omega, by omega, by go_num, by go_num, by go_num, by go_num, by omega, by omega, by omega, by omega, (show Hid _ from ⟨HTR.out, HBX.out⟩)⟩
        · subst hen hb3
          have HTR := Lib.hid htr
          clear htr
          go_wp2_with fail
          go_roundg (nh - (i + 1))
          case measure => omega
          case rel => exact ⟨i + 1, a0 + 1, 1, xo, by omega, by omega, by go_num, by go_num, by go_num, by go_num, by omega, by omega, by omega, by omega, (show Hid _ from ⟨HTR.out, HBX.out⟩)⟩
        · subst hen
          have hb3b : (b0 == 3) = false := by simpa using hb3
          have HTR := Lib.hid htr
          clear htr
          go_wp2_with fail
          go_roundg (nh - (i + 1))
          case measure => omega
          case rel => exact ⟨i + 1, a0, b0 + 1, xo, by omega, by omega, by go_num, by go_num, by go_num, by go_num, by omega, by omega, by omega, by omega, (show Hid _ from ⟨HTR.out, HBX.out⟩)⟩
    · obtain rfl : nh = i := by omega
      have hfin : sf = (a0, b0, c0) := by
        have h1 := HSF.out
        have h2 := HI.out.1
        rw [List.take_of_length_le (by rw [← HNH.out]; exact Nat.le_refl _), h1] at h2
        injection h2
      have HTT2 := Lib.hid (show TryT t (a0, b0, c0) m.time from hfin ▸ HTT.out)
      obtain ⟨b2, o2, e2, hb2, hT2⟩ := HT1.out
      injection e2 with e2
      injection e2 with e2b e2o e2s
      subst e2b e2o
      obtain ⟨hkl, hkt⟩ := List.getElem?_eq_some_iff.1 HTK.out
      have l1 := hT2 wr BW.out k hkl
      rw [hkt] at l1
      have x0 := l1 0 _ rfl
      have x1 := l1 1 _ rfl
      have x2 := l1 2 _ rfl
      have x3 := l1 3 _ rfl
      have x4 := l1 4 _ rfl
      have x5 := l1 5 _ rfl
      have x6 := l1 6 _ rfl
      have x7 := l1 7 _ rfl
      have x8 := l1 8 _ rfl
      have x9 := l1 9 _ rfl
      have x10 := l1 10 _ rfl
      simp only [Nat.add_zero, Nat.zero_add] at x0 x1 x2 x3 x4 x5 x6 x7 x8 x9 x10
      clear l1 hT2 hkl hkt hfin
      have hkz : (k : Int) < (n : Int) := by omega
      have hk0 : (0 : Int) ≤ (k : Int) := by omega
      have kX := Blk.new_ wr 46 #[.int .i64 t.st, .int .i64 t.tx, .int .i64 t.try_, .int .i64 t.pc, .int .i64 t.rv, .int .i64 t.wv, .int .i64 t.sum, .slice t.rA t.R.length t.rc, .slice t.wA t.W.length t.wc, .int .i64 t.i, .int .i64 t.fr] _ rfl
      have HBX := Lib.hid (BW.out.alloc BW.out.size (.cells #[.int .i64 t.st, .int .i64 t.tx, .int .i64 t.try_, .int .i64 t.pc, .int .i64 t.rv, .int .i64 t.wv, .int .i64 t.sum, .slice t.rA t.R.length t.rc, .slice t.wA t.W.length t.wc, .int .i64 t.i, .int .i64 t.fr] 46))
      obtain ⟨wx, hwx⟩ : ∃ z, wr.alloc (.cells #[.int .i64 t.st, .int .i64 t.tx, .int .i64 t.try_, .int .i64 t.pc, .int .i64 t.rv, .int .i64 t.wv, .int .i64 t.sum, .slice t.rA t.R.length t.rc, .slice t.wA t.W.length t.wc, .int .i64 t.i, .int .i64 t.fr] 46) = z := ⟨_, rfl⟩
      rw [hwx] at kX HBX
      have HWX := Lib.hid hwx
      obtain ⟨gx, hgx⟩ : ∃ z, wr.heap.size = z := ⟨_, rfl⟩
      rw [hgx] at kX
      have c0' : wx.cell? ⟨gx, 0, none⟩ = some (.int .i64 t.st) := by rw [kX.cell]; rfl
      have c1' : wx.cell? ⟨gx, 1, none⟩ = some (.int .i64 t.tx) := by rw [kX.cell]; rfl
      have c2' : wx.cell? ⟨gx, 2, none⟩ = some (.int .i64 t.try_) := by rw [kX.cell]; rfl
      have HGX := Lib.hid hgx
      clear kX hwx hgx
      go_upto_region 24 with fail
      rw [HWX.out, HGX.out]
      clear x0 x1 x2 x3 x4 x5 x6 x7 x8 x9 x10 m0 m1 m2 m3 m4 m5 m6
      have hz := HTT2.out
      unfold TryT at hz
      have hwr1 : IntKind.i64.wrap (a0 - 1) = a0 - 1 := by rw [IntKind.wrap_i64]; omega
      have hwr2 : IntKind.i64.wrap (b0 - 1) = b0 - 1 := by rw [IntKind.wrap_i64]; omega
      have HFIN := Lib.hid (HB1.out.trans ((HB5.out.trans (HBX.out.mono HB5.out.size)).mono HB1.out.size))
      rcases hz.2 with ⟨z1, z2, z3⟩ | ⟨z1, z2, z3⟩ | ⟨z1, z2, z3, z4, _⟩
      · rw [z1] at c0'
        rw [show t.tx = a0 - 1 from z2] at c1'
        have z3' : b0 = 1 := z3
        subst z3'
        clear hz z1 z2 z3
        go_wp2_with fail
        go_ret
        exact ⟨rfl, HFIN.out⟩
      · rw [z1] at c0'
        rw [show t.tx = a0 from z2] at c1'
        rw [show t.try_ = b0 - 1 from z3] at c2'
        clear hz z1 z2 z3
        go_wp2_with fail
        go_ret
        exact ⟨rfl, HFIN.out⟩
      · rw [show t.tx = a0 from z3] at c1'
        rw [show t.try_ = b0 from z4] at c2'
        obtain ⟨st, hst⟩ : ∃ z, z = t.st := ⟨_, rfl⟩
        rw [← hst] at c0' z1 z2
        have y1 : (st == 5) = false := by simpa using z2
        have y2 : (st == 0) = false := by simpa using z1
        have y3 : (st != 0) = true := by simpa using z1
        clear hz z1 z2 z3 z4 hst
        go_wp2_with fail
        go_ret
        exact ⟨rfl, HFIN.out⟩
end Go.Proofs.Ytngimbfojccikaa

