/- StmReads: printed by st_reads.py. -/
import Derived.Test.YtngimbfojccikaaStLawOrder
import Derived.Test.YtngimbfojccikaaStTry
namespace Go.Proofs.Ytngimbfojccikaa
set_option linter.unusedSimpArgs false
open Go Go.RowKit
set_option linter.unusedVariables false

theorem read_er {m s : Mm} (h : ReadI s) (he : m.er = s.er) : m.now = 0 ∧ (∀ v ∈ m.W, v = 0) ∧ ∀ x ∈ m.H, x.en = 0 ∧ x.try_ = 1 ∧ x.W = [] := by
  refine ⟨(show m.er.now = s.er.now by rw [he]).trans h.n, fun v hv => h.w v ?_, fun x hx => ?_⟩
  · have : m.W = s.W := show m.er.W = s.er.W by rw [he]
    rw [← this]; exact hv
  · obtain ⟨i, hi, rfl⟩ := List.getElem_of_mem hx
    obtain ⟨u, hu, e⟩ := memer_H he (List.getElem?_eq_getElem hi)
    have e1 : u.W = m.H[i].W := by have := congrArg Rx.W e; exact this
    have e2 : u.try_ = m.H[i].try_ := by have := congrArg Rx.try_ e; exact this
    have e3 : u.en = m.H[i].en := by have := congrArg Rx.en e; exact this
    have := h.h u (List.mem_of_getElem? hu)
    rw [e1, e2, e3] at this
    exact this
def G3 (l : List Ac) (q : Nat) : Prop := ∀ (i : Nat) a, l[i]? = some a → i < q → a.d = 0
def G2 (txs : List (List Ac)) (q : Nat) : Prop := ∀ (i : Nat) l, txs[i]? = some l → i < q → ∀ a ∈ l, a.d = 0
def G1 (pl : List (List (List Ac))) (q : Nat) : Prop := ∀ (i : Nat) txs, pl[i]? = some txs → i < q → ∀ l ∈ txs, ∀ a ∈ l, a.d = 0
theorem G3.next {l : List Ac} {q : Nat} {a : Ac} (h : G3 l q) (ha : l[q]? = some a) (h0 : a.d = 0) : G3 l (q + 1) := by
  intro i b hb hi
  by_cases e : i = q
  · subst e; rw [ha] at hb; injection hb with hb; subst hb; exact h0
  · exact h i b hb (by omega)
theorem G3.all {l : List Ac} (h : G3 l l.length) : ∀ a ∈ l, a.d = 0 := by
  intro a ha
  obtain ⟨i, hi, rfl⟩ := List.getElem_of_mem ha
  exact h i _ (List.getElem?_eq_getElem hi) hi
theorem G2.next {l : List (List Ac)} {q : Nat} {a : List Ac} (h : G2 l q) (ha : l[q]? = some a) (h0 : ∀ b ∈ a, b.d = 0) : G2 l (q + 1) := by
  intro i b hb hi
  by_cases e : i = q
  · subst e; rw [ha] at hb; injection hb with hb; subst hb; exact h0
  · exact h i b hb (by omega)
theorem G2.all {l : List (List Ac)} (h : G2 l l.length) : ∀ a ∈ l, ∀ b ∈ a, b.d = 0 := by
  intro a ha
  obtain ⟨i, hi, rfl⟩ := List.getElem_of_mem ha
  exact h i _ (List.getElem?_eq_getElem hi) hi
theorem G1.next {l : List (List (List Ac))} {q : Nat} {a : List (List Ac)} (h : G1 l q) (ha : l[q]? = some a) (h0 : ∀ b ∈ a, ∀ c ∈ b, c.d = 0) : G1 l (q + 1) := by
  intro i b hb hi
  by_cases e : i = q
  · subst e; rw [ha] at hb; injection hb with hb; subst hb; exact h0
  · exact h i b hb (by omega)
theorem G1.all {l : List (List (List Ac))} (h : G1 l l.length) : ∀ a ∈ l, ∀ b ∈ a, ∀ c ∈ b, c.d = 0 := by
  intro a ha
  obtain ⟨i, hi, rfl⟩ := List.getElem_of_mem ha
  exact h i _ (List.getElem?_eq_getElem hi) hi

set_option maxRecDepth 100000 in
set_option maxHeartbeats 16000000 in
theorem stmReads_walk (w : World) (words mx : Int) (pv : Value) (pl : List (List (List Ac))) (hpl : PlV w pv pl) (ww : okI words) (wm : okI mx) (kv : Value) (picks : List Int) (hkv : Sl w 1 kv picks.length (picks.flatMap encI)) (hok : ∀ q ∈ picks, okI q) :
    Calls Try.prog 7 #[planV words mx pv, kv] w fun e w' => e = .returned (.bool true) ∧ Below w.heap.size w w' := by
  obtain ⟨A, c, rfl, _, _⟩ := hpl.form
  obtain ⟨kA, kc, rfl, _, _⟩ := hkv.form
  have kP := Blk.new_ w 24 #[.int .i64 words, .int .i64 mx, .slice A pl.length c] _ rfl
  have bP : Below w.heap.size w (w.alloc (.cells #[.int .i64 words, .int .i64 mx, .slice A pl.length c] 24)) := (Below.refl _ w).alloc (Nat.le_refl _) _
  obtain ⟨w1, hw1⟩ : ∃ z, w.alloc (.cells #[.int .i64 words, .int .i64 mx, .slice A pl.length c] 24) = z := ⟨_, rfl⟩
  rw [hw1] at kP bP
  have HB1 := Lib.hid bP
  have HP := Lib.hid (fun W (hb : Below w1.heap.size w1 W) => (show W.cell? ⟨w.heap.size, 0, none⟩ = some (.int .i64 words) ∧ W.cell? ⟨w.heap.size, 1, none⟩ = some (.int .i64 mx) ∧ W.cell? ⟨w.heap.size, 2, none⟩ = some (.slice A pl.length c) from ⟨by rw [(kP.keep hb).cell]; rfl, by rw [(kP.keep hb).cell]; rfl, by rw [(kP.keep hb).cell]; rfl⟩))
  have HPV := Lib.hid (fun W (hb : Below w1.heap.size w1 W) => (hpl.below bP).below hb)
  have HKV := Lib.hid (fun W (hb : Below w1.heap.size w1 W) => (hkv.below bP).below hb)
  have HF := Lib.hid (fun W (hb : Below w1.heap.size w1 W) => few19_any words mx pl _ kA picks.length kc W (HPV.out W hb))
  have HRN := Lib.hid (fun (h : mayP words mx pl = false) v W (hb : Below w1.heap.size w1 W) => run_no words mx pl _ v W (HPV.out W hb) h)
  have HRY := Lib.hid (fun (wn : Nat) (hw : words = (wn : Int)) (h : mayP words mx pl = true) v (l : List Int) (hl : l.length ≤ 900) W (hb : Below w1.heap.size w1 W) (hv : Sl W 1 v l.length (l.flatMap encI)) => (show Calls Try.prog 12 #[planV words mx (.slice A pl.length c), v] W (RunPost W (runM wn mx pl l)) from by subst hw; exact run_yes wn mx pl _ v l W (HPV.out W hb) hv h hl))
  have HW1 := Lib.hid hw1
  obtain ⟨n, hn⟩ : ∃ n, n = pl.length := ⟨_, rfl⟩
  obtain ⟨np, hnp⟩ : ∃ n, n = picks.length := ⟨_, rfl⟩
  have HN := Lib.hid hn
  have HNP := Lib.hid hnp
  have HOK := Lib.hid hok
  have HWW := Lib.hid (And.intro ww wm)
  rw [← hn] at HP HRN HRY HW1 HF
  rw [← hnp] at HF
  rw [← hn, ← hnp]
  clear kP bP hw1 hpl hkv hn hnp hok ww wm
  simp only [planV] at HF HRN HRY ⊢
  go_enter Try.func7, Try.ntmps7
  go_upto_region 1 with fail
  rw [HW1.out]
  go_wp2_with fail
  refine (awake_any _).mono ?_
  rintro e w2 ⟨rfl, hb2⟩
  have HB2 := Lib.hid hb2
  obtain ⟨p0, p1, p2⟩ := HP.out _ hb2
  clear hb2
  go_wp2_with fail
  refine (HF.out _ HB2.out).mono ?_
  rintro e w3 ⟨fb, rfl, hfew, hb3⟩
  have HB3 := Lib.hid (HB2.out.trans (hb3.mono HB2.out.size))
  clear p0 p1 p2 hb3
  cases fb with
  | false =>
    clear hfew
    go_wp2_with fail
    go_ret
    exact ⟨rfl, HB1.out.trans (HB3.out.mono HB1.out.size)⟩
  | true =>
  have hf := hfew rfl
  have HFW := Lib.hid hf
  clear hfew hf
  obtain ⟨p0, p1, p2⟩ := HP.out _ HB3.out
  have HEL := Lib.hid (fun (i : Nat) (txs : List (List Ac)) (h : pl[i]? = some txs) => (HPV.out _ HB3.out).at_ h)
  have hn9 : n ≤ 9223372036854775807 := by have := HFW.out.1; have := HN.out; omega
  go_wp2_with fail
  go_loopg [7, 8, 9] n (fun gg s7 s8 s9 wr => ∃ i : Nat, i ≤ n ∧ n - i ≤ gg ∧ s7 = .int .i64 i ∧ w3 = wr ∧ Hid (G1 pl i))
  case atStart => exact ⟨0, by omega, by omega, rfl, rfl, fun i a _ hi => absurd hi (Nat.not_lt_zero _)⟩
  case round =>
    obtain ⟨i, hi, hg, rfl, rfl, A1⟩ := hrel
    by_cases hlt : i < n
    · have hltz : (i : Int) < (n : Int) := by omega
      have hi0 : (0 : Int) ≤ (i : Int) := by omega
      obtain ⟨txs, htx⟩ : ∃ txs, pl[i]? = some txs := ⟨_, List.getElem?_eq_getElem (by rw [← HN.out]; exact hlt)⟩
      obtain ⟨b1, o1, c1, X1, d1, e1, hb1, _, hc1, hT⟩ := HEL.out i txs htx
      rw [← HN.out] at e1
      injection e1 with e1 _ e1c
      rw [e1] at p2
      obtain ⟨nt, hm⟩ : ∃ m, m = txs.length := ⟨_, rfl⟩
      have HM2 := Lib.hid hm
      have HE2 := Lib.hid (fun (i : Nat) (l : List Ac) (h : txs[i]? = some l) => hT.at_ h)
      have HTX := Lib.hid htx
      have hmb : nt ≤ 9223372036854775807 := by obtain ⟨avs, h5, _⟩ := hT; obtain ⟨_, _, _, h6, h7⟩ := h5.form; unfold maxLen at h7; omega
      rw [← hm] at hc1
      clear hT htx hm e1 e1c
      go_wp2_with fail
      go_loopg [8, 9] nt (fun gg s8 s9 wr => ∃ j : Nat, j ≤ nt ∧ nt - j ≤ gg ∧ s8 = .int .i64 j ∧ w3 = wr ∧ Hid (G2 txs j))
      case atStart => exact ⟨0, by omega, by omega, by go_num, rfl, fun i a _ hi => absurd hi (Nat.not_lt_zero _)⟩
      case round =>
        obtain ⟨j, hj, hg2, rfl, rfl, A2⟩ := hrel
        by_cases hlt2 : j < nt
        · have hltz2 : (j : Int) < (nt : Int) := by omega
          have hj0 : (0 : Int) ≤ (j : Int) := by omega
          obtain ⟨l, hl⟩ : ∃ l, txs[j]? = some l := ⟨_, List.getElem?_eq_getElem (by rw [← HM2.out]; exact hlt2)⟩
          obtain ⟨b3, o3, c3, X4, d4, e3, hb3, _, hc3, hL⟩ := HE2.out j l hl
          rw [← HM2.out] at e3
          injection e3 with e3 _ e3c
          rw [e3] at hc1
          obtain ⟨nq, hq⟩ : ∃ m, m = l.length := ⟨_, rfl⟩
          have HQ := Lib.hid hq
          have HLT := Lib.hid hl
          have HLV := Lib.hid hL
          have hqb : nq ≤ 9223372036854775807 := by obtain ⟨_, _, _, h6, h7⟩ := Sl.form hL; unfold maxLen at h7; omega
          rw [← hq] at hc3
          clear hL hl hq e3 e3c
          go_wp2_with fail
          go_loopg [9] nq (fun gg s9 wr => ∃ q : Nat, q ≤ nq ∧ nq - q ≤ gg ∧ s9 = .int .i64 q ∧ w3 = wr ∧ Hid (G3 l q))
          case atStart => exact ⟨0, by omega, by omega, by go_num, rfl, fun i a _ hi => absurd hi (Nat.not_lt_zero _)⟩
          case round =>
            obtain ⟨q, hq, hg3, rfl, rfl, A3⟩ := hrel
            by_cases hlt3 : q < nq
            · have hltz3 : (q : Int) < (nq : Int) := by omega
              have hq0 : (0 : Int) ≤ (q : Int) := by omega
              have hql : q < l.length := by rw [← HQ.out]; exact hlt3
              obtain ⟨b5, o5, e5, hb5, hc5⟩ := Sl.pos encAc encAc_len HLV.out (by omega)
              have y0 := hc5 _ (Below.refl _ _) q hql 0 _ rfl
              have hx := List.getElem?_eq_getElem hql
              generalize l[q] = x at *
              have HXQ := Lib.hid hx
              rw [e5] at hc3
              simp only [Nat.add_zero] at y0
              obtain ⟨xd, hxd⟩ : ∃ z, z = x.d := ⟨_, rfl⟩
              have HXD := Lib.hid hxd
              rw [← hxd] at y0
              clear hx hc5 e5 hxd
              by_cases h0 : xd = 0
              · have A4 : Hid (G3 l (q + 1)) := A3.out.next HXQ.out (by rw [← HXD.out]; exact h0)
                subst h0
                go_wp2_with fail
                go_roundg (nq - (q + 1))
                case measure => omega
                case rel => exact ⟨q + 1, by omega, by omega, by go_num, rfl, A4⟩
              · have h0b : (xd != 0) = true := by simpa using h0
                go_wp2_with fail
                go_ret
                exact ⟨rfl, HB1.out.trans (HB3.out.mono HB1.out.size)⟩
            · obtain rfl : nq = q := by omega
              have hltz3 : ¬ (nq : Int) < (nq : Int) := by omega
              have A5 : Hid (G2 txs (j + 1)) := A2.out.next HLT.out (by have := A3.out; rw [HQ.out] at this; exact this.all)
              go_wp2_with fail
              go_roundg (nt - (j + 1))
              case measure => omega
              case rel => exact ⟨j + 1, by omega, by omega, by go_num, rfl, A5⟩
        · obtain rfl : nt = j := by omega
          have hltz2 : ¬ (nt : Int) < (nt : Int) := by omega
          have A5 : Hid (G1 pl (i + 1)) := A1.out.next HTX.out (by have := A2.out; rw [HM2.out] at this; exact this.all)
          go_wp2_with fail
          go_roundg (n - (i + 1))
          case measure => omega
          case rel => exact ⟨i + 1, by omega, by omega, by go_num, rfl, A5⟩
    · obtain rfl : n = i := by omega
      have hltz : ¬ (n : Int) < (n : Int) := by omega
      have HALL := Lib.hid (show ∀ a ∈ pl, ∀ b ∈ a, ∀ c ∈ b, c.d = 0 from by have := A1.out; rw [HN.out] at this; exact this.all)
      clear A1 HEL hn9
      cases hmay : mayP words mx pl with
      | false =>
        go_wp2_with fail
        refine (HRN.out hmay _ _ HB3.out).mono ?_
        rintro e w4 ⟨rfl, hb4⟩
        have HB4 := Lib.hid (HB3.out.trans (hb4.mono HB3.out.size))
        clear p0 p1 p2 hb4
        go_wp2_with fail
        go_ret
        exact ⟨rfl, HB1.out.trans ((HB4.out.alloc HB4.out.size _).mono HB1.out.size)⟩
      | true =>
      obtain ⟨wn, hwn, hPO⟩ := planOk_of hmay
      have HPO := Lib.hid hPO
      have HWN := Lib.hid hwn
      have HMAY := Lib.hid hmay
      clear hwn hPO hmay
      go_wp2_with fail
      refine (HRY.out wn HWN.out HMAY.out (.slice kA np kc) picks (by have := HFW.out.2; have := HNP.out; omega) _ HB3.out (by have := HKV.out _ HB3.out; rw [← HNP.out] at this ⊢; exact this)).mono ?_
      rintro e w4 ⟨a, m, rfl, hm, her, hb4⟩
      have HB4 := Lib.hid (HB3.out.trans (hb4.mono HB3.out.size))
      have HER := Lib.hid her
      have HRG := Lib.hid (good_run HPO.out picks)
      have HGO := Lib.hid (show Good wn pl m from good_er (by rw [her]; exact good_er2 HRG.out.1))
      have HTM := Lib.hid (show m.time = (picks.length : Int) from by have e1 : m.er.time = m.time := rfl; have e2 : (runM wn mx pl picks).er.time = (runM wn mx pl picks).time := rfl; rw [← e1, her, e2]; exact HRG.out.2)
      clear p0 p1 p2 hb4 her
      have kM := Blk.new_ w4 34 (memCells a m).toArray _ rfl
      obtain ⟨w5, hw5⟩ : ∃ z, w4.alloc (.cells (memCells a m).toArray 34) = z := ⟨_, rfl⟩
      have HM := Lib.hid (hm.below (show Below w4.heap.size w4 w5 from hw5 ▸ (Below.refl _ _).alloc (Nat.le_refl _) _))
      have HB5 := Lib.hid (show Below w1.heap.size w1 w5 from hw5 ▸ HB4.out.alloc HB4.out.size _)
      rw [hw5] at kM
      have HKM := Lib.hid kM
      have HG := Lib.hid (fun W (hb : Below w5.heap.size w5 W) => (show W.cell? ⟨w4.heap.size, 0, none⟩ = some (.slice (some ⟨a.gW, 0, none⟩) m.W.length a.cW) ∧ W.cell? ⟨w4.heap.size, 1, none⟩ = some (.int .i64 m.now) ∧ W.cell? ⟨w4.heap.size, 2, none⟩ = some (.int .i64 m.mx) ∧ W.cell? ⟨w4.heap.size, 3, none⟩ = some (.slice a.lA m.L.length a.lc) ∧ W.cell? ⟨w4.heap.size, 4, none⟩ = some (.slice (some ⟨a.gT, 0, none⟩) m.T.length a.cT) ∧ W.cell? ⟨w4.heap.size, 5, none⟩ = some (.slice a.hA m.H.length a.hc) ∧ W.cell? ⟨w4.heap.size, 6, none⟩ = some (.int .i64 m.time) from
        ⟨by rw [(kM.keep hb).cell]; rfl, by rw [(kM.keep hb).cell]; rfl, by rw [(kM.keep hb).cell]; rfl, by rw [(kM.keep hb).cell]; rfl, by rw [(kM.keep hb).cell]; rfl, by rw [(kM.keep hb).cell]; rfl, by rw [(kM.keep hb).cell]; rfl⟩))
      have HW5 := Lib.hid hw5
      clear hm kM hw5
      simp only [memCells] at HW5 ⊢
      go_upto_region 17 with fail
      rw [HW5.out]
      have HRE := Lib.hid (read_er (read_run HPO.out HALL.out picks) HER.out)
      have HH := Lib.hid (fun (i : Nat) (hi : i < m.H.length) => Sl.pos encRx encRx_len HM.out.H (by omega))
      have HV := Lib.hid (fun (i : Nat) (hi : i < m.W.length) W (hb : Below w5.heap.size w5 W) => (show W.cell? ⟨a.gW, i, none⟩ = some (.int .i64 0) from by
        obtain ⟨b2, o2, e2, hb2, hT2⟩ := Sl.pos encI encI_len HM.out.W (by omega)
        injection e2 with e2
        injection e2 with e2b e2o e2s
        subst e2b e2o
        have := hT2 W hb i hi 0 _ rfl
        rw [HRE.out.2.1 _ (List.getElem_mem hi)] at this
        simpa using this))
      have hWn : m.W.length = wn := HGO.out.W
      have hw8 : wn ≤ 8 := HPO.out.w8
      obtain ⟨nh, hnh⟩ : ∃ n, n = m.H.length := ⟨_, rfl⟩
      have HNH := Lib.hid hnh
      have hnh9 : nh ≤ 150 := by have := HGO.out.h; have := HTM.out; have := HFW.out.2; have := HNP.out; omega
      rw [← hnh] at HG
      rw [hWn] at HG HV
      rw [HRE.out.1] at HG
      clear hnh hWn
      go_wp2_with fail
      go_loopg [12] wn (fun gg s12 wr => ∃ i : Nat, i ≤ wn ∧ wn - i ≤ gg ∧ s12 = .int .i64 i ∧ Hid (Below w5.heap.size w5 wr))
      case atStart => exact ⟨0, by omega, by omega, rfl, Below.refl _ _⟩
      case round =>
        obtain ⟨i, hi, hg, rfl, BW⟩ := hrel
        obtain ⟨m0, m1, m2, m3, m4, m5, m6⟩ := HG.out _ BW.out
        by_cases hlt : i < wn
        · have hltz : (i : Int) < (wn : Int) := by omega
          have hi0 : (0 : Int) ≤ (i : Int) := by omega
          have x0 := HV.out i hlt _ BW.out
          go_wp2_with fail
          go_roundg (wn - (i + 1))
          case measure => omega
          case rel => exact ⟨i + 1, by omega, by omega, by go_num, BW⟩
        · obtain rfl : wn = i := by omega
          have hltz : ¬ (wn : Int) < (wn : Int) := by omega
          go_wp2_with fail
          go_loopg [13] nh (fun gg s13 wr2 => ∃ i : Nat, i ≤ nh ∧ nh - i ≤ gg ∧ s13 = .int .i64 i ∧ Hid (Below w5.heap.size w5 wr2))
          case atStart => exact ⟨0, by omega, by omega, by go_num, BW⟩
          case round =>
            clear m0 m1 m2 m3 m4 m5 m6
            obtain ⟨i, hi, hg2, rfl, BX⟩ := hrel
            obtain ⟨m0, m1, m2, m3, m4, m5, m6⟩ := HG.out _ BX.out
            by_cases hlt2 : i < nh
            · have hltz2 : (i : Int) < (nh : Int) := by omega
              have hi0 : (0 : Int) ≤ (i : Int) := by omega
              have hil : i < m.H.length := by rw [← HNH.out]; exact hlt2
              obtain ⟨bh, oh, eh, hbh, hch⟩ := HH.out i hil
              have l1 := hch _ BX.out i hil
              have hx := HRE.out.2.2 _ (List.getElem_mem hil)
              generalize m.H[i] = x at *
              have x2 := l1 2 _ rfl
              have x3 := l1 3 _ rfl
              have x7 := l1 7 _ rfl
              rw [eh] at m5
              rw [hx.2.1] at x2
              rw [hx.1] at x3
              rw [hx.2.2] at x7
              simp only [List.length_nil] at x7
              clear l1 hch hil eh hx
              go_wp2_with fail
              go_roundg (nh - (i + 1))
              case measure => omega
              case rel => exact ⟨i + 1, by omega, by omega, by go_num, BX⟩
            · obtain rfl : nh = i := by omega
              have hltz2 : ¬ (nh : Int) < (nh : Int) := by omega
              obtain ⟨p0, p1, p2⟩ := HP.out _ (HB5.out.trans (BX.out.mono HB5.out.size))
              have q1 : ((wn : Int) == words) = true := by rw [HWN.out]; simp
              go_wp2_with fail
              go_ret
              exact ⟨rfl, HB1.out.trans ((HB5.out.trans (BX.out.mono HB5.out.size)).mono HB1.out.size)⟩
end Go.Proofs.Ytngimbfojccikaa

