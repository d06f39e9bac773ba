/- work: an act is done. -/
import Derived.Test.YtngimbfojccikaaStGet2m
namespace Go.Proofs.Ytngimbfojccikaa
set_option linter.unusedSimpArgs false
open Go Go.RowKit
set_option linter.unusedVariables false
set_option maxRecDepth 100000

/-- A slice of acts; of transactions; of threads' transactions. -/
def AcV (w : World) (v : Value) (l : List Ac) : Prop := Sl w 3 v l.length (l.flatMap encAc)
def TxV (w : World) (v : Value) (txs : List (List Ac)) : Prop := ∃ avs, Sl w 1 v txs.length avs ∧ ∀ (i : Nat) (av : Value) (l : List Ac), avs[i]? = some av → txs[i]? = some l → AcV w av l
def PlV (w : World) (v : Value) (pl : List (List (List Ac))) : Prop := ∃ tvs, Sl w 1 v pl.length tvs ∧ ∀ (i : Nat) (tv : Value) (l : List (List Ac)), tvs[i]? = some tv → pl[i]? = some l → TxV w tv l
theorem TxV.below {w w' : World} {v : Value} {l : List (List Ac)} (h : TxV w v l) (hb : Below w.heap.size w w') : TxV w' v l := by
  obtain ⟨avs, h1, h2⟩ := h
  exact ⟨avs, h1.below hb, fun i av l e1 e2 => Sl.below (h2 i av l e1 e2) hb⟩
theorem PlV.below {w w' : World} {v : Value} {l : List (List (List Ac))} (h : PlV w v l) (hb : Below w.heap.size w w') : PlV w' v l := by
  obtain ⟨tvs, h1, h2⟩ := h
  exact ⟨tvs, h1.below hb, fun i tv l e1 e2 => (h2 i tv l e1 e2).below hb⟩
theorem sl1_at {w : World} {v : Value} {n : Nat} {vs : List Value} (h : Sl w 1 v n vs) {k : Nat} (hk : k < n) : ∃ b o c u, v = .slice (some ⟨b, o, none⟩) n c ∧ b < w.heap.size ∧ n ≤ c ∧ c ≤ maxLen ∧ vs[k]? = some u ∧ w.cell? ⟨b, o + k, none⟩ = some u := by
  obtain ⟨hl, ⟨_, h0⟩ | ⟨a, c, rfl, h1, h2, h3⟩⟩ := h
  · omega
  · obtain ⟨hs, hC⟩ := h3 (by omega)
    obtain ⟨b, o, s⟩ := a
    simp only at hs hC
    subst hs
    have hkl : k < vs.length := by omega
    exact ⟨b, o, c, vs[k], rfl, hC.1, h1, h2, List.getElem?_eq_getElem hkl, hC.2 k _ (List.getElem?_eq_getElem hkl)⟩
/-- Where thread k's transactions stand. -/
theorem PlV.at_ {w : World} {v : Value} {pl : List (List (List Ac))} (h : PlV w v pl) {k : Nat} {txs : List (List Ac)} (hk : pl[k]? = some txs) : ∃ b o c A d, v = .slice (some ⟨b, o, none⟩) pl.length c ∧ b < w.heap.size ∧ pl.length ≤ maxLen ∧ w.cell? ⟨b, o + k, none⟩ = some (.slice A txs.length d) ∧ TxV w (.slice A txs.length d) txs := by
  obtain ⟨tvs, h1, h2⟩ := h
  obtain ⟨b, o, c, u, rfl, hb, h3, h4, hu, hc⟩ := sl1_at h1 (List.getElem?_eq_some_iff.1 hk).1
  have ht := h2 k u txs hu hk
  obtain ⟨avs, h5, h6⟩ := id ht
  obtain ⟨A, d, rfl, _, _⟩ := h5.form
  exact ⟨b, o, c, A, d, rfl, hb, by omega, hc, ht⟩
theorem TxV.at_ {w : World} {v : Value} {txs : List (List Ac)} (h : TxV w v txs) {k : Nat} {l : List Ac} (hk : txs[k]? = some l) : ∃ b o c A d, v = .slice (some ⟨b, o, none⟩) txs.length c ∧ b < w.heap.size ∧ txs.length ≤ maxLen ∧ w.cell? ⟨b, o + k, none⟩ = some (.slice A l.length d) ∧ AcV w (.slice A l.length d) l := by
  obtain ⟨tvs, h1, h2⟩ := h
  obtain ⟨b, o, c, u, rfl, hb, h3, h4, hu, hc⟩ := sl1_at h1 (List.getElem?_eq_some_iff.1 hk).1
  have ht := h2 k u l hu hk
  obtain ⟨A, d, rfl, _, _⟩ := Sl.form ht
  exact ⟨b, o, c, A, d, rfl, hb, by omega, hc, ht⟩

section
variable {w0 w w' : World} {r : Nat} {φ : Nat → Nat} {a : Ad} {m : Mm} {pw pm : Int} {pv : Value}

theorem get_any {k : Nat} {t : Tx} (h : RunW w0 w r φ a m pw pm pv (k : Int)) (hk : m.T[k]? = some t) (at_ : Int) (hWL : m.W.length = m.L.length) (hR : t.R.length ≤ 1000) :
    Calls Try.prog 63 #[.pointer (some ⟨r, 0, none⟩), .int .i64 at_] w (GetPost w0 r φ a m k t (getP m k t at_) pw pm pv) := by
  unfold getP
  cases hp : t.W[t.W.findIdx (fun p => p.at_ == at_)]? with
  | some p => exact get_own h hk at_ _ p rfl hp
  | none =>
    cases hs : seesL m.now m.mx m.L at_ t.rv (k : Int) with
    | false => exact get_no h hk at_ hp hs
    | true =>
      have hb : 0 ≤ at_ ∧ at_ < m.L.length := by
        unfold seesL at hs
        split at hs
        · rename_i h1; exact h1.2
        · cases hs
      obtain ⟨q, rfl⟩ : ∃ q : Nat, at_ = (q : Int) := ⟨at_.toNat, by omega⟩
      have hq : q < m.W.length := by omega
      have := get_yes h hk (q : Int) hp hs q rfl hq hR
      have e : m.W.getD ((q : Int)).toNat 0 = m.W[q] := by rw [Int.toNat_natCast]; simp [List.getD, hq]
      rw [← e] at this
      exact this

set_option maxHeartbeats 4000000 in
theorem work_end {k : Nat} {t : Tx} (h : RunW w0 w r φ a m pw pm pv (k : Int)) (hk : m.T[k]? = some t) {pl : List (List (List Ac))} (hpl : PlV w0 pv pl) {txs : List (List Ac)} (htxs : pl[k]? = some txs) (x : Nat) (htx : t.tx = (x : Int)) {l : List Ac} (hl : txs[x]? = some l) (hx1000 : x ≤ 1000) (hl1000 : l.length ≤ 1000) (j : Nat) (hpc : t.pc = (j : Int)) (hH : m.H.length ≤ 1000) (hR : t.R.length ≤ 1000) (hW : t.W.length ≤ 1000) (hj : j = l.length) :
    Calls Try.prog 45 #[.pointer (some ⟨r, 0, none⟩)] w (DonePost w0 r a (workM l m k t) k pw pm pv) := by
  have hspec : workM l m k t = if t.W.length = 0 then endM m k t 0 else { m with T := m.T.set k { t with st := 2, i := 0 } } := by
    unfold workM
    rw [hpc, Int.toNat_natCast, List.getElem?_eq_none (by omega)]
  have hpw := hpl.below h.base
  obtain ⟨b1, o1, c1, A1, d1, e1, hb1, hm1, hc1, hT1⟩ := hpw.at_ htxs
  obtain ⟨b2, o2, c2, A2, d2, e2, hb2, hm2, hc2, hL2⟩ := hT1.at_ hl
  have HME := Lib.hid (me_any h hk)
  have HH := Lib.hid h
  have HK := Lib.hid hk
  have hkp : k < pl.length := (List.getElem?_eq_some_iff.1 htxs).1
  have hxp : x < txs.length := (List.getElem?_eq_some_iff.1 hl).1
  obtain ⟨n1, hn1⟩ : ∃ n, n = pl.length := ⟨_, rfl⟩
  obtain ⟨n2, hn2⟩ : ∃ n, n = txs.length := ⟨_, rfl⟩
  obtain ⟨n3, hn3⟩ : ∃ n, n = l.length := ⟨_, rfl⟩
  injection e2 with e2 _ e2c
  subst e2 e2c
  rw [← hn1] at e1
  rw [← hn2] at hc1
  rw [← hn3] at hc2
  have HC := Lib.hid (fun W (hb : Below w.heap.size w W) => (show W.cell? ⟨r, 9, none⟩ = some (.slice (some ⟨b1, o1, none⟩) n1 c1) ∧ W.cell? ⟨r, 10, none⟩ = some (.int .i64 (k : Int)) ∧ W.cell? ⟨b1, o1 + k, none⟩ = some (.slice (some ⟨b2, o2, none⟩) n2 d1) ∧ W.cell? ⟨a.gT, k * 11 + 1, none⟩ = some (.int .i64 (x : Int)) ∧ W.cell? ⟨b2, o2 + x, none⟩ = some (.slice A2 n3 d2) from
    ⟨by rw [← e1]; exact (h.keep hb).rcells 9, (h.keep hb).rcells 10, (hb.cell (p := ⟨b1, o1 + k, none⟩) hb1).trans hc1, by rw [← htx]; exact (h.keep hb).tcells hk (j := 1) rfl, (hb.cell (p := ⟨b2, o2 + x, none⟩) hb2).trans hc2⟩))
  have HC3 := Lib.hid (fun W (hb : Below w.heap.size w W) => (show W.cell? ⟨a.gT, k * 11 + 3, none⟩ = some (.int .i64 (j : Int)) from by rw [← hpc]; exact (h.keep hb).tcells hk (j := 3) rfl))
  have hk0 : (0 : Int) ≤ (k : Int) := by omega
  have hk1 : (k : Int) < (n1 : Int) := by omega
  have hx0 : (0 : Int) ≤ (x : Int) := by omega
  have hx1 : (x : Int) < (n2 : Int) := by omega
  have HTX := Lib.hid htx
  have HPC := Lib.hid hpc
  have HN3 := Lib.hid hn3
  have HHB := Lib.hid (And.intro hH (And.intro hR hW))
  have HS := Lib.hid hspec
  obtain ⟨n4, hn4⟩ : ∃ n, n = t.W.length := ⟨_, rfl⟩
  have HC8 := Lib.hid (fun W (hb : Below w.heap.size w W) => (show W.cell? ⟨a.gT, k * 11 + 8, none⟩ = some (.slice t.wA n4 t.wc) from by rw [hn4]; exact (h.keep hb).tcells hk (j := 8) rfl))
  have HEND := Lib.hid (fun W (hb : Below w.heap.size w W) => end_any (h.keep hb) hk 0 hH hR hW ⟨by omega, by omega⟩)
  have HN4 := Lib.hid hn4
  have hjb : ((j : Int) == (n3 : Int)) = true := by simp; omega
  clear h hk hpl htxs htx hl hpc hH hR hW hpw hb1 hm1 hc1 hT1 hb2 hm2 hc2 hL2 e1 hn1 hn2 hn3 hj hspec hn4 hkp hxp
  go_enter Try.func45, Try.ntmps45
  go_wp2_with fail
  refine HME.out.mono ?_
  rintro e w1 ⟨rfl, hb1⟩
  have HB1 := Lib.hid hb1
  clear hb1 HME
  go_wp2_with fail
  refine wp_region_held_drew (S := fun W => W.cell? ⟨r, 9, none⟩ = some (.slice (some ⟨b1, o1, none⟩) n1 c1) ∧ W.cell? ⟨r, 10, none⟩ = some (.int .i64 (k : Int)) ∧ W.cell? ⟨b1, o1 + k, none⟩ = some (.slice (some ⟨b2, o2, none⟩) n2 d1) ∧ W.cell? ⟨a.gT, k * 11 + 1, none⟩ = some (.int .i64 (x : Int)) ∧ W.cell? ⟨b2, o2 + x, none⟩ = some (.slice A2 n3 d2)) (by kernel_rfl) ?_ (fun hbr => ?_)
  · exact HC.out _ (HB1.out.trans ((Below.refl _ _).drew.mono HB1.out.size))
  refine tkA 0 ?_
  refine tkA 1 ?_
  refine tkA 2 ?_
  refine tkA 3 ?_
  refine tkA 4 ?_
  refine tkA 5 ?_
  refine tkA 6 ?_
  refine tkA 7 ?_
  refine tkA 8 ?_
  refine tkA 9 ?_
  refine tkA 10 ?_
  refine tkA 11 ?_
  refine tkA 12 ?_
  refine tkA 13 ?_
  refine tkA 14 ?_
  refine tkA 15 ?_
  refine tkA 16 ?_
  refine tkA 17 ?_
  refine wpAnyH_done (by kernel_rfl) ?_ _
  obtain ⟨w2, hw2⟩ : ∃ y, w1.drew = y := ⟨_, rfl⟩
  have HB2 := Lib.hid (show Below w.heap.size w w2 from hw2 ▸ (HB1.out.trans ((Below.refl w1.heap.size w1).drew.mono HB1.out.size)))
  try rw [hw2]
  clear hw2
  have q3 := HC3.out _ HB2.out
  have H2 := Lib.hid (HH.out.keep HB2.out)
  have hTl := H2.out.apart.2.2.2.1
  have q8 := HC8.out _ HB2.out
  by_cases h0 : n4 = 0
  · have h0b : ((n4 : Int) == 0) = true := by simp; omega
    have HSE := Lib.hid (HS.out.trans (if_pos (by rw [← HN4.out]; exact h0)))
    clear h0
    go_wp2_with fail
    refine (HEND.out _ HB2.out).mono ?_
    rintro e w3 ⟨rfl, hP⟩
    have HP := Lib.hid hP
    clear hP
    go_wp2
    refine bodyPost_ret (results_none rfl _ _ _) rfl ?_
    exact ⟨rfl, by rw [HSE.out]; exact HP.out⟩
  · have h0b : ((n4 : Int) == 0) = false := by simp; omega
    have HSE := Lib.hid (HS.out.trans (if_neg (by rw [← HN4.out]; exact h0)))
    have d0 := H2.out.tcells HK.out (j := 0) rfl
    have d9 := H2.out.tcells HK.out (j := 9) rfl
    have f0 := H2.out.tfree (k * 11)
    have f9 := H2.out.tfree (k * 11 + 9)
    simp only [Nat.add_zero] at d0
    have hlt := H2.out.tlt HK.out
    clear h0
    go_wp2
    refine bodyPost_ret (results_none rfl _ _ _) rfl ?_
    refine ⟨rfl, _, _, _, ((H2.out.tc0 HK.out).tc hlt { t with st := 2 } (j := 0) (by omega) rfl ⟨rfl, rfl, rfl, rfl, rfl, rfl⟩).tc hlt { t with st := 2, i := 0 } (j := 9) (by omega) rfl ⟨rfl, rfl, rfl, rfl, rfl, rfl⟩, ?_⟩
    rw [HSE.out]

set_option maxHeartbeats 4000000 in
theorem work_put {k : Nat} {t : Tx} (h : RunW w0 w r φ a m pw pm pv (k : Int)) (hk : m.T[k]? = some t) {pl : List (List (List Ac))} (hpl : PlV w0 pv pl) {txs : List (List Ac)} (htxs : pl[k]? = some txs) (x : Nat) (htx : t.tx = (x : Int)) {l : List Ac} (hl : txs[x]? = some l) (hx1000 : x ≤ 1000) (hl1000 : l.length ≤ 1000) (j : Nat) (hpc : t.pc = (j : Int)) (hH : m.H.length ≤ 1000) (hR : t.R.length ≤ 1000) (hW : t.W.length ≤ 1000) (ac : Ac) (hac : l[j]? = some ac) (hd : ac.d = 1) :
    Calls Try.prog 45 #[.pointer (some ⟨r, 0, none⟩)] w (DonePost w0 r a (workM l m k t) k pw pm pv) := by
  have hspec : workM l m k t = actM m k t ac := by
    unfold workM
    rw [hpc, Int.toNat_natCast, hac]
  have hjl : j < l.length := (List.getElem?_eq_some_iff.1 hac).1
  have hpw := hpl.below h.base
  obtain ⟨b1, o1, c1, A1, d1, e1, hb1, hm1, hc1, hT1⟩ := hpw.at_ htxs
  obtain ⟨b2, o2, c2, A2, d2, e2, hb2, hm2, hc2, hL2⟩ := hT1.at_ hl
  have HME := Lib.hid (me_any h hk)
  have HH := Lib.hid h
  have HK := Lib.hid hk
  have hkp : k < pl.length := (List.getElem?_eq_some_iff.1 htxs).1
  have hxp : x < txs.length := (List.getElem?_eq_some_iff.1 hl).1
  obtain ⟨n1, hn1⟩ : ∃ n, n = pl.length := ⟨_, rfl⟩
  obtain ⟨n2, hn2⟩ : ∃ n, n = txs.length := ⟨_, rfl⟩
  obtain ⟨n3, hn3⟩ : ∃ n, n = l.length := ⟨_, rfl⟩
  injection e2 with e2 _ e2c
  subst e2 e2c
  rw [← hn1] at e1
  rw [← hn2] at hc1
  rw [← hn3] at hc2
  have HC := Lib.hid (fun W (hb : Below w.heap.size w W) => (show W.cell? ⟨r, 9, none⟩ = some (.slice (some ⟨b1, o1, none⟩) n1 c1) ∧ W.cell? ⟨r, 10, none⟩ = some (.int .i64 (k : Int)) ∧ W.cell? ⟨b1, o1 + k, none⟩ = some (.slice (some ⟨b2, o2, none⟩) n2 d1) ∧ W.cell? ⟨a.gT, k * 11 + 1, none⟩ = some (.int .i64 (x : Int)) ∧ W.cell? ⟨b2, o2 + x, none⟩ = some (.slice A2 n3 d2) from
    ⟨by rw [← e1]; exact (h.keep hb).rcells 9, (h.keep hb).rcells 10, (hb.cell (p := ⟨b1, o1 + k, none⟩) hb1).trans hc1, by rw [← htx]; exact (h.keep hb).tcells hk (j := 1) rfl, (hb.cell (p := ⟨b2, o2 + x, none⟩) hb2).trans hc2⟩))
  have HC3 := Lib.hid (fun W (hb : Below w.heap.size w W) => (show W.cell? ⟨a.gT, k * 11 + 3, none⟩ = some (.int .i64 (j : Int)) from by rw [← hpc]; exact (h.keep hb).tcells hk (j := 3) rfl))
  have hk0 : (0 : Int) ≤ (k : Int) := by omega
  have hk1 : (k : Int) < (n1 : Int) := by omega
  have hx0 : (0 : Int) ≤ (x : Int) := by omega
  have hx1 : (x : Int) < (n2 : Int) := by omega
  have HTX := Lib.hid htx
  have HPC := Lib.hid hpc
  have HN3 := Lib.hid hn3
  have HHB := Lib.hid (And.intro hH (And.intro hR hW))
  obtain ⟨b3, o3, eA, hb3, hel⟩ := Sl.pos encAc encAc_len hL2 (by omega)
  subst eA
  have hac' : l[j] = ac := by rw [List.getElem?_eq_getElem hjl] at hac; exact Option.some.inj hac
  have HCA := Lib.hid (fun W (hb : Below w.heap.size w W) => (show W.cell? ⟨b3, o3 + j * 3, none⟩ = some (.int .i64 ac.d) ∧ W.cell? ⟨b3, o3 + j * 3 + 1, none⟩ = some (.int .i64 ac.at_) ∧ W.cell? ⟨b3, o3 + j * 3 + 2, none⟩ = some (.int .i64 ac.v) from
    ⟨hel W hb j hjl 0 _ (by rw [hac']; rfl), hel W hb j hjl 1 _ (by rw [hac']; rfl), hel W hb j hjl 2 _ (by rw [hac']; rfl)⟩))
  have hj0 : (0 : Int) ≤ (j : Int) := by omega
  have hjz : (j : Int) < (n3 : Int) := by omega
  have hjb : ((j : Int) == (n3 : Int)) = false := by simp; omega
  have hwr : IntKind.i64.wrap ((j : Int) + 1) = (j : Int) + 1 := by rw [IntKind.wrap_i64]; omega
  have HS := Lib.hid (show workM l m k t = { m with T := m.T.set k { t with W := writeP t.W ac.at_ ac.v, pc := t.pc + 1 } } from by rw [hspec]; unfold actM; rw [if_pos hd])
  have hdb : (ac.d == 1) = true := by simpa using hd
  have HWR := Lib.hid (fun W (hb : Below w.heap.size w W) => write_any (h.keep hb) hk ac.at_ ac.v hW)
  clear hd
  clear h hk hpl htxs htx hl hpc hH hR hW hpw hb1 hm1 hc1 hT1 hb2 hm2 hc2 hL2 e1 hn1 hn2 hn3 hspec hac hac' hjl hel hb3 hkp hxp
  go_enter Try.func45, Try.ntmps45
  go_wp2_with fail
  refine HME.out.mono ?_
  rintro e w1 ⟨rfl, hb1⟩
  have HB1 := Lib.hid hb1
  clear hb1 HME
  go_wp2_with fail
  refine wp_region_held_drew (S := fun W => W.cell? ⟨r, 9, none⟩ = some (.slice (some ⟨b1, o1, none⟩) n1 c1) ∧ W.cell? ⟨r, 10, none⟩ = some (.int .i64 (k : Int)) ∧ W.cell? ⟨b1, o1 + k, none⟩ = some (.slice (some ⟨b2, o2, none⟩) n2 d1) ∧ W.cell? ⟨a.gT, k * 11 + 1, none⟩ = some (.int .i64 (x : Int)) ∧ W.cell? ⟨b2, o2 + x, none⟩ = some (.slice (some ⟨b3, o3, none⟩) n3 d2)) (by kernel_rfl) ?_ (fun hcr => ?_)
  · exact HC.out _ (HB1.out.trans ((Below.refl _ _).drew.mono HB1.out.size))
  refine tkA 0 ?_
  refine tkA 1 ?_
  refine tkA 2 ?_
  refine tkA 3 ?_
  refine tkA 4 ?_
  refine tkA 5 ?_
  refine tkA 6 ?_
  refine tkA 7 ?_
  refine tkA 8 ?_
  refine tkA 9 ?_
  refine tkA 10 ?_
  refine tkA 11 ?_
  refine tkA 12 ?_
  refine tkA 13 ?_
  refine tkA 14 ?_
  refine tkA 15 ?_
  refine tkA 16 ?_
  refine tkA 17 ?_
  refine wpAnyH_done (by kernel_rfl) ?_ _
  obtain ⟨w2, hw2⟩ : ∃ y, w1.drew = y := ⟨_, rfl⟩
  have HB2 := Lib.hid (show Below w.heap.size w w2 from hw2 ▸ (HB1.out.trans ((Below.refl w1.heap.size w1).drew.mono HB1.out.size)))
  try rw [hw2]
  clear hw2
  have q3 := HC3.out _ HB2.out
  have H2 := Lib.hid (HH.out.keep HB2.out)
  have hTl := H2.out.apart.2.2.2.1
  obtain ⟨a0, a1, a2⟩ := HCA.out _ HB2.out
  have HBX := Lib.hid (HB2.out.trans (((Below.refl w2.heap.size w2).alloc (Nat.le_refl _) (.cells #[.int .i64 ac.d, .int .i64 ac.at_, .int .i64 ac.v] 53)).mono HB2.out.size))
  go_wp2_with fail
  refine (HWR.out _ HBX.out).mono ?_
  rintro e w4 ⟨rfl, φ4, A4, c4, h4⟩
  have H4 := Lib.hid h4
  clear h4
  have d3 : w4.cell? ⟨a.gT, k * 11 + 3, none⟩ = some (.int .i64 (j : Int)) := by rw [← HPC.out]; exact H4.out.tcells (RunW.set_at k HK.out _) (j := 3) rfl
  have f3 := H4.out.tfree (k * 11 + 3)
  have hlt := H2.out.tlt HK.out
  have h5 := H4.out.tc hlt { t with wA := A4, wc := c4, W := writeP t.W ac.at_ ac.v, pc := t.pc + 1 } (j := 3) (u := .int .i64 ((j : Int) + 1)) (by omega) (by simp [encTx, HPC.out]) ⟨rfl, rfl, rfl, rfl, rfl, rfl⟩
  have H5 := Lib.hid h5
  clear h5
  go_wp2
  go_end0
  refine ⟨rfl, _, _, _, H5.out, ?_⟩
  rw [HS.out, er_set, er_set]
  rfl

set_option maxHeartbeats 4000000 in
theorem work_sum {k : Nat} {t : Tx} (h : RunW w0 w r φ a m pw pm pv (k : Int)) (hk : m.T[k]? = some t) {pl : List (List (List Ac))} (hpl : PlV w0 pv pl) {txs : List (List Ac)} (htxs : pl[k]? = some txs) (x : Nat) (htx : t.tx = (x : Int)) {l : List Ac} (hl : txs[x]? = some l) (hx1000 : x ≤ 1000) (hl1000 : l.length ≤ 1000) (j : Nat) (hpc : t.pc = (j : Int)) (hH : m.H.length ≤ 1000) (hR : t.R.length ≤ 1000) (hW : t.W.length ≤ 1000) (ac : Ac) (hac : l[j]? = some ac) (hd : ac.d = 2) :
    Calls Try.prog 45 #[.pointer (some ⟨r, 0, none⟩)] w (DonePost w0 r a (workM l m k t) k pw pm pv) := by
  have hspec : workM l m k t = actM m k t ac := by
    unfold workM
    rw [hpc, Int.toNat_natCast, hac]
  have hjl : j < l.length := (List.getElem?_eq_some_iff.1 hac).1
  have hpw := hpl.below h.base
  obtain ⟨b1, o1, c1, A1, d1, e1, hb1, hm1, hc1, hT1⟩ := hpw.at_ htxs
  obtain ⟨b2, o2, c2, A2, d2, e2, hb2, hm2, hc2, hL2⟩ := hT1.at_ hl
  have HME := Lib.hid (me_any h hk)
  have HH := Lib.hid h
  have HK := Lib.hid hk
  have hkp : k < pl.length := (List.getElem?_eq_some_iff.1 htxs).1
  have hxp : x < txs.length := (List.getElem?_eq_some_iff.1 hl).1
  obtain ⟨n1, hn1⟩ : ∃ n, n = pl.length := ⟨_, rfl⟩
  obtain ⟨n2, hn2⟩ : ∃ n, n = txs.length := ⟨_, rfl⟩
  obtain ⟨n3, hn3⟩ : ∃ n, n = l.length := ⟨_, rfl⟩
  injection e2 with e2 _ e2c
  subst e2 e2c
  rw [← hn1] at e1
  rw [← hn2] at hc1
  rw [← hn3] at hc2
  have HC := Lib.hid (fun W (hb : Below w.heap.size w W) => (show W.cell? ⟨r, 9, none⟩ = some (.slice (some ⟨b1, o1, none⟩) n1 c1) ∧ W.cell? ⟨r, 10, none⟩ = some (.int .i64 (k : Int)) ∧ W.cell? ⟨b1, o1 + k, none⟩ = some (.slice (some ⟨b2, o2, none⟩) n2 d1) ∧ W.cell? ⟨a.gT, k * 11 + 1, none⟩ = some (.int .i64 (x : Int)) ∧ W.cell? ⟨b2, o2 + x, none⟩ = some (.slice A2 n3 d2) from
    ⟨by rw [← e1]; exact (h.keep hb).rcells 9, (h.keep hb).rcells 10, (hb.cell (p := ⟨b1, o1 + k, none⟩) hb1).trans hc1, by rw [← htx]; exact (h.keep hb).tcells hk (j := 1) rfl, (hb.cell (p := ⟨b2, o2 + x, none⟩) hb2).trans hc2⟩))
  have HC3 := Lib.hid (fun W (hb : Below w.heap.size w W) => (show W.cell? ⟨a.gT, k * 11 + 3, none⟩ = some (.int .i64 (j : Int)) from by rw [← hpc]; exact (h.keep hb).tcells hk (j := 3) rfl))
  have hk0 : (0 : Int) ≤ (k : Int) := by omega
  have hk1 : (k : Int) < (n1 : Int) := by omega
  have hx0 : (0 : Int) ≤ (x : Int) := by omega
  have hx1 : (x : Int) < (n2 : Int) := by omega
  have HTX := Lib.hid htx
  have HPC := Lib.hid hpc
  have HN3 := Lib.hid hn3
  have HHB := Lib.hid (And.intro hH (And.intro hR hW))
  obtain ⟨b3, o3, eA, hb3, hel⟩ := Sl.pos encAc encAc_len hL2 (by omega)
  subst eA
  have hac' : l[j] = ac := by rw [List.getElem?_eq_getElem hjl] at hac; exact Option.some.inj hac
  have HCA := Lib.hid (fun W (hb : Below w.heap.size w W) => (show W.cell? ⟨b3, o3 + j * 3, none⟩ = some (.int .i64 ac.d) ∧ W.cell? ⟨b3, o3 + j * 3 + 1, none⟩ = some (.int .i64 ac.at_) ∧ W.cell? ⟨b3, o3 + j * 3 + 2, none⟩ = some (.int .i64 ac.v) from
    ⟨hel W hb j hjl 0 _ (by rw [hac']; rfl), hel W hb j hjl 1 _ (by rw [hac']; rfl), hel W hb j hjl 2 _ (by rw [hac']; rfl)⟩))
  have hj0 : (0 : Int) ≤ (j : Int) := by omega
  have hjz : (j : Int) < (n3 : Int) := by omega
  have hjb : ((j : Int) == (n3 : Int)) = false := by simp; omega
  have hwr : IntKind.i64.wrap ((j : Int) + 1) = (j : Int) + 1 := by rw [IntKind.wrap_i64]; omega
  have HS := Lib.hid (show workM l m k t = { m with T := m.T.set k { t with W := writeP t.W ac.at_ (IntKind.i64.wrap (t.sum + ac.v)), pc := t.pc + 1 } } from by rw [hspec]; unfold actM; rw [if_neg (by omega), if_pos hd])
  have hdb1 : (ac.d == 1) = false := by simp; omega
  have hdb : (ac.d == 2) = true := by simpa using hd
  have HWR := Lib.hid (fun W (hb : Below w.heap.size w W) => write_any (h.keep hb) hk ac.at_ (IntKind.i64.wrap (t.sum + ac.v)) hW)
  have HC6 := Lib.hid (fun W (hb : Below w.heap.size w W) => (h.keep hb).tcells hk (j := 6) rfl)
  clear hd
  clear h hk hpl htxs htx hl hpc hH hR hW hpw hb1 hm1 hc1 hT1 hb2 hm2 hc2 hL2 e1 hn1 hn2 hn3 hspec hac hac' hjl hel hb3 hkp hxp
  go_enter Try.func45, Try.ntmps45
  go_wp2_with fail
  refine HME.out.mono ?_
  rintro e w1 ⟨rfl, hb1⟩
  have HB1 := Lib.hid hb1
  clear hb1 HME
  go_wp2_with fail
  refine wp_region_held_drew (S := fun W => W.cell? ⟨r, 9, none⟩ = some (.slice (some ⟨b1, o1, none⟩) n1 c1) ∧ W.cell? ⟨r, 10, none⟩ = some (.int .i64 (k : Int)) ∧ W.cell? ⟨b1, o1 + k, none⟩ = some (.slice (some ⟨b2, o2, none⟩) n2 d1) ∧ W.cell? ⟨a.gT, k * 11 + 1, none⟩ = some (.int .i64 (x : Int)) ∧ W.cell? ⟨b2, o2 + x, none⟩ = some (.slice (some ⟨b3, o3, none⟩) n3 d2)) (by kernel_rfl) ?_ (fun hdr => ?_)
  · exact HC.out _ (HB1.out.trans ((Below.refl _ _).drew.mono HB1.out.size))
  refine tkA 0 ?_
  refine tkA 1 ?_
  refine tkA 2 ?_
  refine tkA 3 ?_
  refine tkA 4 ?_
  refine tkA 5 ?_
  refine tkA 6 ?_
  refine tkA 7 ?_
  refine tkA 8 ?_
  refine tkA 9 ?_
  refine tkA 10 ?_
  refine tkA 11 ?_
  refine tkA 12 ?_
  refine tkA 13 ?_
  refine tkA 14 ?_
  refine tkA 15 ?_
  refine tkA 16 ?_
  refine tkA 17 ?_
  refine wpAnyH_done (by kernel_rfl) ?_ _
  obtain ⟨w2, hw2⟩ : ∃ y, w1.drew = y := ⟨_, rfl⟩
  have HB2 := Lib.hid (show Below w.heap.size w w2 from hw2 ▸ (HB1.out.trans ((Below.refl w1.heap.size w1).drew.mono HB1.out.size)))
  try rw [hw2]
  clear hw2
  have q3 := HC3.out _ HB2.out
  have H2 := Lib.hid (HH.out.keep HB2.out)
  have hTl := H2.out.apart.2.2.2.1
  obtain ⟨a0, a1, a2⟩ := HCA.out _ HB2.out
  have HBX := Lib.hid (HB2.out.trans (((Below.refl w2.heap.size w2).alloc (Nat.le_refl _) (.cells #[.int .i64 ac.d, .int .i64 ac.at_, .int .i64 ac.v] 53)).mono HB2.out.size))
  obtain ⟨w3, hw3⟩ : ∃ y, w2.alloc (.cells #[.int .i64 ac.d, .int .i64 ac.at_, .int .i64 ac.v] 53) = y := ⟨_, rfl⟩
  have hbx : Blk w3 w2.heap.size 53 #[.int .i64 ac.d, .int .i64 ac.at_, .int .i64 ac.v] := hw3 ▸ Blk.new _ _ _
  rw [hw3] at HBX
  have p0 : w3.cell? ⟨w2.heap.size, 0, none⟩ = some (.int .i64 ac.d) := by rw [hbx.cell]; rfl
  have p1 : w3.cell? ⟨w2.heap.size, 1, none⟩ = some (.int .i64 ac.at_) := by rw [hbx.cell]; rfl
  have p2 : w3.cell? ⟨w2.heap.size, 2, none⟩ = some (.int .i64 ac.v) := by rw [hbx.cell]; rfl
  have p6 := HC6.out _ HBX.out
  clear hbx
  go_upto_block 0 with fail
  try rw [hw3]
  clear hw3 q3 a0 a1 a2
  go_cut [2, 4] (fun s2 s4 wx => s2 = .pointer (some ⟨a.gT, k * 11, none⟩) ∧ s4 = .pointer (some ⟨w2.heap.size, 0, none⟩) ∧ Hid (∃ φ' A c, RunW w0 wx r φ' a { m with T := m.T.set k { t with wA := A, wc := c, W := writeP t.W ac.at_ (IntKind.i64.wrap (t.sum + ac.v)) } } pw pm pv (k : Int)))
  case first =>
    go_upto_region 11 with fail
    refine wp_region_held_drew (S := fun _ => True) (by kernel_rfl) ?_ (fun her => ?_)
    · trivial
    refine tkA 0 ?_
    refine tkA 1 ?_
    refine tkA 3 ?_
    refine tkA 4 ?_
    refine tkA 5 ?_
    refine tkA 7 ?_
    refine wpAnyH_ready (rs := [2, 6, 8]) (by kernel_rfl) (by simp) ?_
    refine conA (fun K hK => ?_) ?_
    · go_simp
      refine hK.out _ _ ?_ (fun her2b7 => ?_)
      · trivial
      clear hK K her
      try simp only [Act.put, List.setIfInBounds_toArray, List.set_cons_zero, List.set_cons_succ]
      refine wpAnyH_ready (rs := [6, 8]) (by kernel_rfl) (by simp) ?_
      refine conA (fun K hK => ?_) ?_
      · go_simp
        refine hK.out _ _ ?_ (fun her6b8 => ?_)
        · trivial
        clear hK K her2b7
        try simp only [Act.put, List.setIfInBounds_toArray, List.set_cons_zero, List.set_cons_succ]
        refine stA 8 (fun K hK => ?_)
        go_simp
        refine hK.out _ _ ?_ (fun her8b9 => ?_)
        · trivial
        clear hK K her6b8
        try simp only [Act.put, List.setIfInBounds_toArray, List.set_cons_zero, List.set_cons_succ]
        refine tkA 9 ?_
        refine stA 10 (fun K hK => ?_)
        go_simp
        refine (HWR.out _ (HBX.out.trans ((Below.refl _ _).drew.mono HBX.out.size))).mono ?_
        rintro e w4 ⟨rfl, φ4, A4, c4, h4⟩
        have H4 := Lib.hid h4
        clear h4
        try go_wp2_with fail
        refine hK.out _ _ ?_ (fun her10b11 => ?_)
        · trivial
        clear hK K her8b9
        try simp only [Act.put, List.setIfInBounds_toArray, List.set_cons_zero, List.set_cons_succ]
        refine wpAnyH_done (by kernel_rfl) ?_ _
        go_wp2_with fail
        go_meet
        exact ⟨rfl, rfl, (show Hid _ from ⟨φ4, A4, c4, H4.out⟩)⟩
      refine conA (fun K hK => ?_) ?_
      · go_simp
        refine hK.out _ _ ?_ (fun her8b12 => ?_)
        · trivial
        clear hK K her2b7
        try simp only [Act.put, List.setIfInBounds_toArray, List.set_cons_zero, List.set_cons_succ]
        refine stA 6 (fun K hK => ?_)
        go_simp
        refine hK.out _ _ ?_ (fun her6b13 => ?_)
        · trivial
        clear hK K her8b12
        try simp only [Act.put, List.setIfInBounds_toArray, List.set_cons_zero, List.set_cons_succ]
        refine tkA 9 ?_
        refine stA 10 (fun K hK => ?_)
        go_simp
        refine (HWR.out _ (HBX.out.trans ((Below.refl _ _).drew.mono HBX.out.size))).mono ?_
        rintro e w4 ⟨rfl, φ4, A4, c4, h4⟩
        have H4 := Lib.hid h4
        clear h4
        try go_wp2_with fail
        refine hK.out _ _ ?_ (fun her10b15 => ?_)
        · trivial
        clear hK K her6b13
        try simp only [Act.put, List.setIfInBounds_toArray, List.set_cons_zero, List.set_cons_succ]
        refine wpAnyH_done (by kernel_rfl) ?_ _
        go_wp2_with fail
        go_meet
        exact ⟨rfl, rfl, (show Hid _ from ⟨φ4, A4, c4, H4.out⟩)⟩
      exact AllReadyH.nil
    refine conA (fun K hK => ?_) ?_
    · go_simp
      refine hK.out _ _ ?_ (fun her6b16 => ?_)
      · trivial
      clear hK K her
      try simp only [Act.put, List.setIfInBounds_toArray, List.set_cons_zero, List.set_cons_succ]
      refine wpAnyH_ready (rs := [2, 8]) (by kernel_rfl) (by simp) ?_
      refine conA (fun K hK => ?_) ?_
      · go_simp
        refine hK.out _ _ ?_ (fun her2b17 => ?_)
        · trivial
        clear hK K her6b16
        try simp only [Act.put, List.setIfInBounds_toArray, List.set_cons_zero, List.set_cons_succ]
        refine stA 8 (fun K hK => ?_)
        go_simp
        refine hK.out _ _ ?_ (fun her8b18 => ?_)
        · trivial
        clear hK K her2b17
        try simp only [Act.put, List.setIfInBounds_toArray, List.set_cons_zero, List.set_cons_succ]
        refine tkA 9 ?_
        refine stA 10 (fun K hK => ?_)
        go_simp
        refine (HWR.out _ (HBX.out.trans ((Below.refl _ _).drew.mono HBX.out.size))).mono ?_
        rintro e w4 ⟨rfl, φ4, A4, c4, h4⟩
        have H4 := Lib.hid h4
        clear h4
        try go_wp2_with fail
        refine hK.out _ _ ?_ (fun her10b20 => ?_)
        · trivial
        clear hK K her8b18
        try simp only [Act.put, List.setIfInBounds_toArray, List.set_cons_zero, List.set_cons_succ]
        refine wpAnyH_done (by kernel_rfl) ?_ _
        go_wp2_with fail
        go_meet
        exact ⟨rfl, rfl, (show Hid _ from ⟨φ4, A4, c4, H4.out⟩)⟩
      refine conA (fun K hK => ?_) ?_
      · go_simp
        refine hK.out _ _ ?_ (fun her8b21 => ?_)
        · trivial
        clear hK K her6b16
        try simp only [Act.put, List.setIfInBounds_toArray, List.set_cons_zero, List.set_cons_succ]
        refine tkA 9 ?_
        refine stA 2 (fun K hK => ?_)
        go_simp
        refine hK.out _ _ ?_ (fun her2b23 => ?_)
        · trivial
        clear hK K her8b21
        try simp only [Act.put, List.setIfInBounds_toArray, List.set_cons_zero, List.set_cons_succ]
        refine stA 10 (fun K hK => ?_)
        go_simp
        refine (HWR.out _ (HBX.out.trans ((Below.refl _ _).drew.mono HBX.out.size))).mono ?_
        rintro e w4 ⟨rfl, φ4, A4, c4, h4⟩
        have H4 := Lib.hid h4
        clear h4
        try go_wp2_with fail
        refine hK.out _ _ ?_ (fun her10b24 => ?_)
        · trivial
        clear hK K her2b23
        try simp only [Act.put, List.setIfInBounds_toArray, List.set_cons_zero, List.set_cons_succ]
        refine wpAnyH_done (by kernel_rfl) ?_ _
        go_wp2_with fail
        go_meet
        exact ⟨rfl, rfl, (show Hid _ from ⟨φ4, A4, c4, H4.out⟩)⟩
      exact AllReadyH.nil
    refine conA (fun K hK => ?_) ?_
    · go_simp
      refine hK.out _ _ ?_ (fun her8b25 => ?_)
      · trivial
      clear hK K her
      try simp only [Act.put, List.setIfInBounds_toArray, List.set_cons_zero, List.set_cons_succ]
      refine wpAnyH_ready (rs := [2, 6]) (by kernel_rfl) (by simp) ?_
      refine conA (fun K hK => ?_) ?_
      · go_simp
        refine hK.out _ _ ?_ (fun her2b26 => ?_)
        · trivial
        clear hK K her8b25
        try simp only [Act.put, List.setIfInBounds_toArray, List.set_cons_zero, List.set_cons_succ]
        refine stA 6 (fun K hK => ?_)
        go_simp
        refine hK.out _ _ ?_ (fun her6b27 => ?_)
        · trivial
        clear hK K her2b26
        try simp only [Act.put, List.setIfInBounds_toArray, List.set_cons_zero, List.set_cons_succ]
        refine tkA 9 ?_
        refine stA 10 (fun K hK => ?_)
        go_simp
        refine (HWR.out _ (HBX.out.trans ((Below.refl _ _).drew.mono HBX.out.size))).mono ?_
        rintro e w4 ⟨rfl, φ4, A4, c4, h4⟩
        have H4 := Lib.hid h4
        clear h4
        try go_wp2_with fail
        refine hK.out _ _ ?_ (fun her10b29 => ?_)
        · trivial
        clear hK K her6b27
        try simp only [Act.put, List.setIfInBounds_toArray, List.set_cons_zero, List.set_cons_succ]
        refine wpAnyH_done (by kernel_rfl) ?_ _
        go_wp2_with fail
        go_meet
        exact ⟨rfl, rfl, (show Hid _ from ⟨φ4, A4, c4, H4.out⟩)⟩
      refine conA (fun K hK => ?_) ?_
      · go_simp
        refine hK.out _ _ ?_ (fun her6b30 => ?_)
        · trivial
        clear hK K her8b25
        try simp only [Act.put, List.setIfInBounds_toArray, List.set_cons_zero, List.set_cons_succ]
        refine tkA 9 ?_
        refine stA 2 (fun K hK => ?_)
        go_simp
        refine hK.out _ _ ?_ (fun her2b32 => ?_)
        · trivial
        clear hK K her6b30
        try simp only [Act.put, List.setIfInBounds_toArray, List.set_cons_zero, List.set_cons_succ]
        refine stA 10 (fun K hK => ?_)
        go_simp
        refine (HWR.out _ (HBX.out.trans ((Below.refl _ _).drew.mono HBX.out.size))).mono ?_
        rintro e w4 ⟨rfl, φ4, A4, c4, h4⟩
        have H4 := Lib.hid h4
        clear h4
        try go_wp2_with fail
        refine hK.out _ _ ?_ (fun her10b33 => ?_)
        · trivial
        clear hK K her2b32
        try simp only [Act.put, List.setIfInBounds_toArray, List.set_cons_zero, List.set_cons_succ]
        refine wpAnyH_done (by kernel_rfl) ?_ _
        go_wp2_with fail
        go_meet
        exact ⟨rfl, rfl, (show Hid _ from ⟨φ4, A4, c4, H4.out⟩)⟩
      exact AllReadyH.nil
    exact AllReadyH.nil
  case rest =>
    obtain ⟨rfl, rfl, HX⟩ := hcut
    obtain ⟨φ4, A4, c4, h4⟩ := HX.out
    have H4 := Lib.hid h4
    have hTc := h4.apart.2.2.2.1
    clear h4 p0 p1 p2 p6
    have d3 : wc.cell? ⟨a.gT, k * 11 + 3, none⟩ = some (.int .i64 (j : Int)) := by rw [← HPC.out]; exact H4.out.tcells (RunW.set_at k HK.out _) (j := 3) rfl
    have f3 := H4.out.tfree (k * 11 + 3)
    have hlt := H2.out.tlt HK.out
    have h5 := H4.out.tc hlt { t with wA := A4, wc := c4, W := writeP t.W ac.at_ (IntKind.i64.wrap (t.sum + ac.v)), pc := t.pc + 1 } (j := 3) (u := .int .i64 ((j : Int) + 1)) (by omega) (by simp [encTx, HPC.out]) ⟨rfl, rfl, rfl, rfl, rfl, rfl⟩
    have H5 := Lib.hid h5
    clear h5
    go_wp2
    go_end0
    refine ⟨rfl, _, _, _, H5.out, ?_⟩
    rw [HS.out, er_set, er_set]
    rfl

set_option maxHeartbeats 4000000 in
theorem work_got {k : Nat} {t : Tx} (h : RunW w0 w r φ a m pw pm pv (k : Int)) (hk : m.T[k]? = some t) {pl : List (List (List Ac))} (hpl : PlV w0 pv pl) {txs : List (List Ac)} (htxs : pl[k]? = some txs) (x : Nat) (htx : t.tx = (x : Int)) {l : List Ac} (hl : txs[x]? = some l) (hx1000 : x ≤ 1000) (hl1000 : l.length ≤ 1000) (j : Nat) (hpc : t.pc = (j : Int)) (hH : m.H.length ≤ 1000) (hR : t.R.length ≤ 1000) (hW : t.W.length ≤ 1000) (ac : Ac) (hac : l[j]? = some ac) (hd : ac.d = 0) (hWL : m.W.length = m.L.length) (v : Int) (R' : List Pr) (hg : getP m k t ac.at_ = some (v, R')) :
    Calls Try.prog 45 #[.pointer (some ⟨r, 0, none⟩)] w (DonePost w0 r a (workM l m k t) k pw pm pv) := by
  have hspec : workM l m k t = actM m k t ac := by
    unfold workM
    rw [hpc, Int.toNat_natCast, hac]
  have hjl : j < l.length := (List.getElem?_eq_some_iff.1 hac).1
  have hpw := hpl.below h.base
  obtain ⟨b1, o1, c1, A1, d1, e1, hb1, hm1, hc1, hT1⟩ := hpw.at_ htxs
  obtain ⟨b2, o2, c2, A2, d2, e2, hb2, hm2, hc2, hL2⟩ := hT1.at_ hl
  have HME := Lib.hid (me_any h hk)
  have HH := Lib.hid h
  have HK := Lib.hid hk
  have hkp : k < pl.length := (List.getElem?_eq_some_iff.1 htxs).1
  have hxp : x < txs.length := (List.getElem?_eq_some_iff.1 hl).1
  obtain ⟨n1, hn1⟩ : ∃ n, n = pl.length := ⟨_, rfl⟩
  obtain ⟨n2, hn2⟩ : ∃ n, n = txs.length := ⟨_, rfl⟩
  obtain ⟨n3, hn3⟩ : ∃ n, n = l.length := ⟨_, rfl⟩
  injection e2 with e2 _ e2c
  subst e2 e2c
  rw [← hn1] at e1
  rw [← hn2] at hc1
  rw [← hn3] at hc2
  have HC := Lib.hid (fun W (hb : Below w.heap.size w W) => (show W.cell? ⟨r, 9, none⟩ = some (.slice (some ⟨b1, o1, none⟩) n1 c1) ∧ W.cell? ⟨r, 10, none⟩ = some (.int .i64 (k : Int)) ∧ W.cell? ⟨b1, o1 + k, none⟩ = some (.slice (some ⟨b2, o2, none⟩) n2 d1) ∧ W.cell? ⟨a.gT, k * 11 + 1, none⟩ = some (.int .i64 (x : Int)) ∧ W.cell? ⟨b2, o2 + x, none⟩ = some (.slice A2 n3 d2) from
    ⟨by rw [← e1]; exact (h.keep hb).rcells 9, (h.keep hb).rcells 10, (hb.cell (p := ⟨b1, o1 + k, none⟩) hb1).trans hc1, by rw [← htx]; exact (h.keep hb).tcells hk (j := 1) rfl, (hb.cell (p := ⟨b2, o2 + x, none⟩) hb2).trans hc2⟩))
  have HC3 := Lib.hid (fun W (hb : Below w.heap.size w W) => (show W.cell? ⟨a.gT, k * 11 + 3, none⟩ = some (.int .i64 (j : Int)) from by rw [← hpc]; exact (h.keep hb).tcells hk (j := 3) rfl))
  have hk0 : (0 : Int) ≤ (k : Int) := by omega
  have hk1 : (k : Int) < (n1 : Int) := by omega
  have hx0 : (0 : Int) ≤ (x : Int) := by omega
  have hx1 : (x : Int) < (n2 : Int) := by omega
  have HTX := Lib.hid htx
  have HPC := Lib.hid hpc
  have HN3 := Lib.hid hn3
  have HHB := Lib.hid (And.intro hH (And.intro hR hW))
  obtain ⟨b3, o3, eA, hb3, hel⟩ := Sl.pos encAc encAc_len hL2 (by omega)
  subst eA
  have hac' : l[j] = ac := by rw [List.getElem?_eq_getElem hjl] at hac; exact Option.some.inj hac
  have HCA := Lib.hid (fun W (hb : Below w.heap.size w W) => (show W.cell? ⟨b3, o3 + j * 3, none⟩ = some (.int .i64 ac.d) ∧ W.cell? ⟨b3, o3 + j * 3 + 1, none⟩ = some (.int .i64 ac.at_) ∧ W.cell? ⟨b3, o3 + j * 3 + 2, none⟩ = some (.int .i64 ac.v) from
    ⟨hel W hb j hjl 0 _ (by rw [hac']; rfl), hel W hb j hjl 1 _ (by rw [hac']; rfl), hel W hb j hjl 2 _ (by rw [hac']; rfl)⟩))
  have hj0 : (0 : Int) ≤ (j : Int) := by omega
  have hjz : (j : Int) < (n3 : Int) := by omega
  have hjb : ((j : Int) == (n3 : Int)) = false := by simp; omega
  have hwr : IntKind.i64.wrap ((j : Int) + 1) = (j : Int) + 1 := by rw [IntKind.wrap_i64]; omega
  obtain ⟨s', hs'⟩ : ∃ s', IntKind.i64.wrap (t.sum + v) = s' := ⟨_, rfl⟩
  have HS := Lib.hid (show workM l m k t = { m with T := m.T.set k { t with R := R', sum := s', pc := t.pc + 1 } } from by rw [hspec]; unfold actM; rw [if_neg (by omega), if_neg (by omega), hg]; simp only [hs'])
  have HSW := Lib.hid hs'
  clear hs'
  have hdb1 : (ac.d == 1) = false := by simp; omega
  have hdb2 : (ac.d == 2) = false := by simp; omega
  have hdb : (ac.d == 0) = true := by simpa using hd
  have HGE := Lib.hid (fun W (hb : Below w.heap.size w W) => (show Calls Try.prog 63 #[.pointer (some ⟨r, 0, none⟩), .int .i64 ac.at_] W (GetPost w0 r φ a m k t (some (v, R')) pw pm pv) from hg ▸ get_any (h.keep hb) hk ac.at_ hWL hR))
  clear hd hg
  clear h hk hpl htxs htx hl hpc hH hR hW hpw hb1 hm1 hc1 hT1 hb2 hm2 hc2 hL2 e1 hn1 hn2 hn3 hspec hac hac' hjl hel hb3 hkp hxp
  go_enter Try.func45, Try.ntmps45
  go_wp2_with fail
  refine HME.out.mono ?_
  rintro e w1 ⟨rfl, hb1⟩
  have HB1 := Lib.hid hb1
  clear hb1 HME
  go_wp2_with fail
  refine wp_region_held_drew (S := fun W => W.cell? ⟨r, 9, none⟩ = some (.slice (some ⟨b1, o1, none⟩) n1 c1) ∧ W.cell? ⟨r, 10, none⟩ = some (.int .i64 (k : Int)) ∧ W.cell? ⟨b1, o1 + k, none⟩ = some (.slice (some ⟨b2, o2, none⟩) n2 d1) ∧ W.cell? ⟨a.gT, k * 11 + 1, none⟩ = some (.int .i64 (x : Int)) ∧ W.cell? ⟨b2, o2 + x, none⟩ = some (.slice (some ⟨b3, o3, none⟩) n3 d2)) (by kernel_rfl) ?_ (fun hfr => ?_)
  · exact HC.out _ (HB1.out.trans ((Below.refl _ _).drew.mono HB1.out.size))
  refine tkA 0 ?_
  refine tkA 1 ?_
  refine tkA 2 ?_
  refine tkA 3 ?_
  refine tkA 4 ?_
  refine tkA 5 ?_
  refine tkA 6 ?_
  refine tkA 7 ?_
  refine tkA 8 ?_
  refine tkA 9 ?_
  refine tkA 10 ?_
  refine tkA 11 ?_
  refine tkA 12 ?_
  refine tkA 13 ?_
  refine tkA 14 ?_
  refine tkA 15 ?_
  refine tkA 16 ?_
  refine tkA 17 ?_
  refine wpAnyH_done (by kernel_rfl) ?_ _
  obtain ⟨w2, hw2⟩ : ∃ y, w1.drew = y := ⟨_, rfl⟩
  have HB2 := Lib.hid (show Below w.heap.size w w2 from hw2 ▸ (HB1.out.trans ((Below.refl w1.heap.size w1).drew.mono HB1.out.size)))
  try rw [hw2]
  clear hw2
  have q3 := HC3.out _ HB2.out
  have H2 := Lib.hid (HH.out.keep HB2.out)
  have hTl := H2.out.apart.2.2.2.1
  obtain ⟨a0, a1, a2⟩ := HCA.out _ HB2.out
  have HBX := Lib.hid (HB2.out.trans (((Below.refl w2.heap.size w2).alloc (Nat.le_refl _) (.cells #[.int .i64 ac.d, .int .i64 ac.at_, .int .i64 ac.v] 53)).mono HB2.out.size))
  go_wp2_with fail
  refine (HGE.out _ HBX.out).mono ?_
  rintro e w4 ⟨rfl, φ4, A4, c4, h4⟩
  have H4 := Lib.hid h4
  clear h4
  have d6 := H4.out.tcells (RunW.set_at k HK.out _) (j := 6) rfl
  have f6 := H4.out.tfree (k * 11 + 6)
  have d3 : w4.cell? ⟨a.gT, k * 11 + 3, none⟩ = some (.int .i64 (j : Int)) := by rw [← HPC.out]; exact H4.out.tcells (RunW.set_at k HK.out _) (j := 3) rfl
  have f3 := H4.out.tfree (k * 11 + 3)
  have hlt := H2.out.tlt HK.out
  dsimp only at d6
  have h5 := (H4.out.tc hlt { t with rA := A4, rc := c4, R := R', sum := s' } (j := 6) (u := .int .i64 s') (by omega) rfl ⟨rfl, rfl, rfl, rfl, rfl, rfl⟩).tc hlt { t with rA := A4, rc := c4, R := R', sum := s', pc := t.pc + 1 } (j := 3) (u := .int .i64 ((j : Int) + 1)) (by omega) (by simp [encTx, HPC.out]) ⟨rfl, rfl, rfl, rfl, rfl, rfl⟩
  have H5 := Lib.hid h5
  have hsw := HSW.out
  clear h5
  go_wp2
  go_end0
  refine ⟨rfl, _, _, _, H5.out, ?_⟩
  rw [HS.out, er_set, er_set]
  rfl

set_option maxHeartbeats 4000000 in
theorem work_ungot {k : Nat} {t : Tx} (h : RunW w0 w r φ a m pw pm pv (k : Int)) (hk : m.T[k]? = some t) {pl : List (List (List Ac))} (hpl : PlV w0 pv pl) {txs : List (List Ac)} (htxs : pl[k]? = some txs) (x : Nat) (htx : t.tx = (x : Int)) {l : List Ac} (hl : txs[x]? = some l) (hx1000 : x ≤ 1000) (hl1000 : l.length ≤ 1000) (j : Nat) (hpc : t.pc = (j : Int)) (hH : m.H.length ≤ 1000) (hR : t.R.length ≤ 1000) (hW : t.W.length ≤ 1000) (ac : Ac) (hac : l[j]? = some ac) (hd : ac.d = 0) (hWL : m.W.length = m.L.length) (hg : getP m k t ac.at_ = none) :
    Calls Try.prog 45 #[.pointer (some ⟨r, 0, none⟩)] w (DonePost w0 r a (workM l m k t) k pw pm pv) := by
  have hspec : workM l m k t = actM m k t ac := by
    unfold workM
    rw [hpc, Int.toNat_natCast, hac]
  have hjl : j < l.length := (List.getElem?_eq_some_iff.1 hac).1
  have hpw := hpl.below h.base
  obtain ⟨b1, o1, c1, A1, d1, e1, hb1, hm1, hc1, hT1⟩ := hpw.at_ htxs
  obtain ⟨b2, o2, c2, A2, d2, e2, hb2, hm2, hc2, hL2⟩ := hT1.at_ hl
  have HME := Lib.hid (me_any h hk)
  have HH := Lib.hid h
  have HK := Lib.hid hk
  have hkp : k < pl.length := (List.getElem?_eq_some_iff.1 htxs).1
  have hxp : x < txs.length := (List.getElem?_eq_some_iff.1 hl).1
  obtain ⟨n1, hn1⟩ : ∃ n, n = pl.length := ⟨_, rfl⟩
  obtain ⟨n2, hn2⟩ : ∃ n, n = txs.length := ⟨_, rfl⟩
  obtain ⟨n3, hn3⟩ : ∃ n, n = l.length := ⟨_, rfl⟩
  injection e2 with e2 _ e2c
  subst e2 e2c
  rw [← hn1] at e1
  rw [← hn2] at hc1
  rw [← hn3] at hc2
  have HC := Lib.hid (fun W (hb : Below w.heap.size w W) => (show W.cell? ⟨r, 9, none⟩ = some (.slice (some ⟨b1, o1, none⟩) n1 c1) ∧ W.cell? ⟨r, 10, none⟩ = some (.int .i64 (k : Int)) ∧ W.cell? ⟨b1, o1 + k, none⟩ = some (.slice (some ⟨b2, o2, none⟩) n2 d1) ∧ W.cell? ⟨a.gT, k * 11 + 1, none⟩ = some (.int .i64 (x : Int)) ∧ W.cell? ⟨b2, o2 + x, none⟩ = some (.slice A2 n3 d2) from
    ⟨by rw [← e1]; exact (h.keep hb).rcells 9, (h.keep hb).rcells 10, (hb.cell (p := ⟨b1, o1 + k, none⟩) hb1).trans hc1, by rw [← htx]; exact (h.keep hb).tcells hk (j := 1) rfl, (hb.cell (p := ⟨b2, o2 + x, none⟩) hb2).trans hc2⟩))
  have HC3 := Lib.hid (fun W (hb : Below w.heap.size w W) => (show W.cell? ⟨a.gT, k * 11 + 3, none⟩ = some (.int .i64 (j : Int)) from by rw [← hpc]; exact (h.keep hb).tcells hk (j := 3) rfl))
  have hk0 : (0 : Int) ≤ (k : Int) := by omega
  have hk1 : (k : Int) < (n1 : Int) := by omega
  have hx0 : (0 : Int) ≤ (x : Int) := by omega
  have hx1 : (x : Int) < (n2 : Int) := by omega
  have HTX := Lib.hid htx
  have HPC := Lib.hid hpc
  have HN3 := Lib.hid hn3
  have HHB := Lib.hid (And.intro hH (And.intro hR hW))
  obtain ⟨b3, o3, eA, hb3, hel⟩ := Sl.pos encAc encAc_len hL2 (by omega)
  subst eA
  have hac' : l[j] = ac := by rw [List.getElem?_eq_getElem hjl] at hac; exact Option.some.inj hac
  have HCA := Lib.hid (fun W (hb : Below w.heap.size w W) => (show W.cell? ⟨b3, o3 + j * 3, none⟩ = some (.int .i64 ac.d) ∧ W.cell? ⟨b3, o3 + j * 3 + 1, none⟩ = some (.int .i64 ac.at_) ∧ W.cell? ⟨b3, o3 + j * 3 + 2, none⟩ = some (.int .i64 ac.v) from
    ⟨hel W hb j hjl 0 _ (by rw [hac']; rfl), hel W hb j hjl 1 _ (by rw [hac']; rfl), hel W hb j hjl 2 _ (by rw [hac']; rfl)⟩))
  have hj0 : (0 : Int) ≤ (j : Int) := by omega
  have hjz : (j : Int) < (n3 : Int) := by omega
  have hjb : ((j : Int) == (n3 : Int)) = false := by simp; omega
  have hwr : IntKind.i64.wrap ((j : Int) + 1) = (j : Int) + 1 := by rw [IntKind.wrap_i64]; omega
  have HS := Lib.hid (show workM l m k t = endM m k t 1 from by rw [hspec]; unfold actM; rw [if_neg (by omega), if_neg (by omega), hg])
  have hdb1 : (ac.d == 1) = false := by simp; omega
  have hdb2 : (ac.d == 2) = false := by simp; omega
  have hdb : (ac.d == 0) = true := by simpa using hd
  have HGE := Lib.hid (fun W (hb : Below w.heap.size w W) => (show Calls Try.prog 63 #[.pointer (some ⟨r, 0, none⟩), .int .i64 ac.at_] W (GetPost w0 r φ a m k t none pw pm pv) from hg ▸ get_any (h.keep hb) hk ac.at_ hWL hR))
  have HEN := Lib.hid (fun W (h : RunW w0 W r φ a m pw pm pv (k : Int)) => end_any h hk 1 hH hR hW ⟨by omega, by omega⟩)
  clear hd hg
  clear h hk hpl htxs htx hl hpc hH hR hW hpw hb1 hm1 hc1 hT1 hb2 hm2 hc2 hL2 e1 hn1 hn2 hn3 hspec hac hac' hjl hel hb3 hkp hxp
  go_enter Try.func45, Try.ntmps45
  go_wp2_with fail
  refine HME.out.mono ?_
  rintro e w1 ⟨rfl, hb1⟩
  have HB1 := Lib.hid hb1
  clear hb1 HME
  go_wp2_with fail
  refine wp_region_held_drew (S := fun W => W.cell? ⟨r, 9, none⟩ = some (.slice (some ⟨b1, o1, none⟩) n1 c1) ∧ W.cell? ⟨r, 10, none⟩ = some (.int .i64 (k : Int)) ∧ W.cell? ⟨b1, o1 + k, none⟩ = some (.slice (some ⟨b2, o2, none⟩) n2 d1) ∧ W.cell? ⟨a.gT, k * 11 + 1, none⟩ = some (.int .i64 (x : Int)) ∧ W.cell? ⟨b2, o2 + x, none⟩ = some (.slice (some ⟨b3, o3, none⟩) n3 d2)) (by kernel_rfl) ?_ (fun hgr => ?_)
  · exact HC.out _ (HB1.out.trans ((Below.refl _ _).drew.mono HB1.out.size))
  refine tkA 0 ?_
  refine tkA 1 ?_
  refine tkA 2 ?_
  refine tkA 3 ?_
  refine tkA 4 ?_
  refine tkA 5 ?_
  refine tkA 6 ?_
  refine tkA 7 ?_
  refine tkA 8 ?_
  refine tkA 9 ?_
  refine tkA 10 ?_
  refine tkA 11 ?_
  refine tkA 12 ?_
  refine tkA 13 ?_
  refine tkA 14 ?_
  refine tkA 15 ?_
  refine tkA 16 ?_
  refine tkA 17 ?_
  refine wpAnyH_done (by kernel_rfl) ?_ _
  obtain ⟨w2, hw2⟩ : ∃ y, w1.drew = y := ⟨_, rfl⟩
  have HB2 := Lib.hid (show Below w.heap.size w w2 from hw2 ▸ (HB1.out.trans ((Below.refl w1.heap.size w1).drew.mono HB1.out.size)))
  try rw [hw2]
  clear hw2
  have q3 := HC3.out _ HB2.out
  have H2 := Lib.hid (HH.out.keep HB2.out)
  have hTl := H2.out.apart.2.2.2.1
  obtain ⟨a0, a1, a2⟩ := HCA.out _ HB2.out
  have HBX := Lib.hid (HB2.out.trans (((Below.refl w2.heap.size w2).alloc (Nat.le_refl _) (.cells #[.int .i64 ac.d, .int .i64 ac.at_, .int .i64 ac.v] 53)).mono HB2.out.size))
  go_wp2_with fail
  refine (HGE.out _ HBX.out).mono ?_
  rintro e w4 ⟨rfl, h4⟩
  have H4 := Lib.hid h4
  clear h4
  go_wp2_with fail
  refine (HEN.out _ H4.out).mono ?_
  rintro e w5 ⟨rfl, hP⟩
  have HP := Lib.hid hP
  clear hP
  go_wp2
  refine bodyPost_ret (results_none rfl _ _ _) rfl ?_
  exact ⟨rfl, by rw [HS.out]; exact HP.out⟩

theorem work_any {k : Nat} {t : Tx} (h : RunW w0 w r φ a m pw pm pv (k : Int)) (hk : m.T[k]? = some t) {pl : List (List (List Ac))} (hpl : PlV w0 pv pl) {txs : List (List Ac)} (htxs : pl[k]? = some txs) (x : Nat) (htx : t.tx = (x : Int)) {l : List Ac} (hl : txs[x]? = some l) (hx1000 : x ≤ 1000) (hl1000 : l.length ≤ 1000) (j : Nat) (hpc : t.pc = (j : Int)) (hj : j ≤ l.length) (hWL : m.W.length = m.L.length) (hdo : ∀ ac, l[j]? = some ac → 0 ≤ ac.d ∧ ac.d < 3) (hH : m.H.length ≤ 1000) (hR : t.R.length ≤ 1000) (hW : t.W.length ≤ 1000) :
    Calls Try.prog 45 #[.pointer (some ⟨r, 0, none⟩)] w (DonePost w0 r a (workM l m k t) k pw pm pv) := by
  cases hac : l[j]? with
  | none => exact work_end h hk hpl htxs x htx hl hx1000 hl1000 j hpc hH hR hW (by rw [List.getElem?_eq_none_iff] at hac; omega)
  | some ac =>
    have hd := hdo ac hac
    by_cases h1 : ac.d = 1
    · exact work_put h hk hpl htxs x htx hl hx1000 hl1000 j hpc hH hR hW ac hac h1
    by_cases h2 : ac.d = 2
    · exact work_sum h hk hpl htxs x htx hl hx1000 hl1000 j hpc hH hR hW ac hac h2
    have h0 : ac.d = 0 := by omega
    cases hg : getP m k t ac.at_ with
    | none => exact work_ungot h hk hpl htxs x htx hl hx1000 hl1000 j hpc hH hR hW ac hac h0 hWL hg
    | some q =>
      obtain ⟨v, R'⟩ := q
      exact work_got h hk hpl htxs x htx hl hx1000 hl1000 j hpc hH hR hW ac hac h0 hWL v R' hg

end
end Go.Proofs.Ytngimbfojccikaa
