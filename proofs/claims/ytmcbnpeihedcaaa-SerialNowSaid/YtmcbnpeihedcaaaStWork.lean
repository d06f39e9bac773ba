/- work: an act is done. -/
import Derived.Test.YtmcbnpeihedcaaaStGet2
namespace Go.Proofs.Ytmcbnpeihedcaaa
set_option linter.unusedSimpArgs false
open Go Go.RowKit
set_option linter.unusedVariables false
set_option maxRecDepth 100000

/-- A slice of acts; of transactions; of threads' transactions. -/
def AcV (w : World) (v : Value) (l : List Ac) : Prop := Sl w 3 v l.length (l.flatMap encAc)
def TxV (w : World) (v : Value) (txs : List (List Ac)) : Prop := ∃ avs, Sl w 1 v txs.length avs ∧ ∀ (i : Nat) (av : Value) (l : List Ac), avs[i]? = some av → txs[i]? = some l → AcV w av l
def PlV (w : World) (v : Value) (pl : List (List (List Ac))) : Prop := ∃ tvs, Sl w 1 v pl.length tvs ∧ ∀ (i : Nat) (tv : Value) (l : List (List Ac)), tvs[i]? = some tv → pl[i]? = some l → TxV w tv l
theorem TxV.below {w w' : World} {v : Value} {l : List (List Ac)} (h : TxV w v l) (hb : Below w.heap.size w w') : TxV w' v l := by
  obtain ⟨avs, h1, h2⟩ := h
  exact ⟨avs, h1.below hb, fun i av l e1 e2 => Sl.below (h2 i av l e1 e2) hb⟩
theorem PlV.below {w w' : World} {v : Value} {l : List (List (List Ac))} (h : PlV w v l) (hb : Below w.heap.size w w') : PlV w' v l := by
  obtain ⟨tvs, h1, h2⟩ := h
  exact ⟨tvs, h1.below hb, fun i tv l e1 e2 => (h2 i tv l e1 e2).below hb⟩
theorem sl1_at {w : World} {v : Value} {n : Nat} {vs : List Value} (h : Sl w 1 v n vs) {k : Nat} (hk : k < n) : ∃ b o c u, v = .slice (some ⟨b, o, none⟩) n c ∧ b < w.heap.size ∧ n ≤ c ∧ c ≤ maxLen ∧ vs[k]? = some u ∧ w.cell? ⟨b, o + k, none⟩ = some u := by
  obtain ⟨hl, ⟨_, h0⟩ | ⟨a, c, rfl, h1, h2, h3⟩⟩ := h
  · omega
  · obtain ⟨hs, hC⟩ := h3 (by omega)
    obtain ⟨b, o, s⟩ := a
    simp only at hs hC
    subst hs
    have hkl : k < vs.length := by omega
    exact ⟨b, o, c, vs[k], rfl, hC.1, h1, h2, List.getElem?_eq_getElem hkl, hC.2 k _ (List.getElem?_eq_getElem hkl)⟩
/-- Where thread k's transactions stand. -/
theorem PlV.at_ {w : World} {v : Value} {pl : List (List (List Ac))} (h : PlV w v pl) {k : Nat} {txs : List (List Ac)} (hk : pl[k]? = some txs) : ∃ b o c A d, v = .slice (some ⟨b, o, none⟩) pl.length c ∧ b < w.heap.size ∧ pl.length ≤ maxLen ∧ w.cell? ⟨b, o + k, none⟩ = some (.slice A txs.length d) ∧ TxV w (.slice A txs.length d) txs := by
  obtain ⟨tvs, h1, h2⟩ := h
  obtain ⟨b, o, c, u, rfl, hb, h3, h4, hu, hc⟩ := sl1_at h1 (List.getElem?_eq_some_iff.1 hk).1
  have ht := h2 k u txs hu hk
  obtain ⟨avs, h5, h6⟩ := id ht
  obtain ⟨A, d, rfl, _, _⟩ := h5.form
  exact ⟨b, o, c, A, d, rfl, hb, by omega, hc, ht⟩
theorem TxV.at_ {w : World} {v : Value} {txs : List (List Ac)} (h : TxV w v txs) {k : Nat} {l : List Ac} (hk : txs[k]? = some l) : ∃ b o c A d, v = .slice (some ⟨b, o, none⟩) txs.length c ∧ b < w.heap.size ∧ txs.length ≤ maxLen ∧ w.cell? ⟨b, o + k, none⟩ = some (.slice A l.length d) ∧ AcV w (.slice A l.length d) l := by
  obtain ⟨tvs, h1, h2⟩ := h
  obtain ⟨b, o, c, u, rfl, hb, h3, h4, hu, hc⟩ := sl1_at h1 (List.getElem?_eq_some_iff.1 hk).1
  have ht := h2 k u l hu hk
  obtain ⟨A, d, rfl, _, _⟩ := Sl.form ht
  exact ⟨b, o, c, A, d, rfl, hb, by omega, hc, ht⟩

section
variable {w0 w w' : World} {r : Nat} {φ : Nat → Nat} {a : Ad} {m : Mm} {pw pm : Int} {pv : Value}

theorem get_any {k : Nat} {t : Tx} (h : RunW w0 w r φ a m pw pm pv (k : Int)) (hk : m.T[k]? = some t) (at_ : Int) (hWL : m.W.length = m.L.length) (hR : t.R.length ≤ 1000) :
    Calls Try.prog 56 #[.pointer (some ⟨r, 0, none⟩), .int .i64 at_] w (GetPost w0 r φ a m k t (getP m k t at_) pw pm pv) := by
  unfold getP
  cases hp : t.W[t.W.findIdx (fun p => p.at_ == at_)]? with
  | some p => exact get_own h hk at_ _ p rfl hp
  | none =>
    cases hs : seesL m.now m.mx m.L at_ t.rv (k : Int) with
    | false => exact get_no h hk at_ hp hs
    | true =>
      have hb : 0 ≤ at_ ∧ at_ < m.L.length := by
        unfold seesL at hs
        split at hs
        · rename_i h1; exact h1.2
        · cases hs
      obtain ⟨q, rfl⟩ : ∃ q : Nat, at_ = (q : Int) := ⟨at_.toNat, by omega⟩
      have hq : q < m.W.length := by omega
      have := get_yes h hk (q : Int) hp hs q rfl hq hR
      have e : m.W.getD ((q : Int)).toNat 0 = m.W[q] := by rw [Int.toNat_natCast]; simp [List.getD, hq]
      rw [← e] at this
      exact this

set_option maxHeartbeats 4000000 in
theorem work_end {k : Nat} {t : Tx} (h : RunW w0 w r φ a m pw pm pv (k : Int)) (hk : m.T[k]? = some t) {pl : List (List (List Ac))} (hpl : PlV w0 pv pl) {txs : List (List Ac)} (htxs : pl[k]? = some txs) (x : Nat) (htx : t.tx = (x : Int)) {l : List Ac} (hl : txs[x]? = some l) (hx1000 : x ≤ 1000) (hl1000 : l.length ≤ 1000) (j : Nat) (hpc : t.pc = (j : Int)) (hH : m.H.length ≤ 1000) (hR : t.R.length ≤ 1000) (hW : t.W.length ≤ 1000) (hj : j = l.length) :
    Calls Try.prog 43 #[.pointer (some ⟨r, 0, none⟩)] w (DonePost w0 r a (workM l m k t) k pw pm pv) := by
  have hspec : workM l m k t = if t.W.length = 0 then endM m k t 0 else { m with T := m.T.set k { t with st := 2, i := 0 } } := by
    unfold workM
    rw [hpc, Int.toNat_natCast, List.getElem?_eq_none (by omega)]
  have hpw := hpl.below h.base
  obtain ⟨b1, o1, c1, A1, d1, e1, hb1, hm1, hc1, hT1⟩ := hpw.at_ htxs
  obtain ⟨b2, o2, c2, A2, d2, e2, hb2, hm2, hc2, hL2⟩ := hT1.at_ hl
  have HME := Lib.hid (me_any h hk)
  have HH := Lib.hid h
  have HK := Lib.hid hk
  have hkp : k < pl.length := (List.getElem?_eq_some_iff.1 htxs).1
  have hxp : x < txs.length := (List.getElem?_eq_some_iff.1 hl).1
  obtain ⟨n1, hn1⟩ : ∃ n, n = pl.length := ⟨_, rfl⟩
  obtain ⟨n2, hn2⟩ : ∃ n, n = txs.length := ⟨_, rfl⟩
  obtain ⟨n3, hn3⟩ : ∃ n, n = l.length := ⟨_, rfl⟩
  injection e2 with e2 _ e2c
  subst e2 e2c
  rw [← hn1] at e1
  rw [← hn2] at hc1
  rw [← hn3] at hc2
  have HC := Lib.hid (fun W (hb : Below w.heap.size w W) => (show W.cell? ⟨r, 9, none⟩ = some (.slice (some ⟨b1, o1, none⟩) n1 c1) ∧ W.cell? ⟨r, 10, none⟩ = some (.int .i64 (k : Int)) ∧ W.cell? ⟨b1, o1 + k, none⟩ = some (.slice (some ⟨b2, o2, none⟩) n2 d1) ∧ W.cell? ⟨a.gT, k * 11 + 1, none⟩ = some (.int .i64 (x : Int)) ∧ W.cell? ⟨b2, o2 + x, none⟩ = some (.slice A2 n3 d2) from
    ⟨by rw [← e1]; exact (h.keep hb).rcells 9, (h.keep hb).rcells 10, (hb.cell (p := ⟨b1, o1 + k, none⟩) hb1).trans hc1, by rw [← htx]; exact (h.keep hb).tcells hk (j := 1) rfl, (hb.cell (p := ⟨b2, o2 + x, none⟩) hb2).trans hc2⟩))
  have HC3 := Lib.hid (fun W (hb : Below w.heap.size w W) => (show W.cell? ⟨a.gT, k * 11 + 3, none⟩ = some (.int .i64 (j : Int)) from by rw [← hpc]; exact (h.keep hb).tcells hk (j := 3) rfl))
  have hk0 : (0 : Int) ≤ (k : Int) := by omega
  have hk1 : (k : Int) < (n1 : Int) := by omega
  have hx0 : (0 : Int) ≤ (x : Int) := by omega
  have hx1 : (x : Int) < (n2 : Int) := by omega
  have HTX := Lib.hid htx
  have HPC := Lib.hid hpc
  have HN3 := Lib.hid hn3
  have HHB := Lib.hid (And.intro hH (And.intro hR hW))
  have HS := Lib.hid hspec
  obtain ⟨n4, hn4⟩ : ∃ n, n = t.W.length := ⟨_, rfl⟩
  have HC8 := Lib.hid (fun W (hb : Below w.heap.size w W) => (show W.cell? ⟨a.gT, k * 11 + 8, none⟩ = some (.slice t.wA n4 t.wc) from by rw [hn4]; exact (h.keep hb).tcells hk (j := 8) rfl))
  have HEND := Lib.hid (fun W (hb : Below w.heap.size w W) => end_any (h.keep hb) hk 0 hH hR hW ⟨by omega, by omega⟩)
  have HN4 := Lib.hid hn4
  have hjb : ((j : Int) == (n3 : Int)) = true := by simp; omega
  clear h hk hpl htxs htx hl hpc hH hR hW hpw hb1 hm1 hc1 hT1 hb2 hm2 hc2 hL2 e1 hn1 hn2 hn3 hj hspec hn4 hkp hxp
  go_enter Try.func43, Try.ntmps43
  go_wp2_with fail
  refine HME.out.mono ?_
  rintro e w1 ⟨rfl, hb1⟩
  have HB1 := Lib.hid hb1
  clear hb1 HME
  go_wp2_with fail
  refine wp_region_held_drew (S := fun W => W.cell? ⟨r, 9, none⟩ = some (.slice (some ⟨b1, o1, none⟩) n1 c1) ∧ W.cell? ⟨r, 10, none⟩ = some (.int .i64 (k : Int)) ∧ W.cell? ⟨b1, o1 + k, none⟩ = some (.slice (some ⟨b2, o2, none⟩) n2 d1) ∧ W.cell? ⟨a.gT, k * 11 + 1, none⟩ = some (.int .i64 (x : Int)) ∧ W.cell? ⟨b2, o2 + x, none⟩ = some (.slice A2 n3 d2)) (by kernel_rfl) ?_ (fun hHeldbr => ?_)
  · exact HC.out _ (HB1.out.trans ((Below.refl _ _).drew.mono HB1.out.size))
  refine tkW 0 { dst := some 9, op := Op.move (Operand.tmp 0), type := 68, pos := "stm.go:124", after := _, guard := none } (v := ?vbr0) rfl (Or.inl ⟨by rfl, ?hybr0⟩) ?restbr0
  case hybr0 => (intro w hSw; (try dsimp only at hSw); go_simp <;> with_reducible rfl)
  try simp only [putW, setZ, setS]
  refine tkW 1 { dst := some 10, op := Op.nilCheck (Operand.tmp 9), type := 0, pos := "stm.go:124", after := _, guard := none } (v := ?vbr1) rfl (Or.inl ⟨by rfl, ?hybr1⟩) ?restbr1
  case hybr1 => (intro w hSw; (try dsimp only at hSw); go_simp <;> with_reducible rfl)
  try simp only [putW, setZ, setS]
  refine tkW 2 { dst := some 11, op := Op.fieldAddr 70 (Operand.tmp 10) 1, type := 0, pos := "stm.go:124", after := _, guard := none } (v := ?vbr2) rfl (Or.inl ⟨by rfl, ?hybr2⟩) ?restbr2
  case hybr2 => (intro w hSw; (try dsimp only at hSw); go_simp <;> with_reducible rfl)
  try simp only [putW, setZ, setS]
  refine tkW 3 { dst := some 12, op := Op.fieldAddr 39 (Operand.tmp 11) 2, type := 0, pos := "stm.go:124", after := _, guard := none } (v := ?vbr3) rfl (Or.inl ⟨by rfl, ?hybr3⟩) ?restbr3
  case hybr3 => (intro w hSw; (try dsimp only at hSw); go_simp <;> with_reducible rfl)
  try simp only [putW, setZ, setS]
  refine tkW 4 { dst := some 13, op := Op.load 37 (Operand.tmp 12), type := 37, pos := "stm.go:124", after := _, guard := none } (v := ?vbr4) rfl (Or.inl ⟨by rfl, ?hybr4⟩) ?restbr4
  case hybr4 => (intro w hSw; (try dsimp only at hSw); go_simp <;> with_reducible rfl)
  try simp only [putW, setZ, setS]
  refine tkW 5 { dst := some 14, op := Op.move (Operand.tmp 0), type := 68, pos := "stm.go:124", after := _, guard := none } (v := ?vbr5) rfl (Or.inl ⟨by rfl, ?hybr5⟩) ?restbr5
  case hybr5 => (intro w hSw; (try dsimp only at hSw); go_simp <;> with_reducible rfl)
  try simp only [putW, setZ, setS]
  refine tkW 6 { dst := some 15, op := Op.nilCheck (Operand.tmp 14), type := 0, pos := "stm.go:124", after := _, guard := none } (v := ?vbr6) rfl (Or.inl ⟨by rfl, ?hybr6⟩) ?restbr6
  case hybr6 => (intro w hSw; (try dsimp only at hSw); go_simp <;> with_reducible rfl)
  try simp only [putW, setZ, setS]
  refine tkW 7 { dst := some 16, op := Op.fieldAddr 70 (Operand.tmp 15) 2, type := 0, pos := "stm.go:124", after := _, guard := none } (v := ?vbr7) rfl (Or.inl ⟨by rfl, ?hybr7⟩) ?restbr7
  case hybr7 => (intro w hSw; (try dsimp only at hSw); go_simp <;> with_reducible rfl)
  try simp only [putW, setZ, setS]
  refine tkW 8 { dst := some 17, op := Op.load 3 (Operand.tmp 16), type := 3, pos := "stm.go:124", after := _, guard := none } (v := ?vbr8) rfl (Or.inl ⟨by rfl, ?hybr8⟩) ?restbr8
  case hybr8 => (intro w hSw; (try dsimp only at hSw); go_simp <;> with_reducible rfl)
  try simp only [putW, setZ, setS]
  refine tkW 9 { dst := some 18, op := Op.indexAddr 37 (Operand.tmp 13) (Operand.tmp 17), type := 0, pos := "stm.go:124", after := _, guard := none } (v := ?vbr9) rfl (Or.inl ⟨by rfl, ?hybr9⟩) ?restbr9
  case hybr9 => (intro w hSw; (try dsimp only at hSw); go_simp <;> with_reducible rfl)
  try simp only [putW, setZ, setS]
  refine tkW 10 { dst := some 19, op := Op.load 63 (Operand.tmp 18), type := 63, pos := "stm.go:124", after := _, guard := none } (v := ?vbr10) rfl (Or.inl ⟨by rfl, ?hybr10⟩) ?restbr10
  case hybr10 => (intro w hSw; (try dsimp only at hSw); go_simp <;> with_reducible rfl)
  try simp only [putW, setZ, setS]
  refine tkW 11 { dst := some 20, op := Op.move (Operand.tmp 2), type := 84, pos := "stm.go:124", after := _, guard := none } (v := ?vbr11) rfl (Or.inl ⟨by rfl, ?hybr11⟩) ?restbr11
  case hybr11 => (intro w hSw; (try dsimp only at hSw); go_simp <;> with_reducible rfl)
  try simp only [putW, setZ, setS]
  refine tkW 12 { dst := some 21, op := Op.nilCheck (Operand.tmp 20), type := 0, pos := "stm.go:124", after := _, guard := none } (v := ?vbr12) rfl (Or.inl ⟨by rfl, ?hybr12⟩) ?restbr12
  case hybr12 => (intro w hSw; (try dsimp only at hSw); go_simp <;> with_reducible rfl)
  try simp only [putW, setZ, setS]
  refine tkW 13 { dst := some 22, op := Op.fieldAddr 52 (Operand.tmp 21) 1, type := 0, pos := "stm.go:124", after := _, guard := none } (v := ?vbr13) rfl (Or.inl ⟨by rfl, ?hybr13⟩) ?restbr13
  case hybr13 => (intro w hSw; (try dsimp only at hSw); go_simp <;> with_reducible rfl)
  try simp only [putW, setZ, setS]
  refine tkW 14 { dst := some 23, op := Op.load 3 (Operand.tmp 22), type := 3, pos := "stm.go:124", after := _, guard := none } (v := ?vbr14) rfl (Or.inl ⟨by rfl, ?hybr14⟩) ?restbr14
  case hybr14 => (intro w hSw; (try dsimp only at hSw); go_simp <;> with_reducible rfl)
  try simp only [putW, setZ, setS]
  refine tkW 15 { dst := some 24, op := Op.indexAddr 63 (Operand.tmp 19) (Operand.tmp 23), type := 0, pos := "stm.go:124", after := _, guard := none } (v := ?vbr15) rfl (Or.inl ⟨by rfl, ?hybr15⟩) ?restbr15
  case hybr15 => (intro w hSw; (try dsimp only at hSw); go_simp <;> with_reducible rfl)
  try simp only [putW, setZ, setS]
  refine tkW 16 { dst := some 25, op := Op.load 64 (Operand.tmp 24), type := 64, pos := "stm.go:124", after := _, guard := none } (v := ?vbr16) rfl (Or.inl ⟨by rfl, ?hybr16⟩) ?restbr16
  case hybr16 => (intro w hSw; (try dsimp only at hSw); go_simp <;> with_reducible rfl)
  try simp only [putW, setZ, setS]
  refine tkW 17 { dst := some 3, op := Op.assign (Operand.tmp 25), type := 64, pos := "stm.go:124", after := _, guard := none } (v := ?vbr17) rfl (Or.inl ⟨by rfl, ?hybr17⟩) ?restbr17
  case hybr17 => (intro w hSw; (try dsimp only at hSw); go_simp <;> with_reducible rfl)
  try simp only [putW, setZ, setS]
  refine wpAnyH_done (by kernel_rfl) ?_ _
  obtain ⟨w2, hw2⟩ : ∃ y, w1.drew = y := ⟨_, rfl⟩
  have HB2 := Lib.hid (show Below w.heap.size w w2 from hw2 ▸ (HB1.out.trans ((Below.refl w1.heap.size w1).drew.mono HB1.out.size)))
  try rw [hw2]
  clear hw2
  have q3 := HC3.out _ HB2.out
  have H2 := Lib.hid (HH.out.keep HB2.out)
  have hTl := H2.out.apart.2.2.2.1
  have q8 := HC8.out _ HB2.out
  by_cases h0 : n4 = 0
  · have h0b : ((n4 : Int) == 0) = true := by simp; omega
    have HSE := Lib.hid (HS.out.trans (if_pos (by rw [← HN4.out]; exact h0)))
    clear h0
    go_wp2_with fail
    refine (HEND.out _ HB2.out).mono ?_
    rintro e w3 ⟨rfl, hP⟩
    have HP := Lib.hid hP
    clear hP
    go_wp2
    refine bodyPost_ret (results_none rfl _ _ _) rfl ?_
    exact ⟨rfl, by rw [HSE.out]; exact HP.out⟩
  · have h0b : ((n4 : Int) == 0) = false := by simp; omega
    have HSE := Lib.hid (HS.out.trans (if_neg (by rw [← HN4.out]; exact h0)))
    have d0 := H2.out.tcells HK.out (j := 0) rfl
    have d9 := H2.out.tcells HK.out (j := 9) rfl
    have f0 := H2.out.tfree (k * 11)
    have f9 := H2.out.tfree (k * 11 + 9)
    simp only [Nat.add_zero] at d0
    have hlt := H2.out.tlt HK.out
    clear h0
    go_wp2
    refine bodyPost_ret (results_none rfl _ _ _) rfl ?_
    refine ⟨rfl, _, _, _, ((H2.out.tc0 HK.out).tc hlt { t with st := 2 } (j := 0) (by omega) rfl ⟨rfl, rfl, rfl, rfl, rfl, rfl⟩).tc hlt { t with st := 2, i := 0 } (j := 9) (by omega) rfl ⟨rfl, rfl, rfl, rfl, rfl, rfl⟩, ?_⟩
    rw [HSE.out]

set_option maxHeartbeats 4000000 in
theorem work_put {k : Nat} {t : Tx} (h : RunW w0 w r φ a m pw pm pv (k : Int)) (hk : m.T[k]? = some t) {pl : List (List (List Ac))} (hpl : PlV w0 pv pl) {txs : List (List Ac)} (htxs : pl[k]? = some txs) (x : Nat) (htx : t.tx = (x : Int)) {l : List Ac} (hl : txs[x]? = some l) (hx1000 : x ≤ 1000) (hl1000 : l.length ≤ 1000) (j : Nat) (hpc : t.pc = (j : Int)) (hH : m.H.length ≤ 1000) (hR : t.R.length ≤ 1000) (hW : t.W.length ≤ 1000) (ac : Ac) (hac : l[j]? = some ac) (hd : ac.d = 1) :
    Calls Try.prog 43 #[.pointer (some ⟨r, 0, none⟩)] w (DonePost w0 r a (workM l m k t) k pw pm pv) := by
  have hspec : workM l m k t = actM m k t ac := by
    unfold workM
    rw [hpc, Int.toNat_natCast, hac]
  have hjl : j < l.length := (List.getElem?_eq_some_iff.1 hac).1
  have hpw := hpl.below h.base
  obtain ⟨b1, o1, c1, A1, d1, e1, hb1, hm1, hc1, hT1⟩ := hpw.at_ htxs
  obtain ⟨b2, o2, c2, A2, d2, e2, hb2, hm2, hc2, hL2⟩ := hT1.at_ hl
  have HME := Lib.hid (me_any h hk)
  have HH := Lib.hid h
  have HK := Lib.hid hk
  have hkp : k < pl.length := (List.getElem?_eq_some_iff.1 htxs).1
  have hxp : x < txs.length := (List.getElem?_eq_some_iff.1 hl).1
  obtain ⟨n1, hn1⟩ : ∃ n, n = pl.length := ⟨_, rfl⟩
  obtain ⟨n2, hn2⟩ : ∃ n, n = txs.length := ⟨_, rfl⟩
  obtain ⟨n3, hn3⟩ : ∃ n, n = l.length := ⟨_, rfl⟩
  injection e2 with e2 _ e2c
  subst e2 e2c
  rw [← hn1] at e1
  rw [← hn2] at hc1
  rw [← hn3] at hc2
  have HC := Lib.hid (fun W (hb : Below w.heap.size w W) => (show W.cell? ⟨r, 9, none⟩ = some (.slice (some ⟨b1, o1, none⟩) n1 c1) ∧ W.cell? ⟨r, 10, none⟩ = some (.int .i64 (k : Int)) ∧ W.cell? ⟨b1, o1 + k, none⟩ = some (.slice (some ⟨b2, o2, none⟩) n2 d1) ∧ W.cell? ⟨a.gT, k * 11 + 1, none⟩ = some (.int .i64 (x : Int)) ∧ W.cell? ⟨b2, o2 + x, none⟩ = some (.slice A2 n3 d2) from
    ⟨by rw [← e1]; exact (h.keep hb).rcells 9, (h.keep hb).rcells 10, (hb.cell (p := ⟨b1, o1 + k, none⟩) hb1).trans hc1, by rw [← htx]; exact (h.keep hb).tcells hk (j := 1) rfl, (hb.cell (p := ⟨b2, o2 + x, none⟩) hb2).trans hc2⟩))
  have HC3 := Lib.hid (fun W (hb : Below w.heap.size w W) => (show W.cell? ⟨a.gT, k * 11 + 3, none⟩ = some (.int .i64 (j : Int)) from by rw [← hpc]; exact (h.keep hb).tcells hk (j := 3) rfl))
  have hk0 : (0 : Int) ≤ (k : Int) := by omega
  have hk1 : (k : Int) < (n1 : Int) := by omega
  have hx0 : (0 : Int) ≤ (x : Int) := by omega
  have hx1 : (x : Int) < (n2 : Int) := by omega
  have HTX := Lib.hid htx
  have HPC := Lib.hid hpc
  have HN3 := Lib.hid hn3
  have HHB := Lib.hid (And.intro hH (And.intro hR hW))
  obtain ⟨b3, o3, eA, hb3, hel⟩ := Sl.pos encAc encAc_len hL2 (by omega)
  subst eA
  have hac' : l[j] = ac := by rw [List.getElem?_eq_getElem hjl] at hac; exact Option.some.inj hac
  have HCA := Lib.hid (fun W (hb : Below w.heap.size w W) => (show W.cell? ⟨b3, o3 + j * 3, none⟩ = some (.int .i64 ac.d) ∧ W.cell? ⟨b3, o3 + j * 3 + 1, none⟩ = some (.int .i64 ac.at_) ∧ W.cell? ⟨b3, o3 + j * 3 + 2, none⟩ = some (.int .i64 ac.v) from
    ⟨hel W hb j hjl 0 _ (by rw [hac']; rfl), hel W hb j hjl 1 _ (by rw [hac']; rfl), hel W hb j hjl 2 _ (by rw [hac']; rfl)⟩))
  have hj0 : (0 : Int) ≤ (j : Int) := by omega
  have hjz : (j : Int) < (n3 : Int) := by omega
  have hjb : ((j : Int) == (n3 : Int)) = false := by simp; omega
  have hwr : IntKind.i64.wrap ((j : Int) + 1) = (j : Int) + 1 := by rw [IntKind.wrap_i64]; omega
  have HS := Lib.hid (show workM l m k t = { m with T := m.T.set k { t with W := writeP t.W ac.at_ ac.v, pc := t.pc + 1 } } from by rw [hspec]; unfold actM; rw [if_pos hd])
  have hdb : (ac.d == 1) = true := by simpa using hd
  have HWR := Lib.hid (fun W (hb : Below w.heap.size w W) => write_any (h.keep hb) hk ac.at_ ac.v hW)
  clear hd
  clear h hk hpl htxs htx hl hpc hH hR hW hpw hb1 hm1 hc1 hT1 hb2 hm2 hc2 hL2 e1 hn1 hn2 hn3 hspec hac hac' hjl hel hb3 hkp hxp
  go_enter Try.func43, Try.ntmps43
  go_wp2_with fail
  refine HME.out.mono ?_
  rintro e w1 ⟨rfl, hb1⟩
  have HB1 := Lib.hid hb1
  clear hb1 HME
  go_wp2_with fail
  refine wp_region_held_drew (S := fun W => W.cell? ⟨r, 9, none⟩ = some (.slice (some ⟨b1, o1, none⟩) n1 c1) ∧ W.cell? ⟨r, 10, none⟩ = some (.int .i64 (k : Int)) ∧ W.cell? ⟨b1, o1 + k, none⟩ = some (.slice (some ⟨b2, o2, none⟩) n2 d1) ∧ W.cell? ⟨a.gT, k * 11 + 1, none⟩ = some (.int .i64 (x : Int)) ∧ W.cell? ⟨b2, o2 + x, none⟩ = some (.slice (some ⟨b3, o3, none⟩) n3 d2)) (by kernel_rfl) ?_ (fun hHeldcr => ?_)
  · exact HC.out _ (HB1.out.trans ((Below.refl _ _).drew.mono HB1.out.size))
  refine tkW 0 { dst := some 9, op := Op.move (Operand.tmp 0), type := 68, pos := "stm.go:124", after := _, guard := none } (v := ?vcr0) rfl (Or.inl ⟨by rfl, ?hycr0⟩) ?restcr0
  case hycr0 => (intro w hSw; (try dsimp only at hSw); go_simp <;> with_reducible rfl)
  try simp only [putW, setZ, setS]
  refine tkW 1 { dst := some 10, op := Op.nilCheck (Operand.tmp 9), type := 0, pos := "stm.go:124", after := _, guard := none } (v := ?vcr1) rfl (Or.inl ⟨by rfl, ?hycr1⟩) ?restcr1
  case hycr1 => (intro w hSw; (try dsimp only at hSw); go_simp <;> with_reducible rfl)
  try simp only [putW, setZ, setS]
  refine tkW 2 { dst := some 11, op := Op.fieldAddr 70 (Operand.tmp 10) 1, type := 0, pos := "stm.go:124", after := _, guard := none } (v := ?vcr2) rfl (Or.inl ⟨by rfl, ?hycr2⟩) ?restcr2
  case hycr2 => (intro w hSw; (try dsimp only at hSw); go_simp <;> with_reducible rfl)
  try simp only [putW, setZ, setS]
  refine tkW 3 { dst := some 12, op := Op.fieldAddr 39 (Operand.tmp 11) 2, type := 0, pos := "stm.go:124", after := _, guard := none } (v := ?vcr3) rfl (Or.inl ⟨by rfl, ?hycr3⟩) ?restcr3
  case hycr3 => (intro w hSw; (try dsimp only at hSw); go_simp <;> with_reducible rfl)
  try simp only [putW, setZ, setS]
  refine tkW 4 { dst := some 13, op := Op.load 37 (Operand.tmp 12), type := 37, pos := "stm.go:124", after := _, guard := none } (v := ?vcr4) rfl (Or.inl ⟨by rfl, ?hycr4⟩) ?restcr4
  case hycr4 => (intro w hSw; (try dsimp only at hSw); go_simp <;> with_reducible rfl)
  try simp only [putW, setZ, setS]
  refine tkW 5 { dst := some 14, op := Op.move (Operand.tmp 0), type := 68, pos := "stm.go:124", after := _, guard := none } (v := ?vcr5) rfl (Or.inl ⟨by rfl, ?hycr5⟩) ?restcr5
  case hycr5 => (intro w hSw; (try dsimp only at hSw); go_simp <;> with_reducible rfl)
  try simp only [putW, setZ, setS]
  refine tkW 6 { dst := some 15, op := Op.nilCheck (Operand.tmp 14), type := 0, pos := "stm.go:124", after := _, guard := none } (v := ?vcr6) rfl (Or.inl ⟨by rfl, ?hycr6⟩) ?restcr6
  case hycr6 => (intro w hSw; (try dsimp only at hSw); go_simp <;> with_reducible rfl)
  try simp only [putW, setZ, setS]
  refine tkW 7 { dst := some 16, op := Op.fieldAddr 70 (Operand.tmp 15) 2, type := 0, pos := "stm.go:124", after := _, guard := none } (v := ?vcr7) rfl (Or.inl ⟨by rfl, ?hycr7⟩) ?restcr7
  case hycr7 => (intro w hSw; (try dsimp only at hSw); go_simp <;> with_reducible rfl)
  try simp only [putW, setZ, setS]
  refine tkW 8 { dst := some 17, op := Op.load 3 (Operand.tmp 16), type := 3, pos := "stm.go:124", after := _, guard := none } (v := ?vcr8) rfl (Or.inl ⟨by rfl, ?hycr8⟩) ?restcr8
  case hycr8 => (intro w hSw; (try dsimp only at hSw); go_simp <;> with_reducible rfl)
  try simp only [putW, setZ, setS]
  refine tkW 9 { dst := some 18, op := Op.indexAddr 37 (Operand.tmp 13) (Operand.tmp 17), type := 0, pos := "stm.go:124", after := _, guard := none } (v := ?vcr9) rfl (Or.inl ⟨by rfl, ?hycr9⟩) ?restcr9
  case hycr9 => (intro w hSw; (try dsimp only at hSw); go_simp <;> with_reducible rfl)
  try simp only [putW, setZ, setS]
  refine tkW 10 { dst := some 19, op := Op.load 63 (Operand.tmp 18), type := 63, pos := "stm.go:124", after := _, guard := none } (v := ?vcr10) rfl (Or.inl ⟨by rfl, ?hycr10⟩) ?restcr10
  case hycr10 => (intro w hSw; (try dsimp only at hSw); go_simp <;> with_reducible rfl)
  try simp only [putW, setZ, setS]
  refine tkW 11 { dst := some 20, op := Op.move (Operand.tmp 2), type := 84, pos := "stm.go:124", after := _, guard := none } (v := ?vcr11) rfl (Or.inl ⟨by rfl, ?hycr11⟩) ?restcr11
  case hycr11 => (intro w hSw; (try dsimp only at hSw); go_simp <;> with_reducible rfl)
  try simp only [putW, setZ, setS]
  refine tkW 12 { dst := some 21, op := Op.nilCheck (Operand.tmp 20), type := 0, pos := "stm.go:124", after := _, guard := none } (v := ?vcr12) rfl (Or.inl ⟨by rfl, ?hycr12⟩) ?restcr12
  case hycr12 => (intro w hSw; (try dsimp only at hSw); go_simp <;> with_reducible rfl)
  try simp only [putW, setZ, setS]
  refine tkW 13 { dst := some 22, op := Op.fieldAddr 52 (Operand.tmp 21) 1, type := 0, pos := "stm.go:124", after := _, guard := none } (v := ?vcr13) rfl (Or.inl ⟨by rfl, ?hycr13⟩) ?restcr13
  case hycr13 => (intro w hSw; (try dsimp only at hSw); go_simp <;> with_reducible rfl)
  try simp only [putW, setZ, setS]
  refine tkW 14 { dst := some 23, op := Op.load 3 (Operand.tmp 22), type := 3, pos := "stm.go:124", after := _, guard := none } (v := ?vcr14) rfl (Or.inl ⟨by rfl, ?hycr14⟩) ?restcr14
  case hycr14 => (intro w hSw; (try dsimp only at hSw); go_simp <;> with_reducible rfl)
  try simp only [putW, setZ, setS]
  refine tkW 15 { dst := some 24, op := Op.indexAddr 63 (Operand.tmp 19) (Operand.tmp 23), type := 0, pos := "stm.go:124", after := _, guard := none } (v := ?vcr15) rfl (Or.inl ⟨by rfl, ?hycr15⟩) ?restcr15
  case hycr15 => (intro w hSw; (try dsimp only at hSw); go_simp <;> with_reducible rfl)
  try simp only [putW, setZ, setS]
  refine tkW 16 { dst := some 25, op := Op.load 64 (Operand.tmp 24), type := 64, pos := "stm.go:124", after := _, guard := none } (v := ?vcr16) rfl (Or.inl ⟨by rfl, ?hycr16⟩) ?restcr16
  case hycr16 => (intro w hSw; (try dsimp only at hSw); go_simp <;> with_reducible rfl)
  try simp only [putW, setZ, setS]
  refine tkW 17 { dst := some 3, op := Op.assign (Operand.tmp 25), type := 64, pos := "stm.go:124", after := _, guard := none } (v := ?vcr17) rfl (Or.inl ⟨by rfl, ?hycr17⟩) ?restcr17
  case hycr17 => (intro w hSw; (try dsimp only at hSw); go_simp <;> with_reducible rfl)
  try simp only [putW, setZ, setS]
  refine wpAnyH_done (by kernel_rfl) ?_ _
  obtain ⟨w2, hw2⟩ : ∃ y, w1.drew = y := ⟨_, rfl⟩
  have HB2 := Lib.hid (show Below w.heap.size w w2 from hw2 ▸ (HB1.out.trans ((Below.refl w1.heap.size w1).drew.mono HB1.out.size)))
  try rw [hw2]
  clear hw2
  have q3 := HC3.out _ HB2.out
  have H2 := Lib.hid (HH.out.keep HB2.out)
  have hTl := H2.out.apart.2.2.2.1
  obtain ⟨a0, a1, a2⟩ := HCA.out _ HB2.out
  have HBX := Lib.hid (HB2.out.trans (((Below.refl w2.heap.size w2).alloc (Nat.le_refl _) (.cells #[.int .i64 ac.d, .int .i64 ac.at_, .int .i64 ac.v] 80)).mono HB2.out.size))
  go_wp2_with fail
  refine (HWR.out _ HBX.out).mono ?_
  rintro e w4 ⟨rfl, φ4, A4, c4, h4⟩
  have H4 := Lib.hid h4
  clear h4
  have d3 : w4.cell? ⟨a.gT, k * 11 + 3, none⟩ = some (.int .i64 (j : Int)) := by rw [← HPC.out]; exact H4.out.tcells (RunW.set_at k HK.out _) (j := 3) rfl
  have f3 := H4.out.tfree (k * 11 + 3)
  have hlt := H2.out.tlt HK.out
  have h5 := H4.out.tc hlt { t with wA := A4, wc := c4, W := writeP t.W ac.at_ ac.v, pc := t.pc + 1 } (j := 3) (u := .int .i64 ((j : Int) + 1)) (by omega) (by simp [encTx, HPC.out]) ⟨rfl, rfl, rfl, rfl, rfl, rfl⟩
  have H5 := Lib.hid h5
  clear h5
  go_wp2
  go_end0
  refine ⟨rfl, _, _, _, H5.out, ?_⟩
  rw [HS.out, er_set, er_set]
  rfl

set_option maxHeartbeats 4000000 in
theorem work_sum {k : Nat} {t : Tx} (h : RunW w0 w r φ a m pw pm pv (k : Int)) (hk : m.T[k]? = some t) {pl : List (List (List Ac))} (hpl : PlV w0 pv pl) {txs : List (List Ac)} (htxs : pl[k]? = some txs) (x : Nat) (htx : t.tx = (x : Int)) {l : List Ac} (hl : txs[x]? = some l) (hx1000 : x ≤ 1000) (hl1000 : l.length ≤ 1000) (j : Nat) (hpc : t.pc = (j : Int)) (hH : m.H.length ≤ 1000) (hR : t.R.length ≤ 1000) (hW : t.W.length ≤ 1000) (ac : Ac) (hac : l[j]? = some ac) (hd : ac.d = 2) :
    Calls Try.prog 43 #[.pointer (some ⟨r, 0, none⟩)] w (DonePost w0 r a (workM l m k t) k pw pm pv) := by
  have hspec : workM l m k t = actM m k t ac := by
    unfold workM
    rw [hpc, Int.toNat_natCast, hac]
  have hjl : j < l.length := (List.getElem?_eq_some_iff.1 hac).1
  have hpw := hpl.below h.base
  obtain ⟨b1, o1, c1, A1, d1, e1, hb1, hm1, hc1, hT1⟩ := hpw.at_ htxs
  obtain ⟨b2, o2, c2, A2, d2, e2, hb2, hm2, hc2, hL2⟩ := hT1.at_ hl
  have HME := Lib.hid (me_any h hk)
  have HH := Lib.hid h
  have HK := Lib.hid hk
  have hkp : k < pl.length := (List.getElem?_eq_some_iff.1 htxs).1
  have hxp : x < txs.length := (List.getElem?_eq_some_iff.1 hl).1
  obtain ⟨n1, hn1⟩ : ∃ n, n = pl.length := ⟨_, rfl⟩
  obtain ⟨n2, hn2⟩ : ∃ n, n = txs.length := ⟨_, rfl⟩
  obtain ⟨n3, hn3⟩ : ∃ n, n = l.length := ⟨_, rfl⟩
  injection e2 with e2 _ e2c
  subst e2 e2c
  rw [← hn1] at e1
  rw [← hn2] at hc1
  rw [← hn3] at hc2
  have HC := Lib.hid (fun W (hb : Below w.heap.size w W) => (show W.cell? ⟨r, 9, none⟩ = some (.slice (some ⟨b1, o1, none⟩) n1 c1) ∧ W.cell? ⟨r, 10, none⟩ = some (.int .i64 (k : Int)) ∧ W.cell? ⟨b1, o1 + k, none⟩ = some (.slice (some ⟨b2, o2, none⟩) n2 d1) ∧ W.cell? ⟨a.gT, k * 11 + 1, none⟩ = some (.int .i64 (x : Int)) ∧ W.cell? ⟨b2, o2 + x, none⟩ = some (.slice A2 n3 d2) from
    ⟨by rw [← e1]; exact (h.keep hb).rcells 9, (h.keep hb).rcells 10, (hb.cell (p := ⟨b1, o1 + k, none⟩) hb1).trans hc1, by rw [← htx]; exact (h.keep hb).tcells hk (j := 1) rfl, (hb.cell (p := ⟨b2, o2 + x, none⟩) hb2).trans hc2⟩))
  have HC3 := Lib.hid (fun W (hb : Below w.heap.size w W) => (show W.cell? ⟨a.gT, k * 11 + 3, none⟩ = some (.int .i64 (j : Int)) from by rw [← hpc]; exact (h.keep hb).tcells hk (j := 3) rfl))
  have hk0 : (0 : Int) ≤ (k : Int) := by omega
  have hk1 : (k : Int) < (n1 : Int) := by omega
  have hx0 : (0 : Int) ≤ (x : Int) := by omega
  have hx1 : (x : Int) < (n2 : Int) := by omega
  have HTX := Lib.hid htx
  have HPC := Lib.hid hpc
  have HN3 := Lib.hid hn3
  have HHB := Lib.hid (And.intro hH (And.intro hR hW))
  obtain ⟨b3, o3, eA, hb3, hel⟩ := Sl.pos encAc encAc_len hL2 (by omega)
  subst eA
  have hac' : l[j] = ac := by rw [List.getElem?_eq_getElem hjl] at hac; exact Option.some.inj hac
  have HCA := Lib.hid (fun W (hb : Below w.heap.size w W) => (show W.cell? ⟨b3, o3 + j * 3, none⟩ = some (.int .i64 ac.d) ∧ W.cell? ⟨b3, o3 + j * 3 + 1, none⟩ = some (.int .i64 ac.at_) ∧ W.cell? ⟨b3, o3 + j * 3 + 2, none⟩ = some (.int .i64 ac.v) from
    ⟨hel W hb j hjl 0 _ (by rw [hac']; rfl), hel W hb j hjl 1 _ (by rw [hac']; rfl), hel W hb j hjl 2 _ (by rw [hac']; rfl)⟩))
  have hj0 : (0 : Int) ≤ (j : Int) := by omega
  have hjz : (j : Int) < (n3 : Int) := by omega
  have hjb : ((j : Int) == (n3 : Int)) = false := by simp; omega
  have hwr : IntKind.i64.wrap ((j : Int) + 1) = (j : Int) + 1 := by rw [IntKind.wrap_i64]; omega
  have HS := Lib.hid (show workM l m k t = { m with T := m.T.set k { t with W := writeP t.W ac.at_ (IntKind.i64.wrap (t.sum + ac.v)), pc := t.pc + 1 } } from by rw [hspec]; unfold actM; rw [if_neg (by omega), if_pos hd])
  have hdb1 : (ac.d == 1) = false := by simp; omega
  have hdb : (ac.d == 2) = true := by simpa using hd
  have HWR := Lib.hid (fun W (hb : Below w.heap.size w W) => write_any (h.keep hb) hk ac.at_ (IntKind.i64.wrap (t.sum + ac.v)) hW)
  have HC6 := Lib.hid (fun W (hb : Below w.heap.size w W) => (h.keep hb).tcells hk (j := 6) rfl)
  clear hd
  clear h hk hpl htxs htx hl hpc hH hR hW hpw hb1 hm1 hc1 hT1 hb2 hm2 hc2 hL2 e1 hn1 hn2 hn3 hspec hac hac' hjl hel hb3 hkp hxp
  go_enter Try.func43, Try.ntmps43
  go_wp2_with fail
  refine HME.out.mono ?_
  rintro e w1 ⟨rfl, hb1⟩
  have HB1 := Lib.hid hb1
  clear hb1 HME
  go_wp2_with fail
  refine wp_region_held_drew (S := fun W => W.cell? ⟨r, 9, none⟩ = some (.slice (some ⟨b1, o1, none⟩) n1 c1) ∧ W.cell? ⟨r, 10, none⟩ = some (.int .i64 (k : Int)) ∧ W.cell? ⟨b1, o1 + k, none⟩ = some (.slice (some ⟨b2, o2, none⟩) n2 d1) ∧ W.cell? ⟨a.gT, k * 11 + 1, none⟩ = some (.int .i64 (x : Int)) ∧ W.cell? ⟨b2, o2 + x, none⟩ = some (.slice (some ⟨b3, o3, none⟩) n3 d2)) (by kernel_rfl) ?_ (fun hHelddr => ?_)
  · exact HC.out _ (HB1.out.trans ((Below.refl _ _).drew.mono HB1.out.size))
  refine tkW 0 { dst := some 9, op := Op.move (Operand.tmp 0), type := 68, pos := "stm.go:124", after := _, guard := none } (v := ?vdr0) rfl (Or.inl ⟨by rfl, ?hydr0⟩) ?restdr0
  case hydr0 => (intro w hSw; (try dsimp only at hSw); go_simp <;> with_reducible rfl)
  try simp only [putW, setZ, setS]
  refine tkW 1 { dst := some 10, op := Op.nilCheck (Operand.tmp 9), type := 0, pos := "stm.go:124", after := _, guard := none } (v := ?vdr1) rfl (Or.inl ⟨by rfl, ?hydr1⟩) ?restdr1
  case hydr1 => (intro w hSw; (try dsimp only at hSw); go_simp <;> with_reducible rfl)
  try simp only [putW, setZ, setS]
  refine tkW 2 { dst := some 11, op := Op.fieldAddr 70 (Operand.tmp 10) 1, type := 0, pos := "stm.go:124", after := _, guard := none } (v := ?vdr2) rfl (Or.inl ⟨by rfl, ?hydr2⟩) ?restdr2
  case hydr2 => (intro w hSw; (try dsimp only at hSw); go_simp <;> with_reducible rfl)
  try simp only [putW, setZ, setS]
  refine tkW 3 { dst := some 12, op := Op.fieldAddr 39 (Operand.tmp 11) 2, type := 0, pos := "stm.go:124", after := _, guard := none } (v := ?vdr3) rfl (Or.inl ⟨by rfl, ?hydr3⟩) ?restdr3
  case hydr3 => (intro w hSw; (try dsimp only at hSw); go_simp <;> with_reducible rfl)
  try simp only [putW, setZ, setS]
  refine tkW 4 { dst := some 13, op := Op.load 37 (Operand.tmp 12), type := 37, pos := "stm.go:124", after := _, guard := none } (v := ?vdr4) rfl (Or.inl ⟨by rfl, ?hydr4⟩) ?restdr4
  case hydr4 => (intro w hSw; (try dsimp only at hSw); go_simp <;> with_reducible rfl)
  try simp only [putW, setZ, setS]
  refine tkW 5 { dst := some 14, op := Op.move (Operand.tmp 0), type := 68, pos := "stm.go:124", after := _, guard := none } (v := ?vdr5) rfl (Or.inl ⟨by rfl, ?hydr5⟩) ?restdr5
  case hydr5 => (intro w hSw; (try dsimp only at hSw); go_simp <;> with_reducible rfl)
  try simp only [putW, setZ, setS]
  refine tkW 6 { dst := some 15, op := Op.nilCheck (Operand.tmp 14), type := 0, pos := "stm.go:124", after := _, guard := none } (v := ?vdr6) rfl (Or.inl ⟨by rfl, ?hydr6⟩) ?restdr6
  case hydr6 => (intro w hSw; (try dsimp only at hSw); go_simp <;> with_reducible rfl)
  try simp only [putW, setZ, setS]
  refine tkW 7 { dst := some 16, op := Op.fieldAddr 70 (Operand.tmp 15) 2, type := 0, pos := "stm.go:124", after := _, guard := none } (v := ?vdr7) rfl (Or.inl ⟨by rfl, ?hydr7⟩) ?restdr7
  case hydr7 => (intro w hSw; (try dsimp only at hSw); go_simp <;> with_reducible rfl)
  try simp only [putW, setZ, setS]
  refine tkW 8 { dst := some 17, op := Op.load 3 (Operand.tmp 16), type := 3, pos := "stm.go:124", after := _, guard := none } (v := ?vdr8) rfl (Or.inl ⟨by rfl, ?hydr8⟩) ?restdr8
  case hydr8 => (intro w hSw; (try dsimp only at hSw); go_simp <;> with_reducible rfl)
  try simp only [putW, setZ, setS]
  refine tkW 9 { dst := some 18, op := Op.indexAddr 37 (Operand.tmp 13) (Operand.tmp 17), type := 0, pos := "stm.go:124", after := _, guard := none } (v := ?vdr9) rfl (Or.inl ⟨by rfl, ?hydr9⟩) ?restdr9
  case hydr9 => (intro w hSw; (try dsimp only at hSw); go_simp <;> with_reducible rfl)
  try simp only [putW, setZ, setS]
  refine tkW 10 { dst := some 19, op := Op.load 63 (Operand.tmp 18), type := 63, pos := "stm.go:124", after := _, guard := none } (v := ?vdr10) rfl (Or.inl ⟨by rfl, ?hydr10⟩) ?restdr10
  case hydr10 => (intro w hSw; (try dsimp only at hSw); go_simp <;> with_reducible rfl)
  try simp only [putW, setZ, setS]
  refine tkW 11 { dst := some 20, op := Op.move (Operand.tmp 2), type := 84, pos := "stm.go:124", after := _, guard := none } (v := ?vdr11) rfl (Or.inl ⟨by rfl, ?hydr11⟩) ?restdr11
  case hydr11 => (intro w hSw; (try dsimp only at hSw); go_simp <;> with_reducible rfl)
  try simp only [putW, setZ, setS]
  refine tkW 12 { dst := some 21, op := Op.nilCheck (Operand.tmp 20), type := 0, pos := "stm.go:124", after := _, guard := none } (v := ?vdr12) rfl (Or.inl ⟨by rfl, ?hydr12⟩) ?restdr12
  case hydr12 => (intro w hSw; (try dsimp only at hSw); go_simp <;> with_reducible rfl)
  try simp only [putW, setZ, setS]
  refine tkW 13 { dst := some 22, op := Op.fieldAddr 52 (Operand.tmp 21) 1, type := 0, pos := "stm.go:124", after := _, guard := none } (v := ?vdr13) rfl (Or.inl ⟨by rfl, ?hydr13⟩) ?restdr13
  case hydr13 => (intro w hSw; (try dsimp only at hSw); go_simp <;> with_reducible rfl)
  try simp only [putW, setZ, setS]
  refine tkW 14 { dst := some 23, op := Op.load 3 (Operand.tmp 22), type := 3, pos := "stm.go:124", after := _, guard := none } (v := ?vdr14) rfl (Or.inl ⟨by rfl, ?hydr14⟩) ?restdr14
  case hydr14 => (intro w hSw; (try dsimp only at hSw); go_simp <;> with_reducible rfl)
  try simp only [putW, setZ, setS]
  refine tkW 15 { dst := some 24, op := Op.indexAddr 63 (Operand.tmp 19) (Operand.tmp 23), type := 0, pos := "stm.go:124", after := _, guard := none } (v := ?vdr15) rfl (Or.inl ⟨by rfl, ?hydr15⟩) ?restdr15
  case hydr15 => (intro w hSw; (try dsimp only at hSw); go_simp <;> with_reducible rfl)
  try simp only [putW, setZ, setS]
  refine tkW 16 { dst := some 25, op := Op.load 64 (Operand.tmp 24), type := 64, pos := "stm.go:124", after := _, guard := none } (v := ?vdr16) rfl (Or.inl ⟨by rfl, ?hydr16⟩) ?restdr16
  case hydr16 => (intro w hSw; (try dsimp only at hSw); go_simp <;> with_reducible rfl)
  try simp only [putW, setZ, setS]
  refine tkW 17 { dst := some 3, op := Op.assign (Operand.tmp 25), type := 64, pos := "stm.go:124", after := _, guard := none } (v := ?vdr17) rfl (Or.inl ⟨by rfl, ?hydr17⟩) ?restdr17
  case hydr17 => (intro w hSw; (try dsimp only at hSw); go_simp <;> with_reducible rfl)
  try simp only [putW, setZ, setS]
  refine wpAnyH_done (by kernel_rfl) ?_ _
  obtain ⟨w2, hw2⟩ : ∃ y, w1.drew = y := ⟨_, rfl⟩
  have HB2 := Lib.hid (show Below w.heap.size w w2 from hw2 ▸ (HB1.out.trans ((Below.refl w1.heap.size w1).drew.mono HB1.out.size)))
  try rw [hw2]
  clear hw2
  have q3 := HC3.out _ HB2.out
  have H2 := Lib.hid (HH.out.keep HB2.out)
  have hTl := H2.out.apart.2.2.2.1
  obtain ⟨a0, a1, a2⟩ := HCA.out _ HB2.out
  have HBX := Lib.hid (HB2.out.trans (((Below.refl w2.heap.size w2).alloc (Nat.le_refl _) (.cells #[.int .i64 ac.d, .int .i64 ac.at_, .int .i64 ac.v] 80)).mono HB2.out.size))
  obtain ⟨w3, hw3⟩ : ∃ y, w2.alloc (.cells #[.int .i64 ac.d, .int .i64 ac.at_, .int .i64 ac.v] 80) = y := ⟨_, rfl⟩
  have hbx : Blk w3 w2.heap.size 80 #[.int .i64 ac.d, .int .i64 ac.at_, .int .i64 ac.v] := hw3 ▸ Blk.new _ _ _
  rw [hw3] at HBX
  have p0 : w3.cell? ⟨w2.heap.size, 0, none⟩ = some (.int .i64 ac.d) := by rw [hbx.cell]; rfl
  have p1 : w3.cell? ⟨w2.heap.size, 1, none⟩ = some (.int .i64 ac.at_) := by rw [hbx.cell]; rfl
  have p2 : w3.cell? ⟨w2.heap.size, 2, none⟩ = some (.int .i64 ac.v) := by rw [hbx.cell]; rfl
  have p6 := HC6.out _ HBX.out
  clear hbx
  go_upto_block 0 with fail
  try rw [hw3]
  clear hw3 q3 a0 a1 a2
  go_cut [2, 4] (fun s2 s4 wx => s2 = .pointer (some ⟨a.gT, k * 11, none⟩) ∧ s4 = .pointer (some ⟨w2.heap.size, 0, none⟩) ∧ Hid (∃ φ' A c, RunW w0 wx r φ' a { m with T := m.T.set k { t with wA := A, wc := c, W := writeP t.W ac.at_ (IntKind.i64.wrap (t.sum + ac.v)) } } pw pm pv (k : Int)))
  case first =>
    go_upto_region 11 with fail
    refine wp_region_held_drew (S := fun _ => True) (by kernel_rfl) ?_ (fun hHelder => ?_)
    · trivial
    refine tkW 0 { dst := some 66, op := Op.move (Operand.tmp 0), type := 68, pos := "stm.go:138", after := _, guard := none } (v := ?ver0b1) rfl (Or.inl ⟨by rfl, ?hyer0b1⟩) ?rester0b1
    case hyer0b1 => (intro w hSw; (try dsimp only at hSw); go_simp <;> with_reducible rfl)
    try simp only [putW, setZ, setS]
    refine tkW 1 { dst := some 67, op := Op.fieldAddr 80 (Operand.tmp 4) 1, type := 0, pos := "stm.go:138", after := _, guard := none } (v := ?ver1b2) rfl (Or.inl ⟨by rfl, ?hyer1b2⟩) ?rester1b2
    case hyer1b2 => (intro w hSw; (try dsimp only at hSw); go_simp <;> with_reducible rfl)
    try simp only [putW, setZ, setS]
    refine tkW 3 { dst := some 69, op := Op.move (Operand.tmp 2), type := 84, pos := "stm.go:138", after := _, guard := none } (v := ?ver3b3) rfl (Or.inl ⟨by rfl, ?hyer3b3⟩) ?rester3b3
    case hyer3b3 => (intro w hSw; (try dsimp only at hSw); go_simp <;> with_reducible rfl)
    try simp only [putW, setZ, setS]
    refine tkW 4 { dst := some 70, op := Op.nilCheck (Operand.tmp 69), type := 0, pos := "stm.go:138", after := _, guard := none } (v := ?ver4b4) rfl (Or.inl ⟨by rfl, ?hyer4b4⟩) ?rester4b4
    case hyer4b4 => (intro w hSw; (try dsimp only at hSw); go_simp <;> with_reducible rfl)
    try simp only [putW, setZ, setS]
    refine tkW 5 { dst := some 71, op := Op.fieldAddr 52 (Operand.tmp 70) 6, type := 0, pos := "stm.go:138", after := _, guard := none } (v := ?ver5b5) rfl (Or.inl ⟨by rfl, ?hyer5b5⟩) ?rester5b5
    case hyer5b5 => (intro w hSw; (try dsimp only at hSw); go_simp <;> with_reducible rfl)
    try simp only [putW, setZ, setS]
    refine tkW 7 { dst := some 73, op := Op.fieldAddr 80 (Operand.tmp 4) 2, type := 0, pos := "stm.go:138", after := _, guard := none } (v := ?ver7b6) rfl (Or.inl ⟨by rfl, ?hyer7b6⟩) ?rester7b6
    case hyer7b6 => (intro w hSw; (try dsimp only at hSw); go_simp <;> with_reducible rfl)
    try simp only [putW, setZ, setS]
    refine wpAnyH_ready (rs := [2, 6, 8]) (by kernel_rfl) (by simp) ?_
    refine AllReadyH.cons (o := { dst := some 68, op := Op.load 3 (Operand.tmp 67), type := 3, pos := "stm.go:138", after := _, guard := none }) rfl (fun K hK => ?_) ?_
    · go_simp
      skip
      refine hK.out _ _ ?_ (fun hHelder2b7 => ?_)
      · trivial
      clear hK K hHelder
      try simp only [Act.put, List.setIfInBounds_toArray, List.set_cons_zero, List.set_cons_succ]
      refine wpAnyH_ready (rs := [6, 8]) (by kernel_rfl) (by simp) ?_
      refine AllReadyH.cons (o := { dst := some 72, op := Op.load 3 (Operand.tmp 71), type := 3, pos := "stm.go:138", after := _, guard := none }) rfl (fun K hK => ?_) ?_
      · go_simp
        skip
        refine hK.out _ _ ?_ (fun hHelder6b8 => ?_)
        · trivial
        clear hK K hHelder2b7
        try simp only [Act.put, List.setIfInBounds_toArray, List.set_cons_zero, List.set_cons_succ]
        refine wpAnyH_ready (rs := [8]) (by kernel_rfl) (by simp) ?_
        refine AllReadyH.cons (o := { dst := some 74, op := Op.load 3 (Operand.tmp 73), type := 3, pos := "stm.go:138", after := _, guard := none }) rfl (fun K hK => ?_) AllReadyH.nil
        go_simp
        skip
        refine hK.out _ _ ?_ (fun hHelder8b9 => ?_)
        · trivial
        clear hK K hHelder6b8
        try simp only [Act.put, List.setIfInBounds_toArray, List.set_cons_zero, List.set_cons_succ]
        refine tkW 9 { dst := some 75, op := Op.binOp BinOp.add 3 (Operand.tmp 72) (Operand.tmp 74) 3, type := 3, pos := "stm.go:138", after := _, guard := none } (v := ?ver9b10) rfl (Or.inl ⟨by rfl, ?hyer9b10⟩) ?rester9b10
        case hyer9b10 => (intro w hSw; (try dsimp only at hSw); go_simp <;> with_reducible rfl)
        try simp only [putW, setZ, setS]
        refine wpAnyH_ready (rs := [10]) (by kernel_rfl) (by simp) ?_
        refine AllReadyH.cons (o := { dst := some 76, op := Op.call { callee := Callee.value (Operand.func 55), args := #[Operand.tmp 66, Operand.tmp 68, Operand.tmp 75], argTypes := #[68, 3, 3] }, type := 0, pos := "stm.go:138", after := _, guard := none }) rfl (fun K hK => ?_) AllReadyH.nil
        go_simp
        refine (HWR.out _ (HBX.out.trans ((Below.refl _ _).drew.mono HBX.out.size))).mono ?_
        rintro e w4 ⟨rfl, φ4, A4, c4, h4⟩
        have H4 := Lib.hid h4
        clear h4
        try go_wp2_with fail
        refine hK.out _ _ ?_ (fun hHelder10b11 => ?_)
        · trivial
        clear hK K hHelder8b9
        try simp only [Act.put, List.setIfInBounds_toArray, List.set_cons_zero, List.set_cons_succ]
        refine wpAnyH_done (by kernel_rfl) ?_ _
        go_wp2_with fail
        go_meet
        exact ⟨rfl, rfl, (show Hid _ from ⟨φ4, A4, c4, H4.out⟩)⟩
      refine AllReadyH.cons (o := { dst := some 74, op := Op.load 3 (Operand.tmp 73), type := 3, pos := "stm.go:138", after := _, guard := none }) rfl (fun K hK => ?_) ?_
      · go_simp
        skip
        refine hK.out _ _ ?_ (fun hHelder8b12 => ?_)
        · trivial
        clear hK K hHelder2b7
        try simp only [Act.put, List.setIfInBounds_toArray, List.set_cons_zero, List.set_cons_succ]
        refine wpAnyH_ready (rs := [6]) (by kernel_rfl) (by simp) ?_
        refine AllReadyH.cons (o := { dst := some 72, op := Op.load 3 (Operand.tmp 71), type := 3, pos := "stm.go:138", after := _, guard := none }) rfl (fun K hK => ?_) AllReadyH.nil
        go_simp
        skip
        refine hK.out _ _ ?_ (fun hHelder6b13 => ?_)
        · trivial
        clear hK K hHelder8b12
        try simp only [Act.put, List.setIfInBounds_toArray, List.set_cons_zero, List.set_cons_succ]
        refine tkW 9 { dst := some 75, op := Op.binOp BinOp.add 3 (Operand.tmp 72) (Operand.tmp 74) 3, type := 3, pos := "stm.go:138", after := _, guard := none } (v := ?ver9b14) rfl (Or.inl ⟨by rfl, ?hyer9b14⟩) ?rester9b14
        case hyer9b14 => (intro w hSw; (try dsimp only at hSw); go_simp <;> with_reducible rfl)
        try simp only [putW, setZ, setS]
        refine wpAnyH_ready (rs := [10]) (by kernel_rfl) (by simp) ?_
        refine AllReadyH.cons (o := { dst := some 76, op := Op.call { callee := Callee.value (Operand.func 55), args := #[Operand.tmp 66, Operand.tmp 68, Operand.tmp 75], argTypes := #[68, 3, 3] }, type := 0, pos := "stm.go:138", after := _, guard := none }) rfl (fun K hK => ?_) AllReadyH.nil
        go_simp
        refine (HWR.out _ (HBX.out.trans ((Below.refl _ _).drew.mono HBX.out.size))).mono ?_
        rintro e w4 ⟨rfl, φ4, A4, c4, h4⟩
        have H4 := Lib.hid h4
        clear h4
        try go_wp2_with fail
        refine hK.out _ _ ?_ (fun hHelder10b15 => ?_)
        · trivial
        clear hK K hHelder6b13
        try simp only [Act.put, List.setIfInBounds_toArray, List.set_cons_zero, List.set_cons_succ]
        refine wpAnyH_done (by kernel_rfl) ?_ _
        go_wp2_with fail
        go_meet
        exact ⟨rfl, rfl, (show Hid _ from ⟨φ4, A4, c4, H4.out⟩)⟩
      exact AllReadyH.nil
    refine AllReadyH.cons (o := { dst := some 72, op := Op.load 3 (Operand.tmp 71), type := 3, pos := "stm.go:138", after := _, guard := none }) rfl (fun K hK => ?_) ?_
    · go_simp
      skip
      refine hK.out _ _ ?_ (fun hHelder6b16 => ?_)
      · trivial
      clear hK K hHelder
      try simp only [Act.put, List.setIfInBounds_toArray, List.set_cons_zero, List.set_cons_succ]
      refine wpAnyH_ready (rs := [2, 8]) (by kernel_rfl) (by simp) ?_
      refine AllReadyH.cons (o := { dst := some 68, op := Op.load 3 (Operand.tmp 67), type := 3, pos := "stm.go:138", after := _, guard := none }) rfl (fun K hK => ?_) ?_
      · go_simp
        skip
        refine hK.out _ _ ?_ (fun hHelder2b17 => ?_)
        · trivial
        clear hK K hHelder6b16
        try simp only [Act.put, List.setIfInBounds_toArray, List.set_cons_zero, List.set_cons_succ]
        refine wpAnyH_ready (rs := [8]) (by kernel_rfl) (by simp) ?_
        refine AllReadyH.cons (o := { dst := some 74, op := Op.load 3 (Operand.tmp 73), type := 3, pos := "stm.go:138", after := _, guard := none }) rfl (fun K hK => ?_) AllReadyH.nil
        go_simp
        skip
        refine hK.out _ _ ?_ (fun hHelder8b18 => ?_)
        · trivial
        clear hK K hHelder2b17
        try simp only [Act.put, List.setIfInBounds_toArray, List.set_cons_zero, List.set_cons_succ]
        refine tkW 9 { dst := some 75, op := Op.binOp BinOp.add 3 (Operand.tmp 72) (Operand.tmp 74) 3, type := 3, pos := "stm.go:138", after := _, guard := none } (v := ?ver9b19) rfl (Or.inl ⟨by rfl, ?hyer9b19⟩) ?rester9b19
        case hyer9b19 => (intro w hSw; (try dsimp only at hSw); go_simp <;> with_reducible rfl)
        try simp only [putW, setZ, setS]
        refine wpAnyH_ready (rs := [10]) (by kernel_rfl) (by simp) ?_
        refine AllReadyH.cons (o := { dst := some 76, op := Op.call { callee := Callee.value (Operand.func 55), args := #[Operand.tmp 66, Operand.tmp 68, Operand.tmp 75], argTypes := #[68, 3, 3] }, type := 0, pos := "stm.go:138", after := _, guard := none }) rfl (fun K hK => ?_) AllReadyH.nil
        go_simp
        refine (HWR.out _ (HBX.out.trans ((Below.refl _ _).drew.mono HBX.out.size))).mono ?_
        rintro e w4 ⟨rfl, φ4, A4, c4, h4⟩
        have H4 := Lib.hid h4
        clear h4
        try go_wp2_with fail
        refine hK.out _ _ ?_ (fun hHelder10b20 => ?_)
        · trivial
        clear hK K hHelder8b18
        try simp only [Act.put, List.setIfInBounds_toArray, List.set_cons_zero, List.set_cons_succ]
        refine wpAnyH_done (by kernel_rfl) ?_ _
        go_wp2_with fail
        go_meet
        exact ⟨rfl, rfl, (show Hid _ from ⟨φ4, A4, c4, H4.out⟩)⟩
      refine AllReadyH.cons (o := { dst := some 74, op := Op.load 3 (Operand.tmp 73), type := 3, pos := "stm.go:138", after := _, guard := none }) rfl (fun K hK => ?_) ?_
      · go_simp
        skip
        refine hK.out _ _ ?_ (fun hHelder8b21 => ?_)
        · trivial
        clear hK K hHelder6b16
        try simp only [Act.put, List.setIfInBounds_toArray, List.set_cons_zero, List.set_cons_succ]
        refine tkW 9 { dst := some 75, op := Op.binOp BinOp.add 3 (Operand.tmp 72) (Operand.tmp 74) 3, type := 3, pos := "stm.go:138", after := _, guard := none } (v := ?ver9b22) rfl (Or.inl ⟨by rfl, ?hyer9b22⟩) ?rester9b22
        case hyer9b22 => (intro w hSw; (try dsimp only at hSw); go_simp <;> with_reducible rfl)
        try simp only [putW, setZ, setS]
        refine wpAnyH_ready (rs := [2]) (by kernel_rfl) (by simp) ?_
        refine AllReadyH.cons (o := { dst := some 68, op := Op.load 3 (Operand.tmp 67), type := 3, pos := "stm.go:138", after := _, guard := none }) rfl (fun K hK => ?_) AllReadyH.nil
        go_simp
        skip
        refine hK.out _ _ ?_ (fun hHelder2b23 => ?_)
        · trivial
        clear hK K hHelder8b21
        try simp only [Act.put, List.setIfInBounds_toArray, List.set_cons_zero, List.set_cons_succ]
        refine wpAnyH_ready (rs := [10]) (by kernel_rfl) (by simp) ?_
        refine AllReadyH.cons (o := { dst := some 76, op := Op.call { callee := Callee.value (Operand.func 55), args := #[Operand.tmp 66, Operand.tmp 68, Operand.tmp 75], argTypes := #[68, 3, 3] }, type := 0, pos := "stm.go:138", after := _, guard := none }) rfl (fun K hK => ?_) AllReadyH.nil
        go_simp
        refine (HWR.out _ (HBX.out.trans ((Below.refl _ _).drew.mono HBX.out.size))).mono ?_
        rintro e w4 ⟨rfl, φ4, A4, c4, h4⟩
        have H4 := Lib.hid h4
        clear h4
        try go_wp2_with fail
        refine hK.out _ _ ?_ (fun hHelder10b24 => ?_)
        · trivial
        clear hK K hHelder2b23
        try simp only [Act.put, List.setIfInBounds_toArray, List.set_cons_zero, List.set_cons_succ]
        refine wpAnyH_done (by kernel_rfl) ?_ _
        go_wp2_with fail
        go_meet
        exact ⟨rfl, rfl, (show Hid _ from ⟨φ4, A4, c4, H4.out⟩)⟩
      exact AllReadyH.nil
    refine AllReadyH.cons (o := { dst := some 74, op := Op.load 3 (Operand.tmp 73), type := 3, pos := "stm.go:138", after := _, guard := none }) rfl (fun K hK => ?_) ?_
    · go_simp
      skip
      refine hK.out _ _ ?_ (fun hHelder8b25 => ?_)
      · trivial
      clear hK K hHelder
      try simp only [Act.put, List.setIfInBounds_toArray, List.set_cons_zero, List.set_cons_succ]
      refine wpAnyH_ready (rs := [2, 6]) (by kernel_rfl) (by simp) ?_
      refine AllReadyH.cons (o := { dst := some 68, op := Op.load 3 (Operand.tmp 67), type := 3, pos := "stm.go:138", after := _, guard := none }) rfl (fun K hK => ?_) ?_
      · go_simp
        skip
        refine hK.out _ _ ?_ (fun hHelder2b26 => ?_)
        · trivial
        clear hK K hHelder8b25
        try simp only [Act.put, List.setIfInBounds_toArray, List.set_cons_zero, List.set_cons_succ]
        refine wpAnyH_ready (rs := [6]) (by kernel_rfl) (by simp) ?_
        refine AllReadyH.cons (o := { dst := some 72, op := Op.load 3 (Operand.tmp 71), type := 3, pos := "stm.go:138", after := _, guard := none }) rfl (fun K hK => ?_) AllReadyH.nil
        go_simp
        skip
        refine hK.out _ _ ?_ (fun hHelder6b27 => ?_)
        · trivial
        clear hK K hHelder2b26
        try simp only [Act.put, List.setIfInBounds_toArray, List.set_cons_zero, List.set_cons_succ]
        refine tkW 9 { dst := some 75, op := Op.binOp BinOp.add 3 (Operand.tmp 72) (Operand.tmp 74) 3, type := 3, pos := "stm.go:138", after := _, guard := none } (v := ?ver9b28) rfl (Or.inl ⟨by rfl, ?hyer9b28⟩) ?rester9b28
        case hyer9b28 => (intro w hSw; (try dsimp only at hSw); go_simp <;> with_reducible rfl)
        try simp only [putW, setZ, setS]
        refine wpAnyH_ready (rs := [10]) (by kernel_rfl) (by simp) ?_
        refine AllReadyH.cons (o := { dst := some 76, op := Op.call { callee := Callee.value (Operand.func 55), args := #[Operand.tmp 66, Operand.tmp 68, Operand.tmp 75], argTypes := #[68, 3, 3] }, type := 0, pos := "stm.go:138", after := _, guard := none }) rfl (fun K hK => ?_) AllReadyH.nil
        go_simp
        refine (HWR.out _ (HBX.out.trans ((Below.refl _ _).drew.mono HBX.out.size))).mono ?_
        rintro e w4 ⟨rfl, φ4, A4, c4, h4⟩
        have H4 := Lib.hid h4
        clear h4
        try go_wp2_with fail
        refine hK.out _ _ ?_ (fun hHelder10b29 => ?_)
        · trivial
        clear hK K hHelder6b27
        try simp only [Act.put, List.setIfInBounds_toArray, List.set_cons_zero, List.set_cons_succ]
        refine wpAnyH_done (by kernel_rfl) ?_ _
        go_wp2_with fail
        go_meet
        exact ⟨rfl, rfl, (show Hid _ from ⟨φ4, A4, c4, H4.out⟩)⟩
      refine AllReadyH.cons (o := { dst := some 72, op := Op.load 3 (Operand.tmp 71), type := 3, pos := "stm.go:138", after := _, guard := none }) rfl (fun K hK => ?_) ?_
      · go_simp
        skip
        refine hK.out _ _ ?_ (fun hHelder6b30 => ?_)
        · trivial
        clear hK K hHelder8b25
        try simp only [Act.put, List.setIfInBounds_toArray, List.set_cons_zero, List.set_cons_succ]
        refine tkW 9 { dst := some 75, op := Op.binOp BinOp.add 3 (Operand.tmp 72) (Operand.tmp 74) 3, type := 3, pos := "stm.go:138", after := _, guard := none } (v := ?ver9b31) rfl (Or.inl ⟨by rfl, ?hyer9b31⟩) ?rester9b31
        case hyer9b31 => (intro w hSw; (try dsimp only at hSw); go_simp <;> with_reducible rfl)
        try simp only [putW, setZ, setS]
        refine wpAnyH_ready (rs := [2]) (by kernel_rfl) (by simp) ?_
        refine AllReadyH.cons (o := { dst := some 68, op := Op.load 3 (Operand.tmp 67), type := 3, pos := "stm.go:138", after := _, guard := none }) rfl (fun K hK => ?_) AllReadyH.nil
        go_simp
        skip
        refine hK.out _ _ ?_ (fun hHelder2b32 => ?_)
        · trivial
        clear hK K hHelder6b30
        try simp only [Act.put, List.setIfInBounds_toArray, List.set_cons_zero, List.set_cons_succ]
        refine wpAnyH_ready (rs := [10]) (by kernel_rfl) (by simp) ?_
        refine AllReadyH.cons (o := { dst := some 76, op := Op.call { callee := Callee.value (Operand.func 55), args := #[Operand.tmp 66, Operand.tmp 68, Operand.tmp 75], argTypes := #[68, 3, 3] }, type := 0, pos := "stm.go:138", after := _, guard := none }) rfl (fun K hK => ?_) AllReadyH.nil
        go_simp
        refine (HWR.out _ (HBX.out.trans ((Below.refl _ _).drew.mono HBX.out.size))).mono ?_
        rintro e w4 ⟨rfl, φ4, A4, c4, h4⟩
        have H4 := Lib.hid h4
        clear h4
        try go_wp2_with fail
        refine hK.out _ _ ?_ (fun hHelder10b33 => ?_)
        · trivial
        clear hK K hHelder2b32
        try simp only [Act.put, List.setIfInBounds_toArray, List.set_cons_zero, List.set_cons_succ]
        refine wpAnyH_done (by kernel_rfl) ?_ _
        go_wp2_with fail
        go_meet
        exact ⟨rfl, rfl, (show Hid _ from ⟨φ4, A4, c4, H4.out⟩)⟩
      exact AllReadyH.nil
    exact AllReadyH.nil
  case rest =>
    obtain ⟨rfl, rfl, HX⟩ := hcut
    obtain ⟨φ4, A4, c4, h4⟩ := HX.out
    have H4 := Lib.hid h4
    have hTc := h4.apart.2.2.2.1
    clear h4 p0 p1 p2 p6
    have d3 : wc.cell? ⟨a.gT, k * 11 + 3, none⟩ = some (.int .i64 (j : Int)) := by rw [← HPC.out]; exact H4.out.tcells (RunW.set_at k HK.out _) (j := 3) rfl
    have f3 := H4.out.tfree (k * 11 + 3)
    have hlt := H2.out.tlt HK.out
    have h5 := H4.out.tc hlt { t with wA := A4, wc := c4, W := writeP t.W ac.at_ (IntKind.i64.wrap (t.sum + ac.v)), pc := t.pc + 1 } (j := 3) (u := .int .i64 ((j : Int) + 1)) (by omega) (by simp [encTx, HPC.out]) ⟨rfl, rfl, rfl, rfl, rfl, rfl⟩
    have H5 := Lib.hid h5
    clear h5
    go_wp2
    go_end0
    refine ⟨rfl, _, _, _, H5.out, ?_⟩
    rw [HS.out, er_set, er_set]
    rfl

set_option maxHeartbeats 4000000 in
theorem work_got {k : Nat} {t : Tx} (h : RunW w0 w r φ a m pw pm pv (k : Int)) (hk : m.T[k]? = some t) {pl : List (List (List Ac))} (hpl : PlV w0 pv pl) {txs : List (List Ac)} (htxs : pl[k]? = some txs) (x : Nat) (htx : t.tx = (x : Int)) {l : List Ac} (hl : txs[x]? = some l) (hx1000 : x ≤ 1000) (hl1000 : l.length ≤ 1000) (j : Nat) (hpc : t.pc = (j : Int)) (hH : m.H.length ≤ 1000) (hR : t.R.length ≤ 1000) (hW : t.W.length ≤ 1000) (ac : Ac) (hac : l[j]? = some ac) (hd : ac.d = 0) (hWL : m.W.length = m.L.length) (v : Int) (R' : List Pr) (hg : getP m k t ac.at_ = some (v, R')) :
    Calls Try.prog 43 #[.pointer (some ⟨r, 0, none⟩)] w (DonePost w0 r a (workM l m k t) k pw pm pv) := by
  have hspec : workM l m k t = actM m k t ac := by
    unfold workM
    rw [hpc, Int.toNat_natCast, hac]
  have hjl : j < l.length := (List.getElem?_eq_some_iff.1 hac).1
  have hpw := hpl.below h.base
  obtain ⟨b1, o1, c1, A1, d1, e1, hb1, hm1, hc1, hT1⟩ := hpw.at_ htxs
  obtain ⟨b2, o2, c2, A2, d2, e2, hb2, hm2, hc2, hL2⟩ := hT1.at_ hl
  have HME := Lib.hid (me_any h hk)
  have HH := Lib.hid h
  have HK := Lib.hid hk
  have hkp : k < pl.length := (List.getElem?_eq_some_iff.1 htxs).1
  have hxp : x < txs.length := (List.getElem?_eq_some_iff.1 hl).1
  obtain ⟨n1, hn1⟩ : ∃ n, n = pl.length := ⟨_, rfl⟩
  obtain ⟨n2, hn2⟩ : ∃ n, n = txs.length := ⟨_, rfl⟩
  obtain ⟨n3, hn3⟩ : ∃ n, n = l.length := ⟨_, rfl⟩
  injection e2 with e2 _ e2c
  subst e2 e2c
  rw [← hn1] at e1
  rw [← hn2] at hc1
  rw [← hn3] at hc2
  have HC := Lib.hid (fun W (hb : Below w.heap.size w W) => (show W.cell? ⟨r, 9, none⟩ = some (.slice (some ⟨b1, o1, none⟩) n1 c1) ∧ W.cell? ⟨r, 10, none⟩ = some (.int .i64 (k : Int)) ∧ W.cell? ⟨b1, o1 + k, none⟩ = some (.slice (some ⟨b2, o2, none⟩) n2 d1) ∧ W.cell? ⟨a.gT, k * 11 + 1, none⟩ = some (.int .i64 (x : Int)) ∧ W.cell? ⟨b2, o2 + x, none⟩ = some (.slice A2 n3 d2) from
    ⟨by rw [← e1]; exact (h.keep hb).rcells 9, (h.keep hb).rcells 10, (hb.cell (p := ⟨b1, o1 + k, none⟩) hb1).trans hc1, by rw [← htx]; exact (h.keep hb).tcells hk (j := 1) rfl, (hb.cell (p := ⟨b2, o2 + x, none⟩) hb2).trans hc2⟩))
  have HC3 := Lib.hid (fun W (hb : Below w.heap.size w W) => (show W.cell? ⟨a.gT, k * 11 + 3, none⟩ = some (.int .i64 (j : Int)) from by rw [← hpc]; exact (h.keep hb).tcells hk (j := 3) rfl))
  have hk0 : (0 : Int) ≤ (k : Int) := by omega
  have hk1 : (k : Int) < (n1 : Int) := by omega
  have hx0 : (0 : Int) ≤ (x : Int) := by omega
  have hx1 : (x : Int) < (n2 : Int) := by omega
  have HTX := Lib.hid htx
  have HPC := Lib.hid hpc
  have HN3 := Lib.hid hn3
  have HHB := Lib.hid (And.intro hH (And.intro hR hW))
  obtain ⟨b3, o3, eA, hb3, hel⟩ := Sl.pos encAc encAc_len hL2 (by omega)
  subst eA
  have hac' : l[j] = ac := by rw [List.getElem?_eq_getElem hjl] at hac; exact Option.some.inj hac
  have HCA := Lib.hid (fun W (hb : Below w.heap.size w W) => (show W.cell? ⟨b3, o3 + j * 3, none⟩ = some (.int .i64 ac.d) ∧ W.cell? ⟨b3, o3 + j * 3 + 1, none⟩ = some (.int .i64 ac.at_) ∧ W.cell? ⟨b3, o3 + j * 3 + 2, none⟩ = some (.int .i64 ac.v) from
    ⟨hel W hb j hjl 0 _ (by rw [hac']; rfl), hel W hb j hjl 1 _ (by rw [hac']; rfl), hel W hb j hjl 2 _ (by rw [hac']; rfl)⟩))
  have hj0 : (0 : Int) ≤ (j : Int) := by omega
  have hjz : (j : Int) < (n3 : Int) := by omega
  have hjb : ((j : Int) == (n3 : Int)) = false := by simp; omega
  have hwr : IntKind.i64.wrap ((j : Int) + 1) = (j : Int) + 1 := by rw [IntKind.wrap_i64]; omega
  obtain ⟨s', hs'⟩ : ∃ s', IntKind.i64.wrap (t.sum + v) = s' := ⟨_, rfl⟩
  have HS := Lib.hid (show workM l m k t = { m with T := m.T.set k { t with R := R', sum := s', pc := t.pc + 1 } } from by rw [hspec]; unfold actM; rw [if_neg (by omega), if_neg (by omega), hg]; simp only [hs'])
  have HSW := Lib.hid hs'
  clear hs'
  have hdb1 : (ac.d == 1) = false := by simp; omega
  have hdb2 : (ac.d == 2) = false := by simp; omega
  have hdb : (ac.d == 0) = true := by simpa using hd
  have HGE := Lib.hid (fun W (hb : Below w.heap.size w W) => (show Calls Try.prog 56 #[.pointer (some ⟨r, 0, none⟩), .int .i64 ac.at_] W (GetPost w0 r φ a m k t (some (v, R')) pw pm pv) from hg ▸ get_any (h.keep hb) hk ac.at_ hWL hR))
  clear hd hg
  clear h hk hpl htxs htx hl hpc hH hR hW hpw hb1 hm1 hc1 hT1 hb2 hm2 hc2 hL2 e1 hn1 hn2 hn3 hspec hac hac' hjl hel hb3 hkp hxp
  go_enter Try.func43, Try.ntmps43
  go_wp2_with fail
  refine HME.out.mono ?_
  rintro e w1 ⟨rfl, hb1⟩
  have HB1 := Lib.hid hb1
  clear hb1 HME
  go_wp2_with fail
  refine wp_region_held_drew (S := fun W => W.cell? ⟨r, 9, none⟩ = some (.slice (some ⟨b1, o1, none⟩) n1 c1) ∧ W.cell? ⟨r, 10, none⟩ = some (.int .i64 (k : Int)) ∧ W.cell? ⟨b1, o1 + k, none⟩ = some (.slice (some ⟨b2, o2, none⟩) n2 d1) ∧ W.cell? ⟨a.gT, k * 11 + 1, none⟩ = some (.int .i64 (x : Int)) ∧ W.cell? ⟨b2, o2 + x, none⟩ = some (.slice (some ⟨b3, o3, none⟩) n3 d2)) (by kernel_rfl) ?_ (fun hHeldfr => ?_)
  · exact HC.out _ (HB1.out.trans ((Below.refl _ _).drew.mono HB1.out.size))
  refine tkW 0 { dst := some 9, op := Op.move (Operand.tmp 0), type := 68, pos := "stm.go:124", after := _, guard := none } (v := ?vfr0) rfl (Or.inl ⟨by rfl, ?hyfr0⟩) ?restfr0
  case hyfr0 => (intro w hSw; (try dsimp only at hSw); go_simp <;> with_reducible rfl)
  try simp only [putW, setZ, setS]
  refine tkW 1 { dst := some 10, op := Op.nilCheck (Operand.tmp 9), type := 0, pos := "stm.go:124", after := _, guard := none } (v := ?vfr1) rfl (Or.inl ⟨by rfl, ?hyfr1⟩) ?restfr1
  case hyfr1 => (intro w hSw; (try dsimp only at hSw); go_simp <;> with_reducible rfl)
  try simp only [putW, setZ, setS]
  refine tkW 2 { dst := some 11, op := Op.fieldAddr 70 (Operand.tmp 10) 1, type := 0, pos := "stm.go:124", after := _, guard := none } (v := ?vfr2) rfl (Or.inl ⟨by rfl, ?hyfr2⟩) ?restfr2
  case hyfr2 => (intro w hSw; (try dsimp only at hSw); go_simp <;> with_reducible rfl)
  try simp only [putW, setZ, setS]
  refine tkW 3 { dst := some 12, op := Op.fieldAddr 39 (Operand.tmp 11) 2, type := 0, pos := "stm.go:124", after := _, guard := none } (v := ?vfr3) rfl (Or.inl ⟨by rfl, ?hyfr3⟩) ?restfr3
  case hyfr3 => (intro w hSw; (try dsimp only at hSw); go_simp <;> with_reducible rfl)
  try simp only [putW, setZ, setS]
  refine tkW 4 { dst := some 13, op := Op.load 37 (Operand.tmp 12), type := 37, pos := "stm.go:124", after := _, guard := none } (v := ?vfr4) rfl (Or.inl ⟨by rfl, ?hyfr4⟩) ?restfr4
  case hyfr4 => (intro w hSw; (try dsimp only at hSw); go_simp <;> with_reducible rfl)
  try simp only [putW, setZ, setS]
  refine tkW 5 { dst := some 14, op := Op.move (Operand.tmp 0), type := 68, pos := "stm.go:124", after := _, guard := none } (v := ?vfr5) rfl (Or.inl ⟨by rfl, ?hyfr5⟩) ?restfr5
  case hyfr5 => (intro w hSw; (try dsimp only at hSw); go_simp <;> with_reducible rfl)
  try simp only [putW, setZ, setS]
  refine tkW 6 { dst := some 15, op := Op.nilCheck (Operand.tmp 14), type := 0, pos := "stm.go:124", after := _, guard := none } (v := ?vfr6) rfl (Or.inl ⟨by rfl, ?hyfr6⟩) ?restfr6
  case hyfr6 => (intro w hSw; (try dsimp only at hSw); go_simp <;> with_reducible rfl)
  try simp only [putW, setZ, setS]
  refine tkW 7 { dst := some 16, op := Op.fieldAddr 70 (Operand.tmp 15) 2, type := 0, pos := "stm.go:124", after := _, guard := none } (v := ?vfr7) rfl (Or.inl ⟨by rfl, ?hyfr7⟩) ?restfr7
  case hyfr7 => (intro w hSw; (try dsimp only at hSw); go_simp <;> with_reducible rfl)
  try simp only [putW, setZ, setS]
  refine tkW 8 { dst := some 17, op := Op.load 3 (Operand.tmp 16), type := 3, pos := "stm.go:124", after := _, guard := none } (v := ?vfr8) rfl (Or.inl ⟨by rfl, ?hyfr8⟩) ?restfr8
  case hyfr8 => (intro w hSw; (try dsimp only at hSw); go_simp <;> with_reducible rfl)
  try simp only [putW, setZ, setS]
  refine tkW 9 { dst := some 18, op := Op.indexAddr 37 (Operand.tmp 13) (Operand.tmp 17), type := 0, pos := "stm.go:124", after := _, guard := none } (v := ?vfr9) rfl (Or.inl ⟨by rfl, ?hyfr9⟩) ?restfr9
  case hyfr9 => (intro w hSw; (try dsimp only at hSw); go_simp <;> with_reducible rfl)
  try simp only [putW, setZ, setS]
  refine tkW 10 { dst := some 19, op := Op.load 63 (Operand.tmp 18), type := 63, pos := "stm.go:124", after := _, guard := none } (v := ?vfr10) rfl (Or.inl ⟨by rfl, ?hyfr10⟩) ?restfr10
  case hyfr10 => (intro w hSw; (try dsimp only at hSw); go_simp <;> with_reducible rfl)
  try simp only [putW, setZ, setS]
  refine tkW 11 { dst := some 20, op := Op.move (Operand.tmp 2), type := 84, pos := "stm.go:124", after := _, guard := none } (v := ?vfr11) rfl (Or.inl ⟨by rfl, ?hyfr11⟩) ?restfr11
  case hyfr11 => (intro w hSw; (try dsimp only at hSw); go_simp <;> with_reducible rfl)
  try simp only [putW, setZ, setS]
  refine tkW 12 { dst := some 21, op := Op.nilCheck (Operand.tmp 20), type := 0, pos := "stm.go:124", after := _, guard := none } (v := ?vfr12) rfl (Or.inl ⟨by rfl, ?hyfr12⟩) ?restfr12
  case hyfr12 => (intro w hSw; (try dsimp only at hSw); go_simp <;> with_reducible rfl)
  try simp only [putW, setZ, setS]
  refine tkW 13 { dst := some 22, op := Op.fieldAddr 52 (Operand.tmp 21) 1, type := 0, pos := "stm.go:124", after := _, guard := none } (v := ?vfr13) rfl (Or.inl ⟨by rfl, ?hyfr13⟩) ?restfr13
  case hyfr13 => (intro w hSw; (try dsimp only at hSw); go_simp <;> with_reducible rfl)
  try simp only [putW, setZ, setS]
  refine tkW 14 { dst := some 23, op := Op.load 3 (Operand.tmp 22), type := 3, pos := "stm.go:124", after := _, guard := none } (v := ?vfr14) rfl (Or.inl ⟨by rfl, ?hyfr14⟩) ?restfr14
  case hyfr14 => (intro w hSw; (try dsimp only at hSw); go_simp <;> with_reducible rfl)
  try simp only [putW, setZ, setS]
  refine tkW 15 { dst := some 24, op := Op.indexAddr 63 (Operand.tmp 19) (Operand.tmp 23), type := 0, pos := "stm.go:124", after := _, guard := none } (v := ?vfr15) rfl (Or.inl ⟨by rfl, ?hyfr15⟩) ?restfr15
  case hyfr15 => (intro w hSw; (try dsimp only at hSw); go_simp <;> with_reducible rfl)
  try simp only [putW, setZ, setS]
  refine tkW 16 { dst := some 25, op := Op.load 64 (Operand.tmp 24), type := 64, pos := "stm.go:124", after := _, guard := none } (v := ?vfr16) rfl (Or.inl ⟨by rfl, ?hyfr16⟩) ?restfr16
  case hyfr16 => (intro w hSw; (try dsimp only at hSw); go_simp <;> with_reducible rfl)
  try simp only [putW, setZ, setS]
  refine tkW 17 { dst := some 3, op := Op.assign (Operand.tmp 25), type := 64, pos := "stm.go:124", after := _, guard := none } (v := ?vfr17) rfl (Or.inl ⟨by rfl, ?hyfr17⟩) ?restfr17
  case hyfr17 => (intro w hSw; (try dsimp only at hSw); go_simp <;> with_reducible rfl)
  try simp only [putW, setZ, setS]
  refine wpAnyH_done (by kernel_rfl) ?_ _
  obtain ⟨w2, hw2⟩ : ∃ y, w1.drew = y := ⟨_, rfl⟩
  have HB2 := Lib.hid (show Below w.heap.size w w2 from hw2 ▸ (HB1.out.trans ((Below.refl w1.heap.size w1).drew.mono HB1.out.size)))
  try rw [hw2]
  clear hw2
  have q3 := HC3.out _ HB2.out
  have H2 := Lib.hid (HH.out.keep HB2.out)
  have hTl := H2.out.apart.2.2.2.1
  obtain ⟨a0, a1, a2⟩ := HCA.out _ HB2.out
  have HBX := Lib.hid (HB2.out.trans (((Below.refl w2.heap.size w2).alloc (Nat.le_refl _) (.cells #[.int .i64 ac.d, .int .i64 ac.at_, .int .i64 ac.v] 80)).mono HB2.out.size))
  go_wp2_with fail
  refine (HGE.out _ HBX.out).mono ?_
  rintro e w4 ⟨rfl, φ4, A4, c4, h4⟩
  have H4 := Lib.hid h4
  clear h4
  have d6 := H4.out.tcells (RunW.set_at k HK.out _) (j := 6) rfl
  have f6 := H4.out.tfree (k * 11 + 6)
  have d3 : w4.cell? ⟨a.gT, k * 11 + 3, none⟩ = some (.int .i64 (j : Int)) := by rw [← HPC.out]; exact H4.out.tcells (RunW.set_at k HK.out _) (j := 3) rfl
  have f3 := H4.out.tfree (k * 11 + 3)
  have hlt := H2.out.tlt HK.out
  dsimp only at d6
  have h5 := (H4.out.tc hlt { t with rA := A4, rc := c4, R := R', sum := s' } (j := 6) (u := .int .i64 s') (by omega) rfl ⟨rfl, rfl, rfl, rfl, rfl, rfl⟩).tc hlt { t with rA := A4, rc := c4, R := R', sum := s', pc := t.pc + 1 } (j := 3) (u := .int .i64 ((j : Int) + 1)) (by omega) (by simp [encTx, HPC.out]) ⟨rfl, rfl, rfl, rfl, rfl, rfl⟩
  have H5 := Lib.hid h5
  have hsw := HSW.out
  clear h5
  go_wp2
  go_end0
  refine ⟨rfl, _, _, _, H5.out, ?_⟩
  rw [HS.out, er_set, er_set]
  rfl

set_option maxHeartbeats 4000000 in
theorem work_ungot {k : Nat} {t : Tx} (h : RunW w0 w r φ a m pw pm pv (k : Int)) (hk : m.T[k]? = some t) {pl : List (List (List Ac))} (hpl : PlV w0 pv pl) {txs : List (List Ac)} (htxs : pl[k]? = some txs) (x : Nat) (htx : t.tx = (x : Int)) {l : List Ac} (hl : txs[x]? = some l) (hx1000 : x ≤ 1000) (hl1000 : l.length ≤ 1000) (j : Nat) (hpc : t.pc = (j : Int)) (hH : m.H.length ≤ 1000) (hR : t.R.length ≤ 1000) (hW : t.W.length ≤ 1000) (ac : Ac) (hac : l[j]? = some ac) (hd : ac.d = 0) (hWL : m.W.length = m.L.length) (hg : getP m k t ac.at_ = none) :
    Calls Try.prog 43 #[.pointer (some ⟨r, 0, none⟩)] w (DonePost w0 r a (workM l m k t) k pw pm pv) := by
  have hspec : workM l m k t = actM m k t ac := by
    unfold workM
    rw [hpc, Int.toNat_natCast, hac]
  have hjl : j < l.length := (List.getElem?_eq_some_iff.1 hac).1
  have hpw := hpl.below h.base
  obtain ⟨b1, o1, c1, A1, d1, e1, hb1, hm1, hc1, hT1⟩ := hpw.at_ htxs
  obtain ⟨b2, o2, c2, A2, d2, e2, hb2, hm2, hc2, hL2⟩ := hT1.at_ hl
  have HME := Lib.hid (me_any h hk)
  have HH := Lib.hid h
  have HK := Lib.hid hk
  have hkp : k < pl.length := (List.getElem?_eq_some_iff.1 htxs).1
  have hxp : x < txs.length := (List.getElem?_eq_some_iff.1 hl).1
  obtain ⟨n1, hn1⟩ : ∃ n, n = pl.length := ⟨_, rfl⟩
  obtain ⟨n2, hn2⟩ : ∃ n, n = txs.length := ⟨_, rfl⟩
  obtain ⟨n3, hn3⟩ : ∃ n, n = l.length := ⟨_, rfl⟩
  injection e2 with e2 _ e2c
  subst e2 e2c
  rw [← hn1] at e1
  rw [← hn2] at hc1
  rw [← hn3] at hc2
  have HC := Lib.hid (fun W (hb : Below w.heap.size w W) => (show W.cell? ⟨r, 9, none⟩ = some (.slice (some ⟨b1, o1, none⟩) n1 c1) ∧ W.cell? ⟨r, 10, none⟩ = some (.int .i64 (k : Int)) ∧ W.cell? ⟨b1, o1 + k, none⟩ = some (.slice (some ⟨b2, o2, none⟩) n2 d1) ∧ W.cell? ⟨a.gT, k * 11 + 1, none⟩ = some (.int .i64 (x : Int)) ∧ W.cell? ⟨b2, o2 + x, none⟩ = some (.slice A2 n3 d2) from
    ⟨by rw [← e1]; exact (h.keep hb).rcells 9, (h.keep hb).rcells 10, (hb.cell (p := ⟨b1, o1 + k, none⟩) hb1).trans hc1, by rw [← htx]; exact (h.keep hb).tcells hk (j := 1) rfl, (hb.cell (p := ⟨b2, o2 + x, none⟩) hb2).trans hc2⟩))
  have HC3 := Lib.hid (fun W (hb : Below w.heap.size w W) => (show W.cell? ⟨a.gT, k * 11 + 3, none⟩ = some (.int .i64 (j : Int)) from by rw [← hpc]; exact (h.keep hb).tcells hk (j := 3) rfl))
  have hk0 : (0 : Int) ≤ (k : Int) := by omega
  have hk1 : (k : Int) < (n1 : Int) := by omega
  have hx0 : (0 : Int) ≤ (x : Int) := by omega
  have hx1 : (x : Int) < (n2 : Int) := by omega
  have HTX := Lib.hid htx
  have HPC := Lib.hid hpc
  have HN3 := Lib.hid hn3
  have HHB := Lib.hid (And.intro hH (And.intro hR hW))
  obtain ⟨b3, o3, eA, hb3, hel⟩ := Sl.pos encAc encAc_len hL2 (by omega)
  subst eA
  have hac' : l[j] = ac := by rw [List.getElem?_eq_getElem hjl] at hac; exact Option.some.inj hac
  have HCA := Lib.hid (fun W (hb : Below w.heap.size w W) => (show W.cell? ⟨b3, o3 + j * 3, none⟩ = some (.int .i64 ac.d) ∧ W.cell? ⟨b3, o3 + j * 3 + 1, none⟩ = some (.int .i64 ac.at_) ∧ W.cell? ⟨b3, o3 + j * 3 + 2, none⟩ = some (.int .i64 ac.v) from
    ⟨hel W hb j hjl 0 _ (by rw [hac']; rfl), hel W hb j hjl 1 _ (by rw [hac']; rfl), hel W hb j hjl 2 _ (by rw [hac']; rfl)⟩))
  have hj0 : (0 : Int) ≤ (j : Int) := by omega
  have hjz : (j : Int) < (n3 : Int) := by omega
  have hjb : ((j : Int) == (n3 : Int)) = false := by simp; omega
  have hwr : IntKind.i64.wrap ((j : Int) + 1) = (j : Int) + 1 := by rw [IntKind.wrap_i64]; omega
  have HS := Lib.hid (show workM l m k t = endM m k t 1 from by rw [hspec]; unfold actM; rw [if_neg (by omega), if_neg (by omega), hg])
  have hdb1 : (ac.d == 1) = false := by simp; omega
  have hdb2 : (ac.d == 2) = false := by simp; omega
  have hdb : (ac.d == 0) = true := by simpa using hd
  have HGE := Lib.hid (fun W (hb : Below w.heap.size w W) => (show Calls Try.prog 56 #[.pointer (some ⟨r, 0, none⟩), .int .i64 ac.at_] W (GetPost w0 r φ a m k t none pw pm pv) from hg ▸ get_any (h.keep hb) hk ac.at_ hWL hR))
  have HEN := Lib.hid (fun W (h : RunW w0 W r φ a m pw pm pv (k : Int)) => end_any h hk 1 hH hR hW ⟨by omega, by omega⟩)
  clear hd hg
  clear h hk hpl htxs htx hl hpc hH hR hW hpw hb1 hm1 hc1 hT1 hb2 hm2 hc2 hL2 e1 hn1 hn2 hn3 hspec hac hac' hjl hel hb3 hkp hxp
  go_enter Try.func43, Try.ntmps43
  go_wp2_with fail
  refine HME.out.mono ?_
  rintro e w1 ⟨rfl, hb1⟩
  have HB1 := Lib.hid hb1
  clear hb1 HME
  go_wp2_with fail
  refine wp_region_held_drew (S := fun W => W.cell? ⟨r, 9, none⟩ = some (.slice (some ⟨b1, o1, none⟩) n1 c1) ∧ W.cell? ⟨r, 10, none⟩ = some (.int .i64 (k : Int)) ∧ W.cell? ⟨b1, o1 + k, none⟩ = some (.slice (some ⟨b2, o2, none⟩) n2 d1) ∧ W.cell? ⟨a.gT, k * 11 + 1, none⟩ = some (.int .i64 (x : Int)) ∧ W.cell? ⟨b2, o2 + x, none⟩ = some (.slice (some ⟨b3, o3, none⟩) n3 d2)) (by kernel_rfl) ?_ (fun hHeldgr => ?_)
  · exact HC.out _ (HB1.out.trans ((Below.refl _ _).drew.mono HB1.out.size))
  refine tkW 0 { dst := some 9, op := Op.move (Operand.tmp 0), type := 68, pos := "stm.go:124", after := _, guard := none } (v := ?vgr0) rfl (Or.inl ⟨by rfl, ?hygr0⟩) ?restgr0
  case hygr0 => (intro w hSw; (try dsimp only at hSw); go_simp <;> with_reducible rfl)
  try simp only [putW, setZ, setS]
  refine tkW 1 { dst := some 10, op := Op.nilCheck (Operand.tmp 9), type := 0, pos := "stm.go:124", after := _, guard := none } (v := ?vgr1) rfl (Or.inl ⟨by rfl, ?hygr1⟩) ?restgr1
  case hygr1 => (intro w hSw; (try dsimp only at hSw); go_simp <;> with_reducible rfl)
  try simp only [putW, setZ, setS]
  refine tkW 2 { dst := some 11, op := Op.fieldAddr 70 (Operand.tmp 10) 1, type := 0, pos := "stm.go:124", after := _, guard := none } (v := ?vgr2) rfl (Or.inl ⟨by rfl, ?hygr2⟩) ?restgr2
  case hygr2 => (intro w hSw; (try dsimp only at hSw); go_simp <;> with_reducible rfl)
  try simp only [putW, setZ, setS]
  refine tkW 3 { dst := some 12, op := Op.fieldAddr 39 (Operand.tmp 11) 2, type := 0, pos := "stm.go:124", after := _, guard := none } (v := ?vgr3) rfl (Or.inl ⟨by rfl, ?hygr3⟩) ?restgr3
  case hygr3 => (intro w hSw; (try dsimp only at hSw); go_simp <;> with_reducible rfl)
  try simp only [putW, setZ, setS]
  refine tkW 4 { dst := some 13, op := Op.load 37 (Operand.tmp 12), type := 37, pos := "stm.go:124", after := _, guard := none } (v := ?vgr4) rfl (Or.inl ⟨by rfl, ?hygr4⟩) ?restgr4
  case hygr4 => (intro w hSw; (try dsimp only at hSw); go_simp <;> with_reducible rfl)
  try simp only [putW, setZ, setS]
  refine tkW 5 { dst := some 14, op := Op.move (Operand.tmp 0), type := 68, pos := "stm.go:124", after := _, guard := none } (v := ?vgr5) rfl (Or.inl ⟨by rfl, ?hygr5⟩) ?restgr5
  case hygr5 => (intro w hSw; (try dsimp only at hSw); go_simp <;> with_reducible rfl)
  try simp only [putW, setZ, setS]
  refine tkW 6 { dst := some 15, op := Op.nilCheck (Operand.tmp 14), type := 0, pos := "stm.go:124", after := _, guard := none } (v := ?vgr6) rfl (Or.inl ⟨by rfl, ?hygr6⟩) ?restgr6
  case hygr6 => (intro w hSw; (try dsimp only at hSw); go_simp <;> with_reducible rfl)
  try simp only [putW, setZ, setS]
  refine tkW 7 { dst := some 16, op := Op.fieldAddr 70 (Operand.tmp 15) 2, type := 0, pos := "stm.go:124", after := _, guard := none } (v := ?vgr7) rfl (Or.inl ⟨by rfl, ?hygr7⟩) ?restgr7
  case hygr7 => (intro w hSw; (try dsimp only at hSw); go_simp <;> with_reducible rfl)
  try simp only [putW, setZ, setS]
  refine tkW 8 { dst := some 17, op := Op.load 3 (Operand.tmp 16), type := 3, pos := "stm.go:124", after := _, guard := none } (v := ?vgr8) rfl (Or.inl ⟨by rfl, ?hygr8⟩) ?restgr8
  case hygr8 => (intro w hSw; (try dsimp only at hSw); go_simp <;> with_reducible rfl)
  try simp only [putW, setZ, setS]
  refine tkW 9 { dst := some 18, op := Op.indexAddr 37 (Operand.tmp 13) (Operand.tmp 17), type := 0, pos := "stm.go:124", after := _, guard := none } (v := ?vgr9) rfl (Or.inl ⟨by rfl, ?hygr9⟩) ?restgr9
  case hygr9 => (intro w hSw; (try dsimp only at hSw); go_simp <;> with_reducible rfl)
  try simp only [putW, setZ, setS]
  refine tkW 10 { dst := some 19, op := Op.load 63 (Operand.tmp 18), type := 63, pos := "stm.go:124", after := _, guard := none } (v := ?vgr10) rfl (Or.inl ⟨by rfl, ?hygr10⟩) ?restgr10
  case hygr10 => (intro w hSw; (try dsimp only at hSw); go_simp <;> with_reducible rfl)
  try simp only [putW, setZ, setS]
  refine tkW 11 { dst := some 20, op := Op.move (Operand.tmp 2), type := 84, pos := "stm.go:124", after := _, guard := none } (v := ?vgr11) rfl (Or.inl ⟨by rfl, ?hygr11⟩) ?restgr11
  case hygr11 => (intro w hSw; (try dsimp only at hSw); go_simp <;> with_reducible rfl)
  try simp only [putW, setZ, setS]
  refine tkW 12 { dst := some 21, op := Op.nilCheck (Operand.tmp 20), type := 0, pos := "stm.go:124", after := _, guard := none } (v := ?vgr12) rfl (Or.inl ⟨by rfl, ?hygr12⟩) ?restgr12
  case hygr12 => (intro w hSw; (try dsimp only at hSw); go_simp <;> with_reducible rfl)
  try simp only [putW, setZ, setS]
  refine tkW 13 { dst := some 22, op := Op.fieldAddr 52 (Operand.tmp 21) 1, type := 0, pos := "stm.go:124", after := _, guard := none } (v := ?vgr13) rfl (Or.inl ⟨by rfl, ?hygr13⟩) ?restgr13
  case hygr13 => (intro w hSw; (try dsimp only at hSw); go_simp <;> with_reducible rfl)
  try simp only [putW, setZ, setS]
  refine tkW 14 { dst := some 23, op := Op.load 3 (Operand.tmp 22), type := 3, pos := "stm.go:124", after := _, guard := none } (v := ?vgr14) rfl (Or.inl ⟨by rfl, ?hygr14⟩) ?restgr14
  case hygr14 => (intro w hSw; (try dsimp only at hSw); go_simp <;> with_reducible rfl)
  try simp only [putW, setZ, setS]
  refine tkW 15 { dst := some 24, op := Op.indexAddr 63 (Operand.tmp 19) (Operand.tmp 23), type := 0, pos := "stm.go:124", after := _, guard := none } (v := ?vgr15) rfl (Or.inl ⟨by rfl, ?hygr15⟩) ?restgr15
  case hygr15 => (intro w hSw; (try dsimp only at hSw); go_simp <;> with_reducible rfl)
  try simp only [putW, setZ, setS]
  refine tkW 16 { dst := some 25, op := Op.load 64 (Operand.tmp 24), type := 64, pos := "stm.go:124", after := _, guard := none } (v := ?vgr16) rfl (Or.inl ⟨by rfl, ?hygr16⟩) ?restgr16
  case hygr16 => (intro w hSw; (try dsimp only at hSw); go_simp <;> with_reducible rfl)
  try simp only [putW, setZ, setS]
  refine tkW 17 { dst := some 3, op := Op.assign (Operand.tmp 25), type := 64, pos := "stm.go:124", after := _, guard := none } (v := ?vgr17) rfl (Or.inl ⟨by rfl, ?hygr17⟩) ?restgr17
  case hygr17 => (intro w hSw; (try dsimp only at hSw); go_simp <;> with_reducible rfl)
  try simp only [putW, setZ, setS]
  refine wpAnyH_done (by kernel_rfl) ?_ _
  obtain ⟨w2, hw2⟩ : ∃ y, w1.drew = y := ⟨_, rfl⟩
  have HB2 := Lib.hid (show Below w.heap.size w w2 from hw2 ▸ (HB1.out.trans ((Below.refl w1.heap.size w1).drew.mono HB1.out.size)))
  try rw [hw2]
  clear hw2
  have q3 := HC3.out _ HB2.out
  have H2 := Lib.hid (HH.out.keep HB2.out)
  have hTl := H2.out.apart.2.2.2.1
  obtain ⟨a0, a1, a2⟩ := HCA.out _ HB2.out
  have HBX := Lib.hid (HB2.out.trans (((Below.refl w2.heap.size w2).alloc (Nat.le_refl _) (.cells #[.int .i64 ac.d, .int .i64 ac.at_, .int .i64 ac.v] 80)).mono HB2.out.size))
  go_wp2_with fail
  refine (HGE.out _ HBX.out).mono ?_
  rintro e w4 ⟨rfl, h4⟩
  have H4 := Lib.hid h4
  clear h4
  go_wp2_with fail
  refine (HEN.out _ H4.out).mono ?_
  rintro e w5 ⟨rfl, hP⟩
  have HP := Lib.hid hP
  clear hP
  go_wp2
  refine bodyPost_ret (results_none rfl _ _ _) rfl ?_
  exact ⟨rfl, by rw [HS.out]; exact HP.out⟩

theorem work_any {k : Nat} {t : Tx} (h : RunW w0 w r φ a m pw pm pv (k : Int)) (hk : m.T[k]? = some t) {pl : List (List (List Ac))} (hpl : PlV w0 pv pl) {txs : List (List Ac)} (htxs : pl[k]? = some txs) (x : Nat) (htx : t.tx = (x : Int)) {l : List Ac} (hl : txs[x]? = some l) (hx1000 : x ≤ 1000) (hl1000 : l.length ≤ 1000) (j : Nat) (hpc : t.pc = (j : Int)) (hj : j ≤ l.length) (hWL : m.W.length = m.L.length) (hdo : ∀ ac, l[j]? = some ac → 0 ≤ ac.d ∧ ac.d < 3) (hH : m.H.length ≤ 1000) (hR : t.R.length ≤ 1000) (hW : t.W.length ≤ 1000) :
    Calls Try.prog 43 #[.pointer (some ⟨r, 0, none⟩)] w (DonePost w0 r a (workM l m k t) k pw pm pv) := by
  cases hac : l[j]? with
  | none => exact work_end h hk hpl htxs x htx hl hx1000 hl1000 j hpc hH hR hW (by rw [List.getElem?_eq_none_iff] at hac; omega)
  | some ac =>
    have hd := hdo ac hac
    by_cases h1 : ac.d = 1
    · exact work_put h hk hpl htxs x htx hl hx1000 hl1000 j hpc hH hR hW ac hac h1
    by_cases h2 : ac.d = 2
    · exact work_sum h hk hpl htxs x htx hl hx1000 hl1000 j hpc hH hR hW ac hac h2
    have h0 : ac.d = 0 := by omega
    cases hg : getP m k t ac.at_ with
    | none => exact work_ungot h hk hpl htxs x htx hl hx1000 hl1000 j hpc hH hR hW ac hac h0 hWL hg
    | some q =>
      obtain ⟨v, R'⟩ := q
      exact work_got h hk hpl htxs x htx hl hx1000 hl1000 j hpc hH hR hW ac hac h0 hWL v R' hg

end
end Go.Proofs.Ytmcbnpeihedcaaa
