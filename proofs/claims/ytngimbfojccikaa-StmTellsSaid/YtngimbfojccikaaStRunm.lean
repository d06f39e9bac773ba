/- Run: what comes of picks. -/
import Derived.Test.YtngimbfojccikaaStmTellsJ
import Derived.Laws.MakeOwn
namespace Go.Proofs.Ytngimbfojccikaa
set_option linter.unusedSimpArgs false
open Go Go.RowKit
set_option linter.unusedVariables false
set_option maxRecDepth 100000

def memCells (a : Ad) (m : Mm) : List Value :=
  [.slice (some ⟨a.gW, 0, none⟩) m.W.length a.cW, .int .i64 m.now, .int .i64 m.mx, .slice a.lA m.L.length a.lc, .slice (some ⟨a.gT, 0, none⟩) m.T.length a.cT, .slice a.hA m.H.length a.hc, .int .i64 m.time]
/-- A state that came back, read. -/
structure MemV (w : World) (a : Ad) (m : Mm) : Prop where
  W : Sl w 1 (.slice (some ⟨a.gW, 0, none⟩) m.W.length a.cW) m.W.length (m.W.flatMap encI)
  L : Sl w 2 (.slice a.lA m.L.length a.lc) m.L.length (m.L.flatMap encL)
  T : Sl w 11 (.slice (some ⟨a.gT, 0, none⟩) m.T.length a.cT) m.T.length (m.T.flatMap encTx)
  H : Sl w 10 (.slice a.hA m.H.length a.hc) m.H.length (m.H.flatMap encRx)
  ts : ∀ t ∈ m.T, Sl w 2 (.slice t.rA t.R.length t.rc) t.R.length (t.R.flatMap encPr) ∧ Sl w 2 (.slice t.wA t.W.length t.wc) t.W.length (t.W.flatMap encPr)
  hs : ∀ x ∈ m.H, RxOk w x
theorem MemV.below {w w' : World} {a : Ad} {m : Mm} (h : MemV w a m) (hb : Below w.heap.size w w') : MemV w' a m :=
  ⟨h.W.below hb, h.L.below hb, h.T.below hb, h.H.below hb, fun t ht => ⟨(h.ts t ht).1.below hb, (h.ts t ht).2.below hb⟩, fun x hx => (h.hs x hx).below hb⟩
theorem RunW.mem {w0 w : World} {r : Nat} {φ : Nat → Nat} {a : Ad} {m : Mm} {pw pm : Int} {pv : Value} {who : Int} (h : RunW w0 w r φ a m pw pm pv who) : MemV w a m :=
  ⟨Sl.of_own h.wrow, Sl.of_own h.lrow, Sl.of_own h.trow, Sl.of_own h.hrow, fun t ht => by
    obtain ⟨k, hk, rfl⟩ := List.getElem_of_mem ht
    have h1 := h.ts k _ (List.getElem?_eq_getElem hk)
    exact ⟨Sl.of_own h1.R, Sl.of_own h1.W⟩, fun x hx => ⟨Sl.of_own (h.hs x hx).R, Sl.of_own (h.hs x hx).W⟩⟩

/-- .. with rows of one's own. -/
structure MemO (w : World) (base : Nat) (a : Ad) (m : Mm) : Prop where
  W : w.ownsRow base 3 1 (.slice (some ⟨a.gW, 0, none⟩) m.W.length a.cW) m.W.length (m.W.flatMap encI)
  L : w.ownsRow base 43 2 (.slice a.lA m.L.length a.lc) m.L.length (m.L.flatMap encL)
  T : w.ownsRow base 46 11 (.slice (some ⟨a.gT, 0, none⟩) m.T.length a.cT) m.T.length (m.T.flatMap encTx)
  H : w.ownsRow base 50 10 (.slice a.hA m.H.length a.hc) m.H.length (m.H.flatMap encRx)
  ts : ∀ t ∈ m.T, PRow w base t.rA t.rc t.R ∧ PRow w base t.wA t.wc t.W
  hs : ∀ x ∈ m.H, PRow w base x.rA x.rc x.R ∧ PRow w base x.wA x.wc x.W
theorem RunW.memO {w0 w : World} {r : Nat} {φ : Nat → Nat} {a : Ad} {m : Mm} {pw pm : Int} {pv : Value} {who : Int} (h : RunW w0 w r φ a m pw pm pv who) : MemO w w0.heap.size a m :=
  ⟨h.wrow, h.lrow, h.trow, h.hrow, fun t ht => by
    obtain ⟨k, hk, rfl⟩ := List.getElem_of_mem ht
    have h1 := h.ts k _ (List.getElem?_eq_getElem hk)
    exact ⟨h1.R, h1.W⟩, fun x hx => ⟨(h.hs x hx).R, (h.hs x hx).W⟩⟩
theorem MemO.far {w : World} {base : Nat} {a : Ad} {m : Mm} (h : MemO w base a m) {p : Addr} (hp : p.block < base) (u : Value) : MemO (w.setCell p u) base a m :=
  ⟨ownsRow_setCell_below h.W hp u, ownsRow_setCell_below h.L hp u, ownsRow_setCell_below h.T hp u, ownsRow_setCell_below h.H hp u, fun t ht => ⟨ownsRow_setCell_below (h.ts t ht).1 hp u, ownsRow_setCell_below (h.ts t ht).2 hp u⟩, fun x hx => ⟨ownsRow_setCell_below (h.hs x hx).1 hp u, ownsRow_setCell_below (h.hs x hx).2 hp u⟩⟩
theorem MemO.mem {w : World} {base : Nat} {a : Ad} {m : Mm} (h : MemO w base a m) : MemV w a m :=
  ⟨Sl.of_own h.W, Sl.of_own h.L, Sl.of_own h.T, Sl.of_own h.H, fun t ht => ⟨Sl.of_own (h.ts t ht).1, Sl.of_own (h.ts t ht).2⟩, fun x hx => ⟨Sl.of_own (h.hs x hx).1, Sl.of_own (h.hs x hx).2⟩⟩

theorem tx_info : (Try.prog.info? 46).map (fun i => (i.zero, i.size, i.bytes)) = some (some (.agg (encTx Tx.zero).toArray), 11, 120) := by kernel_rfl
theorem int_info : (Try.prog.info? 3).map (fun i => (i.zero, i.size, i.bytes)) = some (some (.int .i64 0), 1, 8) := by kernel_rfl
theorem made_tx (n : Nat) (h1 : 1 ≤ n) (h4 : n ≤ 4) : madeCells (Value.agg (encTx Tx.zero).toArray).cells (n * 11) = ((List.replicate n Tx.zero).flatMap encTx).toArray := by
  obtain rfl | rfl | rfl | rfl : n = 1 ∨ n = 2 ∨ n = 3 ∨ n = 4 := by omega
  all_goals kernel_rfl
theorem made_ints' (n : Nat) : madeCells (Value.int .i64 0).cells (n * 1) = ((List.replicate n (0 : Int)).flatMap encI).toArray := by
  apply Array.toList_inj.1
  rw [Nat.mul_one, show (Value.int .i64 0).cells = #[.int .i64 0] from rfl, toList_madeCells_one]
  rw [flat_encI, List.map_replicate]

theorem run_init {w0 w : World} {r gW gT : Nat} {lA : Option Addr} {lc : Nat} {words n : Nat} {mx : Int} {pv : Value} (hb : Below w0.heap.size w0 w) (hr : w0.heap.size ≤ r) (hgW : w0.heap.size ≤ gW) (hgT : w0.heap.size ≤ gT) (hn : n ≤ 4) (hw : words ≤ 8)
    (hrun : Blk w r 60 #[.slice (some ⟨gW, 0, none⟩) words words, .int .i64 0, .int .i64 mx, .slice lA words lc, .slice (some ⟨gT, 0, none⟩) n n, .slice none 0 0, .int .i64 0, .int .i64 words, .int .i64 mx, pv, .int .i64 0])
    (hW : Blk w gW 3 ((List.replicate words (0 : Int)).flatMap encI).toArray) (hT : Blk w gT 46 ((List.replicate n Tx.zero).flatMap encTx).toArray) (hL : RowL w w0.heap.size (.slice lA words lc) (List.replicate words ⟨0, -1⟩)) :
    RunW w0 w r (fun _ => 0) ⟨gW, words, lA, lc, gT, n, none, 0⟩ (initM words mx n) (words : Int) mx pv 0 := by
  have eW : (initM words mx n).W.length = words := by simp [initM]
  have eL : (initM words mx n).L.length = words := by simp [initM]
  have eT : (initM words mx n).T.length = n := by simp [initM]
  exact {
    base := hb
    rge := hr
    run := by
      have e : runCells ⟨gW, words, lA, lc, gT, n, none, 0⟩ (initM words mx n) (words : Int) mx pv 0 = [.slice (some ⟨gW, 0, none⟩) words words, .int .i64 0, .int .i64 mx, .slice lA words lc, .slice (some ⟨gT, 0, none⟩) n n, .slice none 0 0, .int .i64 0, .int .i64 words, .int .i64 mx, pv, .int .i64 0] := by
        unfold runCells
        rw [eW, eL, eT]
        rfl
      rw [e]
      exact hrun
    wrow := by
      rw [eW]
      exact own_of (by rw [flat_len encI encI_len, eW]) hgW hW (Nat.le_refl _) (by show words ≤ maxLen; unfold maxLen; omega) (by simp [flat_len encI encI_len]) (by rw [List.take_of_length_le (by simp [flat_len encI encI_len])]; rfl)
    lrow := by rw [eL]; exact hL
    trow := by
      rw [eT]
      exact own_of (by rw [flat_len encTx encTx_len, eT]) hgT hT (Nat.le_refl _) (by show n ≤ maxLen; unfold maxLen; omega) (by simp [flat_len encTx encTx_len]) (by rw [List.take_of_length_le (by simp [flat_len encTx encTx_len])]; rfl)
    hrow := World.ownsRow_nil _ _ _ _
    ts := fun k t hk => by
      have ht : t = Tx.zero := by
        simp [initM, List.getElem?_replicate] at hk
        exact hk.2.symm
      subst ht
      exact ⟨World.ownsRow_nil _ _ _ _, World.ownsRow_nil _ _ _ _, (fun b hb => by cases hb), (fun b hb => by cases hb)⟩
    hs := fun x hx => by simp [initM] at hx }

theorem good_er2 {words : Nat} {pl : List (List (List Ac))} {m : Mm} (hg : Good words pl m) : Good words pl m.er := by
  refine ⟨hg.W, hg.L, hg.may, by have := hg.T; simpa [Mm.er] using this, fun k t txs hk htx => ?_, by have := hg.h; simpa [Mm.er] using this⟩
  rw [er_T] at hk
  obtain ⟨t', ht', rfl⟩ := Option.map_eq_some_iff.1 hk
  have h := hg.ts k t' txs ht' htx
  exact ⟨h.s0, h.s5, h.x0, h.x1, h.x2, h.y0, h.y2, h.y3, h.c0, h.c1, h.rl, h.wl, h.ws, h.wa, h.ra, h.i0, h.i2, h.i4, h.i5, h.w0⟩
theorem planOk_of {words mx : Int} {pl : List (List (List Ac))} (h : mayP words mx pl = true) : ∃ n : Nat, words = (n : Int) ∧ PlanOk n mx pl := by
  unfold mayP newOk at h
  simp only [Bool.and_eq_true, decide_eq_true_eq, List.all_eq_true] at h
  obtain ⟨⟨h1, h2, h3, h4⟩, h5, h6, h7⟩ := h
  refine ⟨words.toNat, by omega, ?_⟩
  have htx : ∀ txs ∈ pl, txs.length ≤ 4 ∧ ∀ l ∈ txs, l.length ≤ 6 ∧ ∀ a ∈ l, actB words a = true := fun txs hm => by
    have := h7 txs hm
    unfold txB at this
    simp only [Bool.and_eq_true, decide_eq_true_eq, List.all_eq_true] at this
    refine ⟨this.1, fun l hl => ?_⟩
    have := this.2 l hl
    unfold lB at this
    simpa only [Bool.and_eq_true, decide_eq_true_eq, List.all_eq_true] using this
  refine ⟨by omega, by omega, h3, h4, h5, h6, fun txs hm => (htx txs hm).1, fun txs hm l hl => ((htx txs hm).2 l hl).1, fun txs hm l hl a ha => ?_⟩
  have := ((htx txs hm).2 l hl).2 a ha
  unfold actB at this
  simp only [Bool.and_eq_true, decide_eq_true_eq] at this
  exact ⟨this.1, this.2.1, this.2.2.1, by omega⟩

set_option maxHeartbeats 4000000 in
theorem run_no (words mx : Int) (pl : List (List (List Ac))) (pv kv : Value) (w : World) (hpl : PlV w pv pl) (hn : mayP words mx pl = false) :
    Calls Try.prog 12 #[planV words mx pv, kv] w fun e w' => e = .returned (.tuple #[.agg #[.slice none 0 0, .int .i64 0, .int .i64 0, .slice none 0 0, .slice none 0 0, .slice none 0 0, .int .i64 0], .bool false]) ∧ Below w.heap.size w w' := by
  obtain ⟨A, c, rfl, _, _⟩ := hpl.form
  have hb0 : Below w.heap.size w ((w.alloc (.cells #[.int .i64 words, .int .i64 mx, .slice A pl.length c] 24)).alloc (.cells #[.slice none 0 0, .int .i64 0, .int .i64 0, .slice none 0 0, .slice none 0 0, .slice none 0 0, .int .i64 0] 34)) := ((Below.refl _ w).alloc (Nat.le_refl _) _).alloc (by simp) _
  have HM := Lib.hid (hn ▸ may_any words mx pl (.slice A pl.length c) _ (hpl.below hb0))
  have HB0 := Lib.hid hb0
  generalize pl.length = n at *
  have k4 : Blk ((w.alloc (.cells #[.int .i64 words, .int .i64 mx, .slice A n c] 24)).alloc (.cells #[.slice none 0 0, .int .i64 0, .int .i64 0, .slice none 0 0, .slice none 0 0, .slice none 0 0, .int .i64 0] 34)) (w.heap.size + 1) 34 #[.slice none 0 0, .int .i64 0, .int .i64 0, .slice none 0 0, .slice none 0 0, .slice none 0 0, .int .i64 0] := Blk.new_ _ _ _ _ (by simp)
  have HK4 := Lib.hid k4
  clear hpl hn k4 hb0
  unfold planV at HM ⊢
  go_enter Try.func12, Try.ntmps12
  go_wp2_with fail
  refine HM.out.mono ?_
  rintro e w1 ⟨rfl, hb1⟩
  have k4 := HK4.out.keep hb1
  have c0 : w1.cell? ⟨w.heap.size + 1, 0, none⟩ = some (.slice none 0 0) := by rw [k4.cell]; rfl
  have c1 : w1.cell? ⟨w.heap.size + 1, 1, none⟩ = some (.int .i64 0) := by rw [k4.cell]; rfl
  have c2 : w1.cell? ⟨w.heap.size + 1, 2, none⟩ = some (.int .i64 0) := by rw [k4.cell]; rfl
  have c3 : w1.cell? ⟨w.heap.size + 1, 3, none⟩ = some (.slice none 0 0) := by rw [k4.cell]; rfl
  have c4 : w1.cell? ⟨w.heap.size + 1, 4, none⟩ = some (.slice none 0 0) := by rw [k4.cell]; rfl
  have c5 : w1.cell? ⟨w.heap.size + 1, 5, none⟩ = some (.slice none 0 0) := by rw [k4.cell]; rfl
  have c6 : w1.cell? ⟨w.heap.size + 1, 6, none⟩ = some (.int .i64 0) := by rw [k4.cell]; rfl
  have f := k4.free
  have HB := Lib.hid (HB0.out.trans (hb1.mono HB0.out.size))
  clear hb1 k4
  go_wp2
  refine bodyPost_ret (v := .tuple #[.agg #[.slice none 0 0, .int .i64 0, .int .i64 0, .slice none 0 0, .slice none 0 0, .slice none 0 0, .int .i64 0], .bool false]) (by simp [results, Try.results12, go_sem, *]) rfl ⟨rfl, ?_⟩
  exact ((((((HB.out.setCell (by simp) _).setCell (by simp) _).setCell (by simp) _).setCell (by simp) _).setCell (by simp) _).setCell (by simp) _).setCell (by simp) _

theorem runFrom_snoc (pl : List (List (List Ac))) (m : Mm) (picks : List Int) (q : Int) : runFrom pl m (picks ++ [q]) = timeM (stepM pl (runFrom pl m picks) q) := by
  unfold runFrom
  rw [List.foldl_append]
  rfl
theorem er_time (m : Mm) : (timeM m).er = timeM m.er := rfl
theorem runFrom_good {words : Nat} {mx : Int} {pl : List (List (List Ac))} (hp : PlanOk words mx pl) : ∀ (picks : List Int) (m : Mm), Good words pl m → Good words pl (runFrom pl m picks) ∧ (runFrom pl m picks).time = m.time + picks.length
  | [], m, hg => ⟨hg, by simp [runFrom]⟩
  | q :: picks, m, hg => by
    have h := runFrom_good hp picks _ (good_step hp hg q)
    refine ⟨h.1, ?_⟩
    show (runFrom pl (timeM (stepM pl m q)) picks).time = _
    rw [h.2]
    show (stepM pl m q).time + 1 + _ = _
    rw [time_step]
    simp
    omega

/-- What Run hands back. -/
def RunPost (w : World) (s : Mm) (e : Ending) (w' : World) : Prop :=
  ∃ a m, e = .returned (.tuple #[.agg (memCells a m).toArray, .bool true]) ∧ MemV w' a m ∧ m.er = s.er ∧ Below w.heap.size w w'

/-- .. with rows of one's own. -/
def RunPostO (w : World) (s : Mm) (e : Ending) (w' : World) : Prop :=
  ∃ a m, e = .returned (.tuple #[.agg (memCells a m).toArray, .bool true]) ∧ MemO w' w.heap.size a m ∧ m.er = s.er ∧ Below w.heap.size w w'
theorem MemO.mono {w : World} {base base' : Nat} {a : Ad} {m : Mm} (h : MemO w base a m) (hb : base' ≤ base) : MemO w base' a m :=
  ⟨ownsRow_mono h.W hb, ownsRow_mono h.L hb, ownsRow_mono h.T hb, ownsRow_mono h.H hb, fun t ht => ⟨ownsRow_mono (h.ts t ht).1 hb, ownsRow_mono (h.ts t ht).2 hb⟩, fun x hx => ⟨ownsRow_mono (h.hs x hx).1 hb, ownsRow_mono (h.hs x hx).2 hb⟩⟩
theorem MemO.below {w w' : World} {base : Nat} {a : Ad} {m : Mm} (h : MemO w base a m) (hb : Below w.heap.size w w') : MemO w' base a m :=
  ⟨own_below h.W hb, own_below h.L hb, own_below h.T hb, own_below h.H hb, fun t ht => ⟨own_below (h.ts t ht).1 hb, own_below (h.ts t ht).2 hb⟩, fun x hx => ⟨own_below (h.hs x hx).1 hb, own_below (h.hs x hx).2 hb⟩⟩
theorem MemO.box {w w' : World} {base g : Nat} {a : Ad} {m : Mm} {cs : Array Value} (h : MemO w base a m) (hg : w.grownBy w' (some g)) (hb : Blk w g 34 cs) : MemO w' base a m :=
  ⟨own_ty h.W hg hb (by decide), own_ty h.L hg hb (by decide), own_ty h.T hg hb (by decide), own_ty h.H hg hb (by decide), fun t ht => ⟨own_ty (h.ts t ht).1 hg hb (by decide), own_ty (h.ts t ht).2 hg hb (by decide)⟩, fun x hx => ⟨own_ty (h.hs x hx).1 hg hb (by decide), own_ty (h.hs x hx).2 hg hb (by decide)⟩⟩

set_option maxHeartbeats 8000000 in
theorem run_own (words : Nat) (mx : Int) (pl : List (List (List Ac))) (pv kv : Value) (picks : List Int) (w : World) (hpl : PlV w pv pl) (hkv : Sl w 1 kv picks.length (picks.flatMap encI)) (hm : mayP (words : Int) mx pl = true) (hpk : picks.length ≤ 900) :
    Calls Try.prog 12 #[planV (words : Int) mx pv, kv] w (RunPostO w (runM words mx pl picks)) := by
  obtain ⟨words', hw', hP⟩ := planOk_of hm
  obtain rfl : words = words' := by omega
  have hw1 := hP.w1
  have hw8 := hP.w8
  have hm0 := hP.m0
  have hm1 := hP.m1
  have hp1 := hP.p1
  have hp4 := hP.p4
  obtain ⟨A, c, rfl, _, _⟩ := hpl.form
  obtain ⟨Ak, ck, rfl, _, _⟩ := hkv.form
  obtain ⟨n, hn⟩ : ∃ n, n = pl.length := ⟨_, rfl⟩
  obtain ⟨np, hnp⟩ : ∃ n, n = picks.length := ⟨_, rfl⟩
  have hb0 : Below w.heap.size w ((w.alloc (.cells #[.int .i64 words, .int .i64 mx, .slice A n c] 24)).alloc (.cells #[.slice none 0 0, .int .i64 0, .int .i64 0, .slice none 0 0, .slice none 0 0, .slice none 0 0, .int .i64 0] 34)) := ((Below.refl _ w).alloc (Nat.le_refl _) _).alloc (by simp) _
  have k2 : Blk ((w.alloc (.cells #[.int .i64 words, .int .i64 mx, .slice A n c] 24)).alloc (.cells #[.slice none 0 0, .int .i64 0, .int .i64 0, .slice none 0 0, .slice none 0 0, .slice none 0 0, .int .i64 0] 34)) w.heap.size 24 #[.int .i64 words, .int .i64 mx, .slice A n c] := (Blk.new_ w _ _ _ rfl).alloc _
  have k4 : Blk ((w.alloc (.cells #[.int .i64 words, .int .i64 mx, .slice A n c] 24)).alloc (.cells #[.slice none 0 0, .int .i64 0, .int .i64 0, .slice none 0 0, .slice none 0 0, .slice none 0 0, .int .i64 0] 34)) (w.heap.size + 1) 34 #[.slice none 0 0, .int .i64 0, .int .i64 0, .slice none 0 0, .slice none 0 0, .slice none 0 0, .int .i64 0] := Blk.new_ _ _ _ _ (by simp)
  have HM := Lib.hid (hm ▸ may_any (words : Int) mx pl (.slice A pl.length c) _ (hpl.below hb0))
  have HKP := Lib.hid (fun h0 : 0 < picks.length => Sl.pos encI encI_len hkv h0)
  have HPL := Lib.hid hpl
  have HN := Lib.hid hn
  have HNP := Lib.hid hnp
  have HPO := Lib.hid hP
  have HL := Lib.hid (fun W => LNew_yes words mx W hw1 hw8 hm0 hm1)
  rw [← hn] at HM hp1 hp4 HPL ⊢
  rw [← hnp] at hpk ⊢
  have HB0 := Lib.hid hb0
  have HK2 := Lib.hid k2
  have HK4 := Lib.hid k4
  clear hpl hkv hm hP hb0 k2 k4 hn hnp hw'
  unfold planV at HM ⊢
  go_enter Try.func12, Try.ntmps12
  go_wp2_with fail
  refine HM.out.mono ?_
  rintro e w1 ⟨rfl, hb1⟩
  have HB1 := Lib.hid (HB0.out.trans (hb1.mono HB0.out.size))
  have k2 := HK2.out.keep hb1
  have HK4a := Lib.hid (HK4.out.keep hb1)
  have HK2a := Lib.hid k2
  have c0 : w1.cell? ⟨w.heap.size, 0, none⟩ = some (.int .i64 (words : Int)) := by rw [k2.cell]; rfl
  have c1 : w1.cell? ⟨w.heap.size, 1, none⟩ = some (.int .i64 mx) := by rw [k2.cell]; rfl
  clear hb1 k2 HM
  go_wp2_with fail
  refine (HL.out _).mono ?_
  rintro e w2 ⟨v2, rfl, ⟨sv, rfl, hrow⟩, hb2⟩
  obtain ⟨A2, c2, rfl, _, _⟩ := (Sl.of_own hrow).form
  rw [List.length_replicate] at hrow ⊢
  have HROW := Lib.hid hrow
  have HB2 := Lib.hid (HB1.out.trans (hb2.mono HB1.out.size))
  have HB12 := Lib.hid hb2
  have HK2b := Lib.hid (HK2a.out.keep hb2)
  have HK4b := Lib.hid (HK4a.out.keep hb2)
  clear hb2 hrow c0 c1
  obtain ⟨i0, hi0, iz0, iz1, iz2⟩ := info_parts int_info
  obtain ⟨j0, hj0, jz0, jz1, jz2⟩ := info_parts tx_info
  have hmkW : ∀ (w : World) (kl kc : IntKind), (Instr.makeSlice 25 (.int kl (words : Int)) (.int kc (words : Int))).run Try.prog w = .ok (.slice (some ⟨w.heap.size, 0, none⟩) words words) (w.alloc (.cells ((List.replicate words (0 : Int)).flatMap encI).toArray 3)) := fun w kl kc => by
    have := run_make (P := Try.prog) w 25 3 i0 _ Try.underlying25 hi0 iz0 kl kc (words : Int) (words : Int) (by omega) (Int.le_refl _) (by rw [iz2]; omega) (by omega)
    rw [this, Int.toNat_natCast, iz1, made_ints']
  have hmkT : ∀ (w : World) (kl kc : IntKind), (Instr.makeSlice 31 (.int kl (n : Int)) (.int kc (n : Int))).run Try.prog w = .ok (.slice (some ⟨w.heap.size, 0, none⟩) n n) (w.alloc (.cells ((List.replicate n Tx.zero).flatMap encTx).toArray 46)) := fun w kl kc => by
    have := run_make (P := Try.prog) w 31 46 j0 _ Try.underlying31 hj0 jz0 kl kc (n : Int) (n : Int) (by omega) (Int.le_refl _) (by rw [jz2]; omega) (by omega)
    rw [this, Int.toNat_natCast, jz1, made_tx n hp1 hp4]
  generalize hcW : ((List.replicate words (0 : Int)).flatMap encI).toArray = cW at hmkW
  generalize hcT : ((List.replicate n Tx.zero).flatMap encTx).toArray = cT at hmkT
  have HCW := Lib.hid hcW
  have HCT := Lib.hid hcT
  clear hi0 iz0 iz1 iz2 hj0 jz0 jz1 jz2 hcW hcT
  obtain ⟨w3, hw3⟩ : ∃ y, w2.alloc (.cells #[.int .i64 0, .int .i64 mx, .slice A2 words c2] 30) = y := ⟨_, rfl⟩
  have hb3 : Below w2.heap.size w2 w3 := hw3 ▸ (Below.refl _ _).alloc (Nat.le_refl _) _
  have kL : Blk w3 w2.heap.size 30 #[.int .i64 0, .int .i64 mx, .slice A2 words c2] := hw3 ▸ Blk.new _ _ _
  have kP := HK2b.out.keep hb3
  have HK4c := Lib.hid (HK4b.out.keep hb3)
  have HROW3 := Lib.hid (own_below HROW.out hb3)
  have HB3 := Lib.hid (HB2.out.trans (hb3.mono HB2.out.size))
  have HB13 := Lib.hid (HB12.out.trans (hb3.mono HB12.out.size))
  have hz13 : w1.heap.size ≤ w3.heap.size := HB13.out.size
  have hz1 : w.heap.size + 2 ≤ w1.heap.size := (by have := HK4a.out.lt; omega)
  have HS := Lib.hid (fun W (hb : Below w3.heap.size w3 W) => (show W.cell? ⟨w.heap.size, 0, none⟩ = some (.int .i64 (words : Int)) ∧ W.cell? ⟨w.heap.size, 1, none⟩ = some (.int .i64 mx) ∧ W.cell? ⟨w.heap.size, 2, none⟩ = some (.slice A n c) ∧ W.cell? ⟨w2.heap.size, 0, none⟩ = some (.int .i64 0) ∧ W.cell? ⟨w2.heap.size, 1, none⟩ = some (.int .i64 mx) ∧ W.cell? ⟨w2.heap.size, 2, none⟩ = some (.slice A2 words c2) from
    ⟨by rw [(kP.keep hb).cell]; rfl, by rw [(kP.keep hb).cell]; rfl, by rw [(kP.keep hb).cell]; rfl, by rw [(kL.keep hb).cell]; rfl, by rw [(kL.keep hb).cell]; rfl, by rw [(kL.keep hb).cell]; rfl⟩))
  have hws : w.heap.size ≤ w3.heap.size := HB3.out.size
  have HZ2 := Lib.hid (show w.heap.size ≤ w1.heap.size from HB1.out.size)
  clear hb3 kL kP
  go_upto_region 4 with fail
  try rw [hw3]
  clear hw3
  go_cut [8] (fun s8 wx => ∃ r, s8 = .pointer (some ⟨r, 0, none⟩) ∧ Hid (w.heap.size + 2 ≤ r ∧ (∃ φ a, RunW w1 wx r φ a (initM words mx n) (words : Int) mx (.slice A n c) 0) ∧ Blk wx (w.heap.size + 1) 34 #[.slice none 0 0, .int .i64 0, .int .i64 0, .slice none 0 0, .slice none 0 0, .slice none 0 0, .int .i64 0]))
  case first =>
    refine wp_region_held_drew (S := fun W => W.cell? ⟨w.heap.size, 0, none⟩ = some (.int .i64 (words : Int)) ∧ W.cell? ⟨w.heap.size, 1, none⟩ = some (.int .i64 mx) ∧ W.cell? ⟨w.heap.size, 2, none⟩ = some (.slice A n c) ∧ W.cell? ⟨w2.heap.size, 0, none⟩ = some (.int .i64 0) ∧ W.cell? ⟨w2.heap.size, 1, none⟩ = some (.int .i64 mx) ∧ W.cell? ⟨w2.heap.size, 2, none⟩ = some (.slice A2 words c2)) (by kernel_rfl) ?_ (fun hbr => ?_)
    · exact HS.out _ (Below.refl _ _).drew
    refine tkA 0 ?_
    refine tkA 1 ?_
    refine tkA 3 ?_
    refine tkA 4 ?_
    refine tkA 5 ?_
    refine tkA 6 ?_
    refine tkA 9 ?_
    refine wpAnyH_ready (rs := [2, 7]) (by kernel_rfl) (by simp) ?_
    refine conA (fun K hK => ?_) ?_
    · go_simp
      refine hK.out _ _ ?_ (fun hbr2b8 => ?_)
      · first | exact HS.out _ ((Below.refl w3.heap.size w3).alloc (Nat.le_refl _) _).drew | exact HS.out _ (((Below.refl w3.heap.size w3).alloc (Nat.le_refl _) _).alloc (by simp) _).drew
      clear hK K hbr
      try simp only [Act.put, List.setIfInBounds_toArray, List.set_cons_zero, List.set_cons_succ]
      refine stA 7 (fun K hK => ?_)
      go_simp
      refine hK.out _ _ ?_ (fun hbr7b9 => ?_)
      · first | exact HS.out _ ((Below.refl w3.heap.size w3).alloc (Nat.le_refl _) _).drew | exact HS.out _ (((Below.refl w3.heap.size w3).alloc (Nat.le_refl _) _).alloc (by simp) _).drew
      clear hK K hbr2b8
      try simp only [Act.put, List.setIfInBounds_toArray, List.set_cons_zero, List.set_cons_succ]
      refine tkA 8 ?_
      refine tkA 10 ?_
      refine stA 11 (fun K hK => ?_)
      go_simp
      refine hK.out _ _ ?_ (fun hbr11b12 => ?_)
      · exact HS.out _ ((((Below.refl w3.heap.size w3).alloc (Nat.le_refl _) _).alloc (by simp) _).alloc (by simp; omega) _).drew
      clear hK K hbr7b9
      try simp only [Act.put, List.setIfInBounds_toArray, List.set_cons_zero, List.set_cons_succ]
      refine tkA 12 ?_
      refine wpAnyH_done (by kernel_rfl) ?_ _
      go_wp2_with fail
      go_meet
      first | exact ⟨_, rfl, (show Hid _ from ⟨by omega, ⟨_, _, run_init (gW := w3.heap.size) (gT := w3.heap.size + 1) (HB13.out.trans (((((Below.refl w3.heap.size w3).alloc (Nat.le_refl _) _).alloc (by simp) _).alloc (by simp; omega) _).drew.mono HB13.out.size)) (by omega) (by omega) (by omega) hp4 hw8 (Blk.new_ _ _ _ _ (by simp)).drew (HCW.out ▸ (((Blk.new_ w3 _ _ w3.heap.size rfl).alloc _).alloc _).drew) (HCT.out ▸ ((Blk.new_ _ _ _ (w3.heap.size + 1) (by simp)).alloc _).drew) (own_below (HROW3.out) ((((Below.refl w3.heap.size w3).alloc (Nat.le_refl _) _).alloc (by simp) _).alloc (by simp; omega) _).drew)⟩, (HK4c.out.keep ((((Below.refl w3.heap.size w3).alloc (Nat.le_refl _) _).alloc (by simp) _).alloc (by simp; omega) _).drew)⟩)⟩ | exact ⟨_, rfl, (show Hid _ from ⟨by omega, ⟨_, _, run_init (gW := w3.heap.size + 1) (gT := w3.heap.size) (HB13.out.trans (((((Below.refl w3.heap.size w3).alloc (Nat.le_refl _) _).alloc (by simp) _).alloc (by simp; omega) _).drew.mono HB13.out.size)) (by omega) (by omega) (by omega) hp4 hw8 (Blk.new_ _ _ _ _ (by simp)).drew (HCW.out ▸ ((Blk.new_ _ _ _ (w3.heap.size + 1) (by simp)).alloc _).drew) (HCT.out ▸ (((Blk.new_ w3 _ _ w3.heap.size rfl).alloc _).alloc _).drew) (own_below (HROW3.out) ((((Below.refl w3.heap.size w3).alloc (Nat.le_refl _) _).alloc (by simp) _).alloc (by simp; omega) _).drew)⟩, (HK4c.out.keep ((((Below.refl w3.heap.size w3).alloc (Nat.le_refl _) _).alloc (by simp) _).alloc (by simp; omega) _).drew)⟩)⟩
    refine conA (fun K hK => ?_) ?_
    · go_simp
      refine hK.out _ _ ?_ (fun hbr7b14 => ?_)
      · first | exact HS.out _ ((Below.refl w3.heap.size w3).alloc (Nat.le_refl _) _).drew | exact HS.out _ (((Below.refl w3.heap.size w3).alloc (Nat.le_refl _) _).alloc (by simp) _).drew
      clear hK K hbr
      try simp only [Act.put, List.setIfInBounds_toArray, List.set_cons_zero, List.set_cons_succ]
      refine stA 2 (fun K hK => ?_)
      go_simp
      refine hK.out _ _ ?_ (fun hbr2b15 => ?_)
      · first | exact HS.out _ ((Below.refl w3.heap.size w3).alloc (Nat.le_refl _) _).drew | exact HS.out _ (((Below.refl w3.heap.size w3).alloc (Nat.le_refl _) _).alloc (by simp) _).drew
      clear hK K hbr7b14
      try simp only [Act.put, List.setIfInBounds_toArray, List.set_cons_zero, List.set_cons_succ]
      refine tkA 8 ?_
      refine tkA 10 ?_
      refine stA 11 (fun K hK => ?_)
      go_simp
      refine hK.out _ _ ?_ (fun hbr11b18 => ?_)
      · exact HS.out _ ((((Below.refl w3.heap.size w3).alloc (Nat.le_refl _) _).alloc (by simp) _).alloc (by simp; omega) _).drew
      clear hK K hbr2b15
      try simp only [Act.put, List.setIfInBounds_toArray, List.set_cons_zero, List.set_cons_succ]
      refine tkA 12 ?_
      refine wpAnyH_done (by kernel_rfl) ?_ _
      go_wp2_with fail
      go_meet
      first | exact ⟨_, rfl, (show Hid _ from ⟨by omega, ⟨_, _, run_init (gW := w3.heap.size) (gT := w3.heap.size + 1) (HB13.out.trans (((((Below.refl w3.heap.size w3).alloc (Nat.le_refl _) _).alloc (by simp) _).alloc (by simp; omega) _).drew.mono HB13.out.size)) (by omega) (by omega) (by omega) hp4 hw8 (Blk.new_ _ _ _ _ (by simp)).drew (HCW.out ▸ (((Blk.new_ w3 _ _ w3.heap.size rfl).alloc _).alloc _).drew) (HCT.out ▸ ((Blk.new_ _ _ _ (w3.heap.size + 1) (by simp)).alloc _).drew) (own_below (HROW3.out) ((((Below.refl w3.heap.size w3).alloc (Nat.le_refl _) _).alloc (by simp) _).alloc (by simp; omega) _).drew)⟩, (HK4c.out.keep ((((Below.refl w3.heap.size w3).alloc (Nat.le_refl _) _).alloc (by simp) _).alloc (by simp; omega) _).drew)⟩)⟩ | exact ⟨_, rfl, (show Hid _ from ⟨by omega, ⟨_, _, run_init (gW := w3.heap.size + 1) (gT := w3.heap.size) (HB13.out.trans (((((Below.refl w3.heap.size w3).alloc (Nat.le_refl _) _).alloc (by simp) _).alloc (by simp; omega) _).drew.mono HB13.out.size)) (by omega) (by omega) (by omega) hp4 hw8 (Blk.new_ _ _ _ _ (by simp)).drew (HCW.out ▸ ((Blk.new_ _ _ _ (w3.heap.size + 1) (by simp)).alloc _).drew) (HCT.out ▸ (((Blk.new_ w3 _ _ w3.heap.size rfl).alloc _).alloc _).drew) (own_below (HROW3.out) ((((Below.refl w3.heap.size w3).alloc (Nat.le_refl _) _).alloc (by simp) _).alloc (by simp; omega) _).drew)⟩, (HK4c.out.keep ((((Below.refl w3.heap.size w3).alloc (Nat.le_refl _) _).alloc (by simp) _).alloc (by simp; omega) _).drew)⟩)⟩
    exact AllReadyH.nil
  case rest =>
    obtain ⟨r, rfl, HRI⟩ := hcut
    obtain ⟨hr2, ⟨φ0, a0, hR0⟩, hK4d⟩ := HRI.out
    have HR0 := Lib.hid hR0
    have HK4d := Lib.hid hK4d
    clear hR0 hK4d HRI
    go_wp2_with fail
    go_loopg [37] np (fun gg s37 wr => ∃ i : Nat, s37 = .int .i64 i ∧ i ≤ np ∧ np - i ≤ gg ∧ Hid ((∃ φ a m who, RunW w1 wr r φ a m (words : Int) mx (.slice A n c) who ∧ m.er = (runFrom pl (initM words mx n) (picks.take i)).er) ∧ Blk wr (w.heap.size + 1) 34 #[.slice none 0 0, .int .i64 0, .int .i64 0, .slice none 0 0, .slice none 0 0, .slice none 0 0, .int .i64 0]))
    case atStart => exact ⟨0, by go_num, by omega, by omega, (show Hid _ from ⟨⟨_, _, _, _, HR0.out, rfl⟩, HK4d.out⟩)⟩
    case round =>
      obtain ⟨i, rfl, hin, hg, HI⟩ := hrel
      obtain ⟨⟨φ, a, m, who, hR, hme⟩, hK4⟩ := HI.out
      have hgood := runFrom_good HPO.out (picks.take i) (initM words mx n) (by rw [HN.out]; exact good_init HPO.out)
      have hgm : Good words pl m := good_er (by rw [hme]; exact good_er2 hgood.1)
      have hmt : m.time = (i : Int) := by
        have e1 : m.er.time = m.time := rfl
        have e2 : (runFrom pl (initM words mx n) (picks.take i)).er.time = (runFrom pl (initM words mx n) (picks.take i)).time := rfl
        rw [← e1, hme, e2, hgood.2, List.length_take]
        simp [initM]
        have := HNP.out
        omega
      have HG := Lib.hid hgm
      have HR := Lib.hid hR
      have HME := Lib.hid hme
      have HMT := Lib.hid hmt
      have HK4 := Lib.hid hK4
      clear hgood hgm hR hme hmt hK4 HR0
      by_cases hlt : i < np
      · have hltz : (i : Int) < (np : Int) := by omega
        have hi0 : (0 : Int) ≤ (i : Int) := by omega
        have hil : i < picks.length := by rw [← HNP.out]; exact hlt
        obtain ⟨bk, ok, eAk, hbk, hel⟩ := HKP.out (by omega)
        subst eAk
        have q0 := hel wr (HB1.out.trans (HR.out.base.mono HB1.out.size)) i hil 0 _ rfl
        simp only [Nat.add_zero, Nat.mul_one] at q0
        have HTK := Lib.hid (List.take_succ_eq_append_getElem hil)
        generalize picks[i] = q at *
        have hH1000 : m.H.length ≤ 1000 := by have := HG.out.h; have := HMT.out; omega
        have HST := Lib.hid (step_any HR.out q (HPL.out.below HB1.out) HPO.out HG.out hH1000)
        clear hel hH1000
        go_wp2_with fail
        refine HST.out.mono ?_
        rintro e w5 ⟨rfl, φ5, a5, m5, h5, e5⟩
        have hm5 : m5.time = (i : Int) := by
          have e1 : m5.er.time = m5.time := rfl
          have e2 : (stepM pl m q).er.time = (stepM pl m q).time := rfl
          rw [← e1, e5, e2, time_step, HMT.out]
        have H5 := Lib.hid h5
        have HE5 := Lib.hid e5
        have HM5 := Lib.hid hm5
        have r6 : w5.cell? ⟨r, 6, none⟩ = some (.int .i64 (i : Int)) := by rw [← hm5]; exact h5.rcells 6
        have rf6 := h5.run.free 6
        clear h5 e5 hm5
        go_wp2
        go_roundg (np - (i + 1))
        case measure => omega
        case rel =>
          have h6 := H5.out.rcell (m' := timeM m5) (who' := q) (j := 6) (u := .int .i64 ((i : Int) + 1)) (by unfold runCells timeM; rw [HM5.out]; rfl) rfl rfl rfl rfl
          refine ⟨i + 1, by go_num, by omega, by omega, (show Hid _ from ⟨⟨_, _, _, _, h6, ?_⟩, ?_⟩)⟩
          · rw [HTK.out, runFrom_snoc, er_time, er_time, HE5.out, er_step, er_step, HME.out]
          · exact HK4a.out.keep h6.base
      · obtain rfl : np = i := by omega
        rw [List.take_of_length_le (by rw [← HNP.out]; exact Nat.le_refl _)] at HME
        have hk := HK4.out
        have z0 : wr.cell? ⟨w.heap.size + 1, 0, none⟩ = some (.slice none 0 0) := by rw [hk.cell]; rfl
        have z1 : wr.cell? ⟨w.heap.size + 1, 1, none⟩ = some (.int .i64 0) := by rw [hk.cell]; rfl
        have z2 : wr.cell? ⟨w.heap.size + 1, 2, none⟩ = some (.int .i64 0) := by rw [hk.cell]; rfl
        have z3 : wr.cell? ⟨w.heap.size + 1, 3, none⟩ = some (.slice none 0 0) := by rw [hk.cell]; rfl
        have z4 : wr.cell? ⟨w.heap.size + 1, 4, none⟩ = some (.slice none 0 0) := by rw [hk.cell]; rfl
        have z5 : wr.cell? ⟨w.heap.size + 1, 5, none⟩ = some (.slice none 0 0) := by rw [hk.cell]; rfl
        have z6 : wr.cell? ⟨w.heap.size + 1, 6, none⟩ = some (.int .i64 0) := by rw [hk.cell]; rfl
        have zf := hk.free
        have zl := hk.lt
        have q0 : wr.cell? ⟨r, 0, none⟩ = some (.slice (some ⟨a.gW, 0, none⟩) m.W.length a.cW) := HR.out.rcells 0
        have q1 : wr.cell? ⟨r, 1, none⟩ = some (.int .i64 m.now) := HR.out.rcells 1
        have q2 : wr.cell? ⟨r, 2, none⟩ = some (.int .i64 m.mx) := HR.out.rcells 2
        have q3 : wr.cell? ⟨r, 3, none⟩ = some (.slice a.lA m.L.length a.lc) := HR.out.rcells 3
        have q4 : wr.cell? ⟨r, 4, none⟩ = some (.slice (some ⟨a.gT, 0, none⟩) m.T.length a.cT) := HR.out.rcells 4
        have q5 : wr.cell? ⟨r, 5, none⟩ = some (.slice a.hA m.H.length a.hc) := HR.out.rcells 5
        have q6 : wr.cell? ⟨r, 6, none⟩ = some (.int .i64 m.time) := HR.out.rcells 6
        have hg0 := HR.out.rge
        have hrl := HR.out.run.lt
        have hne1 : ¬ r = w.heap.size + 1 := by omega
        have hne2 : ¬ w.heap.size + 1 = r := by omega
        clear hk
        go_wp2
        refine bodyPost_ret (v := .tuple #[.agg #[.slice (some ⟨a.gW, 0, none⟩) m.W.length a.cW, .int .i64 m.now, .int .i64 m.mx, .slice a.lA m.L.length a.lc, .slice (some ⟨a.gT, 0, none⟩) m.T.length a.cT, .slice a.hA m.H.length a.hc, .int .i64 m.time], .bool true]) (by simp [results, Try.results12, go_sem, *]) rfl ?_
        have hz9 : w.heap.size + 1 < w1.heap.size := by omega
        refine ⟨a, m, rfl, (((((((HR.out.memO.far (p := ⟨w.heap.size + 1, 0, none⟩) hz9 _).far (p := ⟨w.heap.size + 1, 1, none⟩) hz9 _).far (p := ⟨w.heap.size + 1, 2, none⟩) hz9 _).far (p := ⟨w.heap.size + 1, 3, none⟩) hz9 _).far (p := ⟨w.heap.size + 1, 4, none⟩) hz9 _).far (p := ⟨w.heap.size + 1, 5, none⟩) hz9 _).far (p := ⟨w.heap.size + 1, 6, none⟩) hz9 _).mono (by omega), ?_, ?_⟩
        · rw [HME.out, HN.out]; rfl
        · exact (((((((HB1.out.trans (HR.out.base.mono HB1.out.size)).setCell (by simp) _).setCell (by simp) _).setCell (by simp) _).setCell (by simp) _).setCell (by simp) _).setCell (by simp) _).setCell (by simp) _
theorem run_yes (words : Nat) (mx : Int) (pl : List (List (List Ac))) (pv kv : Value) (picks : List Int) (w : World) (hpl : PlV w pv pl) (hkv : Sl w 1 kv picks.length (picks.flatMap encI)) (hm : mayP (words : Int) mx pl = true) (hpk : picks.length ≤ 900) :
    Calls Try.prog 12 #[planV (words : Int) mx pv, kv] w (RunPost w (runM words mx pl picks)) := by
  refine (run_own words mx pl pv kv picks w hpl hkv hm hpk).mono ?_
  rintro e w' ⟨a, m, h1, h2, h3, h4⟩
  exact ⟨a, m, h1, h2.mem, h3, h4⟩
end Go.Proofs.Ytngimbfojccikaa
