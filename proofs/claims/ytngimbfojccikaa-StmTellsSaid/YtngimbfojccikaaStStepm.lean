/- step: one of a thread. -/
import Derived.Test.YtngimbfojccikaaStWorkm
import Derived.Test.YtngimbfojccikaaStKeptm
namespace Go.Proofs.Ytngimbfojccikaa
set_option linter.unusedSimpArgs false
open Go Go.RowKit
set_option linter.unusedVariables false
set_option maxRecDepth 100000

theorem setCells_blk {g : Nat} {t : TypeId} : ∀ (us : List Value) (o : Nat) (w : World) (cur : Array Value), Blk w g t cur → o + us.length ≤ cur.size → Blk (w.setCells g o us) g t (cur.toList.take o ++ us ++ cur.toList.drop (o + us.length)).toArray
  | [], o, w, cur, h, _ => by simpa [World.setCells] using h
  | u :: us, o, w, cur, h, hs => by
    rw [World.setCells]
    have h1 := setCells_blk us (o + 1) _ _ (h.set_ o u) (by simp at hs ⊢; omega)
    have hol : o < cur.toList.length := by simp at hs ⊢; omega
    have e : (cur.setIfInBounds o u).toList.take (o + 1) ++ us ++ (cur.setIfInBounds o u).toList.drop (o + 1 + us.length) = cur.toList.take o ++ (u :: us) ++ cur.toList.drop (o + (u :: us).length) := by
      rw [Array.toList_setIfInBounds, List.take_succ_eq_append_getElem (by rw [List.length_set]; exact hol), List.getElem_set_self, List.take_set_of_le (by omega), List.drop_set_of_lt (by omega)]
      simp [Nat.add_assoc, Nat.add_comm 1]
    rw [e] at h1
    exact h1
theorem setCells_below {B g : Nat} {w0 : World} (hg : B ≤ g) : ∀ (us : List Value) (o : Nat) (w : World), Below B w0 w → Below B w0 (w.setCells g o us)
  | [], _, _, h => h
  | u :: us, o, w, h => by rw [World.setCells]; exact setCells_below hg us (o + 1) _ (h.setCell hg u)
/-- A whole value stored into a block that was just laid. -/
theorem wpList_store_new {P : Program} {ops : Array Oper} {rest : List Oper} {o : Oper} {a : Act} {Q : Exit → Act → World → Prop} {w1 : World} {zs : Array Value} {t : TypeId} (hgd : o.guard = none) (ty : TypeId) (x y : Operand) (ho : o.op = .store ty x y) (cs : Array Value)
    (hx : a.eval x = .pointer (some ⟨w1.heap.size, 0, none⟩)) (hy : a.eval y = .agg cs) (hz : zs.size = cs.size) (hi : (P.info? ty).map (·.size) = some cs.size) (h1 : cs.all (·.oneCell') = true)
    (kk : ∀ w2, Blk w2 w1.heap.size t cs → Below w1.heap.size w1 w2 → wpList P ops Q rest (a.put o.dst undef) w2) : wpList P ops Q (o :: rest) a (w1.alloc (.cells zs t)) := by
  have hB : Blk (w1.alloc (.cells zs t)) w1.heap.size t zs := Blk.new _ _ _
  refine wpList_store_mid hgd ty x y ho w1.heap.size 0 cs hx hy (fun j hj => ⟨?_, hB.free _⟩) hi h1 (kk _ ?_ (setCells_below (Nat.le_refl _) _ _ _ ((Below.refl _ _).alloc (Nat.le_refl _) _)))
  · rw [hB.cell, Nat.zero_add, Array.getElem?_eq_getElem (by omega)]; rfl
  · have h2 := setCells_blk cs.toList 0 _ _ hB (by simp; omega)
    have e : (zs.toList.take 0 ++ cs.toList ++ zs.toList.drop (0 + cs.toList.length)).toArray = cs := by
      rw [List.take_zero, List.nil_append, List.drop_of_length_le (by simp; omega), List.append_nil]
    rw [e] at h2
    exact h2
theorem ways_size : (Try.prog.info? 78).map (·.size) = some 6 := by kernel_rfl

section
variable {w0 w w' : World} {r : Nat} {φ : Nat → Nat} {a : Ad} {m : Mm} {pw pm : Int} {pv : Value}

/-- What step leaves. -/
def StepPost (w0 : World) (r : Nat) (m' : Mm) (pw pm : Int) (pv : Value) (who : Int) (e : Ending) (w' : World) : Prop :=
  e = .returned (.tuple #[]) ∧ ∃ φ' a' m2, RunW w0 w' r φ' a' m2 pw pm pv who ∧ m2.er = m'.er

theorem RunW.setWho {who0 : Int} (h : RunW w0 w r φ a m pw pm pv who0) (who : Int) : RunW w0 (w.setCell ⟨r, 10, none⟩ (.int .i64 who)) r φ a m pw pm pv who :=
  h.rcell rfl rfl rfl rfl rfl

set_option maxHeartbeats 4000000 in
theorem step_neg {who0 : Int} (h : RunW w0 w r φ a m pw pm pv who0) (who : Int) (h0 : who < 0) :
    Calls Try.prog 24 #[.pointer (some ⟨r, 0, none⟩), .int .i64 who] w (StepPost w0 r m pw pm pv who) := by
  have c10 : w.cell? ⟨r, 10, none⟩ = some (.int .i64 who0) := h.rcells 10
  have f10 := h.run.free 10
  have HR := Lib.hid (h.setWho who)
  clear h
  go_enter Try.func24, Try.ntmps24
  go_wp2_with fail
  refine wp_region_held_drew (S := fun _ => True) (by kernel_rfl) ?_ (fun hbr => ?_)
  · trivial
  refine tkA 0 ?_
  refine tkA 1 (v := .bool true) ?_ (hy := by (intro w hSw; (try dsimp only at hSw); go_simp <;> first | done | with_reducible rfl | omega | (simp; done) | (simp; omega) | (simp [*]; done) | (simp [*]; omega) | exact decide_eq_false (by omega) | exact decide_eq_true (by omega)))
  refine tkA 2 ?_
  refine skA 3 ?_
  refine skA 4 ?_
  refine skA 5 ?_
  refine skA 6 ?_
  refine skA 7 ?_
  refine skA 8 ?_
  refine skA 9 ?_
  refine skA 10 ?_
  refine tkA 11 ?_
  refine tkA 12 ?_
  refine skA 13 ?_
  refine skA 14 ?_
  refine skA 15 ?_
  refine skA 16 ?_
  refine skA 17 ?_
  refine skA 18 ?_
  refine skA 19 ?_
  refine skA 20 ?_
  refine skA 21 ?_
  refine skA 22 ?_
  refine skA 23 ?_
  refine skA 24 ?_
  refine skA 25 ?_
  refine skA 26 ?_
  refine skA 27 ?_
  refine tkA 28 ?_
  refine wpAnyH_done (by kernel_rfl) ?_ _
  go_wp2
  refine bodyPost_ret (results_none rfl _ _ _) rfl ?_
  exact ⟨rfl, _, _, _, HR.out.keep (Below.refl _ _).drew, rfl⟩

set_option maxHeartbeats 4000000 in
theorem step_out {who0 : Int} (h : RunW w0 w r φ a m pw pm pv who0) (who : Int) (h0 : 0 ≤ who) (h1 : (m.T.length : Int) ≤ who) :
    Calls Try.prog 24 #[.pointer (some ⟨r, 0, none⟩), .int .i64 who] w (StepPost w0 r m pw pm pv who) := by
  have c10 : w.cell? ⟨r, 10, none⟩ = some (.int .i64 who0) := h.rcells 10
  have c4 : w.cell? ⟨r, 4, none⟩ = some (.slice (some ⟨a.gT, 0, none⟩) m.T.length a.cT) := h.rcells 4
  have f10 := h.run.free 10
  have HR := Lib.hid (h.setWho who)
  have h0' : ¬ who < 0 := by omega
  clear h
  generalize m.T.length = n at *
  go_enter Try.func24, Try.ntmps24
  go_wp2_with fail
  refine wp_region_held_drew (S := fun W => W.cell? ⟨r, 4, none⟩ = some (.slice (some ⟨a.gT, 0, none⟩) n a.cT)) (by kernel_rfl) ?_ (fun hcr => ?_)
  · go_simp
  refine tkA 0 ?_
  refine tkA 1 (v := .bool false) ?_ (hy := by (intro w hSw; (try dsimp only at hSw); go_simp <;> first | done | with_reducible rfl | omega | (simp; done) | (simp; omega) | (simp [*]; done) | (simp [*]; omega) | exact decide_eq_false (by omega) | exact decide_eq_true (by omega)))
  refine tkA 2 ?_
  refine tkA 3 ?_
  refine tkA 4 ?_
  refine tkA 5 ?_
  refine tkA 6 ?_
  refine tkA 7 ?_
  refine tkA 8 ?_
  refine tkA 9 ?_
  refine tkA 10 (v := .bool true) ?_ (hy := by (intro w hSw; (try dsimp only at hSw); go_simp <;> first | done | with_reducible rfl | omega | (simp; done) | (simp; omega) | (simp [*]; done) | (simp [*]; omega) | exact decide_eq_false (by omega) | exact decide_eq_true (by omega)))
  refine tkA 11 ?_
  refine tkA 12 ?_
  refine skA 13 ?_
  refine skA 14 ?_
  refine skA 15 ?_
  refine skA 16 ?_
  refine skA 17 ?_
  refine skA 18 ?_
  refine skA 19 ?_
  refine skA 20 ?_
  refine skA 21 ?_
  refine skA 22 ?_
  refine skA 23 ?_
  refine skA 24 ?_
  refine skA 25 ?_
  refine skA 26 ?_
  refine skA 27 ?_
  refine tkA 28 ?_
  refine wpAnyH_done (by kernel_rfl) ?_ _
  go_wp2
  refine bodyPost_ret (results_none rfl _ _ _) rfl ?_
  exact ⟨rfl, _, _, _, HR.out.keep (Below.refl _ _).drew, rfl⟩

set_option maxHeartbeats 4000000 in
theorem step_idle {who0 : Int} (h : RunW w0 w r φ a m pw pm pv who0) {k : Nat} {t : Tx} (hk : m.T[k]? = some t) {pl : List (List (List Ac))} (hpl : PlV w0 pv pl) {txs : List (List Ac)} (htxs : pl[k]? = some txs) (x : Nat) (htx : t.tx = (x : Int)) (hx : txs.length ≤ x) :
    Calls Try.prog 24 #[.pointer (some ⟨r, 0, none⟩), .int .i64 (k : Int)] w (StepPost w0 r m pw pm pv (k : Int)) := by
  have hpw := hpl.below (h.setWho (k : Int)).base
  obtain ⟨b1, o1, c1, A1, d1, e1, hb1, hm1, hc1, hT1⟩ := hpw.at_ htxs
  have HR := Lib.hid (h.setWho (k : Int))
  have HK := Lib.hid hk
  have c10 : w.cell? ⟨r, 10, none⟩ = some (.int .i64 who0) := h.rcells 10
  have f10 := h.run.free 10
  have hlt := h.tlt hk
  have hkp : k < pl.length := (List.getElem?_eq_some_iff.1 htxs).1
  obtain ⟨n1, hn1⟩ : ∃ n, n = pl.length := ⟨_, rfl⟩
  obtain ⟨n2, hn2⟩ : ∃ n, n = txs.length := ⟨_, rfl⟩
  obtain ⟨n, hn⟩ : ∃ n, n = m.T.length := ⟨_, rfl⟩
  rw [← hn1] at e1
  rw [← hn2] at hc1
  have HC := Lib.hid (fun W (hb : Below (w.setCell ⟨r, 10, none⟩ (.int .i64 (k : Int))).heap.size (w.setCell ⟨r, 10, none⟩ (.int .i64 (k : Int))) W) => (show W.cell? ⟨r, 4, none⟩ = some (.slice (some ⟨a.gT, 0, none⟩) n a.cT) ∧ W.cell? ⟨r, 9, none⟩ = some (.slice (some ⟨b1, o1, none⟩) n1 c1) ∧ W.cell? ⟨b1, o1 + k, none⟩ = some (.slice A1 n2 d1) ∧ W.cell? ⟨a.gT, k * 11 + 1, none⟩ = some (.int .i64 (x : Int)) from
    ⟨by rw [hn]; exact (HR.out.keep hb).rcells 4, by rw [← e1]; exact (HR.out.keep hb).rcells 9, (hb.cell (p := ⟨b1, o1 + k, none⟩) hb1).trans hc1, by rw [← htx]; exact (HR.out.keep hb).tcells HK.out (j := 1) rfl⟩))
  have HME := Lib.hid (fun W (hb : Below (w.setCell ⟨r, 10, none⟩ (.int .i64 (k : Int))).heap.size (w.setCell ⟨r, 10, none⟩ (.int .i64 (k : Int))) W) => me_any (HR.out.keep hb) HK.out)
  have hk0 : (0 : Int) ≤ (k : Int) := by omega
  have hk0' : ¬ (k : Int) < 0 := by omega
  have hk1 : (k : Int) < (n1 : Int) := by omega
  have hkn : ¬ (n : Int) ≤ (k : Int) := by omega
  have hx0 : (0 : Int) ≤ (x : Int) := by omega
  have hxz : (n2 : Int) ≤ (x : Int) := by omega
  clear h hk hpl htxs htx hpw hb1 hm1 hc1 hT1 e1 hn1 hn2 hn hkp hlt hx
  go_enter Try.func24, Try.ntmps24
  go_wp2_with fail
  refine wp_region_held_drew (S := fun W => W.cell? ⟨r, 4, none⟩ = some (.slice (some ⟨a.gT, 0, none⟩) n a.cT) ∧ W.cell? ⟨r, 9, none⟩ = some (.slice (some ⟨b1, o1, none⟩) n1 c1) ∧ W.cell? ⟨b1, o1 + k, none⟩ = some (.slice A1 n2 d1) ∧ W.cell? ⟨a.gT, k * 11 + 1, none⟩ = some (.int .i64 (x : Int))) (by kernel_rfl) ?_ (fun hdr => ?_)
  · exact HC.out _ (Below.refl _ _).drew
  refine tkA 0 ?_
  refine tkA 1 (v := .bool false) ?_ (hy := by (intro w hSw; (try dsimp only at hSw); go_simp <;> first | done | with_reducible rfl | omega | (simp; done) | (simp; omega) | (simp [*]; done) | (simp [*]; omega) | exact decide_eq_false (by omega) | exact decide_eq_true (by omega)))
  refine tkA 2 ?_
  refine tkA 3 ?_
  refine tkA 4 ?_
  refine tkA 5 ?_
  refine tkA 6 ?_
  refine tkA 7 ?_
  refine tkA 8 ?_
  refine tkA 9 ?_
  refine tkA 10 (v := .bool false) ?_ (hy := by (intro w hSw; (try dsimp only at hSw); go_simp <;> first | done | with_reducible rfl | omega | (simp; done) | (simp; omega) | (simp [*]; done) | (simp [*]; omega) | exact decide_eq_false (by omega) | exact decide_eq_true (by omega)))
  refine tkA 11 ?_
  refine tkA 12 ?_
  refine tkA 13 ?_
  refine tkA 18 ?_
  refine tkA 19 ?_
  refine tkA 20 ?_
  refine tkA 21 ?_
  refine tkA 22 ?_
  refine tkA 23 ?_
  refine tkA 24 ?_
  refine tkA 25 ?_
  refine tkA 26 ?_
  refine stA 14 (fun K hK => ?_)
  go_simp
  refine (HME.out _ (Below.refl _ _).drew).mono ?_
  rintro e w1 ⟨rfl, hb1'⟩
  have HB1 := Lib.hid ((Below.refl _ _).drew.trans hb1')
  clear hb1'
  try go_wp2_with fail
  refine hK.out _ _ ?_ (fun hdr14 => ?_)
  · exact HC.out _ HB1.out
  clear hK K hdr
  try simp only [Act.put, List.setIfInBounds_toArray, List.set_cons_zero, List.set_cons_succ]
  refine tkA 15 ?_
  refine tkA 16 ?_
  refine tkA 17 ?_
  refine tkA 27 (v := .bool true) ?_ (hy := by (intro w hSw; (try dsimp only at hSw); go_simp <;> first | done | with_reducible rfl | omega | (simp; done) | (simp; omega) | (simp [*]; done) | (simp [*]; omega) | exact decide_eq_false (by omega) | exact decide_eq_true (by omega)))
  refine tkA 28 ?_
  refine wpAnyH_done (by kernel_rfl) ?_ _

  go_wp2
  refine bodyPost_ret (results_none rfl _ _ _) rfl ?_
  exact ⟨rfl, _, _, _, HR.out.keep HB1.out, rfl⟩

set_option maxHeartbeats 4000000 in
theorem step_begin {who0 : Int} (h : RunW w0 w r φ a m pw pm pv who0) {k : Nat} {t : Tx} (hk : m.T[k]? = some t) {pl : List (List (List Ac))} (hpl : PlV w0 pv pl) {txs : List (List Ac)} (htxs : pl[k]? = some txs) (x : Nat) (htx : t.tx = (x : Int)) (hx : x < txs.length) (hst : t.st = 0) {mm : Mm}
    (HM : ∀ W a', RunW w0 W r φ a m pw pm pv (k : Int) → a' = a → Calls Try.prog 44 #[.pointer (some ⟨r, 0, none⟩)] W (DonePost w0 r a mm k pw pm pv)) :
    Calls Try.prog 24 #[.pointer (some ⟨r, 0, none⟩), .int .i64 (k : Int)] w (StepPost w0 r mm pw pm pv (k : Int)) := by
  have hpw := hpl.below (h.setWho (k : Int)).base
  obtain ⟨b1, o1, c1, A1, d1, e1, hb1, hm1, hc1, hT1⟩ := hpw.at_ htxs
  have HR := Lib.hid (h.setWho (k : Int))
  have HK := Lib.hid hk
  have c10 : w.cell? ⟨r, 10, none⟩ = some (.int .i64 who0) := h.rcells 10
  have f10 := h.run.free 10
  have hlt := h.tlt hk
  have hkp : k < pl.length := (List.getElem?_eq_some_iff.1 htxs).1
  obtain ⟨n1, hn1⟩ : ∃ n, n = pl.length := ⟨_, rfl⟩
  obtain ⟨n2, hn2⟩ : ∃ n, n = txs.length := ⟨_, rfl⟩
  obtain ⟨n, hn⟩ : ∃ n, n = m.T.length := ⟨_, rfl⟩
  rw [← hn1] at e1
  rw [← hn2] at hc1
  have HC := Lib.hid (fun W (hb : Below (w.setCell ⟨r, 10, none⟩ (.int .i64 (k : Int))).heap.size (w.setCell ⟨r, 10, none⟩ (.int .i64 (k : Int))) W) => (show W.cell? ⟨r, 4, none⟩ = some (.slice (some ⟨a.gT, 0, none⟩) n a.cT) ∧ W.cell? ⟨r, 9, none⟩ = some (.slice (some ⟨b1, o1, none⟩) n1 c1) ∧ W.cell? ⟨b1, o1 + k, none⟩ = some (.slice A1 n2 d1) ∧ W.cell? ⟨a.gT, k * 11 + 1, none⟩ = some (.int .i64 (x : Int)) from
    ⟨by rw [hn]; exact (HR.out.keep hb).rcells 4, by rw [← e1]; exact (HR.out.keep hb).rcells 9, (hb.cell (p := ⟨b1, o1 + k, none⟩) hb1).trans hc1, by rw [← htx]; exact (HR.out.keep hb).tcells HK.out (j := 1) rfl⟩))
  have HME := Lib.hid (fun W (hb : Below (w.setCell ⟨r, 10, none⟩ (.int .i64 (k : Int))).heap.size (w.setCell ⟨r, 10, none⟩ (.int .i64 (k : Int))) W) => me_any (HR.out.keep hb) HK.out)
  have hk0 : (0 : Int) ≤ (k : Int) := by omega
  have hk0' : ¬ (k : Int) < 0 := by omega
  have hk1 : (k : Int) < (n1 : Int) := by omega
  have hkn : ¬ (n : Int) ≤ (k : Int) := by omega
  have hx0 : (0 : Int) ≤ (x : Int) := by omega
  have hxz : ¬ (n2 : Int) ≤ (x : Int) := by omega
  have HMM := Lib.hid HM
  have HC0 := Lib.hid (fun W (hb : Below (w.setCell ⟨r, 10, none⟩ (.int .i64 (k : Int))).heap.size (w.setCell ⟨r, 10, none⟩ (.int .i64 (k : Int))) W) => (show W.cell? ⟨a.gT, k * 11, none⟩ = some (.int .i64 0) from by have e := (HR.out.keep hb).tcells HK.out (j := 0) rfl; rw [hst] at e; simpa using e))
  have hTl : a.gT < (w.setCell ⟨r, 10, none⟩ (.int .i64 (k : Int))).heap.size := HR.out.apart.2.2.2.1
  clear h hk hpl htxs htx hpw hb1 hm1 hc1 hT1 e1 hn1 hn2 hn hkp hlt hx hst HM
  go_enter Try.func24, Try.ntmps24
  go_wp2_with fail
  refine wp_region_held_drew (S := fun W => W.cell? ⟨r, 4, none⟩ = some (.slice (some ⟨a.gT, 0, none⟩) n a.cT) ∧ W.cell? ⟨r, 9, none⟩ = some (.slice (some ⟨b1, o1, none⟩) n1 c1) ∧ W.cell? ⟨b1, o1 + k, none⟩ = some (.slice A1 n2 d1) ∧ W.cell? ⟨a.gT, k * 11 + 1, none⟩ = some (.int .i64 (x : Int))) (by kernel_rfl) ?_ (fun her => ?_)
  · exact HC.out _ (Below.refl _ _).drew
  refine tkA 0 ?_
  refine tkA 1 (v := .bool false) ?_ (hy := by (intro w hSw; (try dsimp only at hSw); go_simp <;> first | done | with_reducible rfl | omega | (simp; done) | (simp; omega) | (simp [*]; done) | (simp [*]; omega) | exact decide_eq_false (by omega) | exact decide_eq_true (by omega)))
  refine tkA 2 ?_
  refine tkA 3 ?_
  refine tkA 4 ?_
  refine tkA 5 ?_
  refine tkA 6 ?_
  refine tkA 7 ?_
  refine tkA 8 ?_
  refine tkA 9 ?_
  refine tkA 10 (v := .bool false) ?_ (hy := by (intro w hSw; (try dsimp only at hSw); go_simp <;> first | done | with_reducible rfl | omega | (simp; done) | (simp; omega) | (simp [*]; done) | (simp [*]; omega) | exact decide_eq_false (by omega) | exact decide_eq_true (by omega)))
  refine tkA 11 ?_
  refine tkA 12 ?_
  refine tkA 13 ?_
  refine tkA 18 ?_
  refine tkA 19 ?_
  refine tkA 20 ?_
  refine tkA 21 ?_
  refine tkA 22 ?_
  refine tkA 23 ?_
  refine tkA 24 ?_
  refine tkA 25 ?_
  refine tkA 26 ?_
  refine stA 14 (fun K hK => ?_)
  go_simp
  refine (HME.out _ (Below.refl _ _).drew).mono ?_
  rintro e w1 ⟨rfl, hb1'⟩
  have HB1 := Lib.hid ((Below.refl _ _).drew.trans hb1')
  clear hb1'
  try go_wp2_with fail
  refine hK.out _ _ ?_ (fun her14 => ?_)
  · exact HC.out _ HB1.out
  clear hK K her
  try simp only [Act.put, List.setIfInBounds_toArray, List.set_cons_zero, List.set_cons_succ]
  refine tkA 15 ?_
  refine tkA 16 ?_
  refine tkA 17 ?_
  refine tkA 27 (v := .bool false) ?_ (hy := by (intro w hSw; (try dsimp only at hSw); go_simp <;> first | done | with_reducible rfl | omega | (simp; done) | (simp; omega) | (simp [*]; done) | (simp [*]; omega) | exact decide_eq_false (by omega) | exact decide_eq_true (by omega)))
  refine tkA 28 ?_
  refine wpAnyH_done (by kernel_rfl) ?_ _

  obtain ⟨fs, hfs⟩ : ∃ fs : Array Value, fs = #[.func (.func 44) #[.pointer (some ⟨r, 0, none⟩)] #[], .func (.func 45) #[.pointer (some ⟨r, 0, none⟩)] #[], .func (.func 46) #[.pointer (some ⟨r, 0, none⟩)] #[], .func (.func 47) #[.pointer (some ⟨r, 0, none⟩)] #[], .func (.func 48) #[.pointer (some ⟨r, 0, none⟩)] #[], .func (.func 49) #[.pointer (some ⟨r, 0, none⟩)] #[]] := ⟨_, rfl⟩
  have HF := Lib.hid hfs
  clear hfs
  go_wp2_with (refine wpList_store_new rfl 78 _ _ rfl fs (by rfl) (by rw [HF.out]; rfl) (by rw [HF.out]; rfl) (by rw [HF.out]; exact ways_size) (by rw [HF.out]; simp [Value.oneCell']) ?_; intro w2 hB2 hb2; have HB2 := Lib.hid hB2; have hW2 := HB1.out.trans (hb2.mono HB1.out.size); have HW2 := Lib.hid hW2; clear hB2 hb2 hW2)
  refine (HME.out _ HW2.out).mono ?_
  rintro e w3 ⟨rfl, hb3⟩
  have HB3 := Lib.hid hb3
  have HW3 := Lib.hid (HW2.out.trans (hb3.mono HW2.out.size))
  have q0 := HC0.out _ HW3.out
  have qf : w3.cell? ⟨w1.heap.size, 0, none⟩ = some (.func (.func 44) #[.pointer (some ⟨r, 0, none⟩)] #[]) := by rw [(HB2.out.keep HB3.out).cell, HF.out]; rfl
  have H3 := Lib.hid (HR.out.keep HW3.out)
  have hl1 : w1.heap.size < w3.heap.size := (HB2.out.keep HB3.out).lt
  clear hb3
  go_wp2_with fail
  refine (HMM.out _ _ H3.out rfl).mono ?_
  rintro e w4 ⟨rfl, φ4, a4, m4, h4, e4⟩
  have H4 := Lib.hid h4
  have HE4 := Lib.hid e4
  clear h4 e4
  go_wp2
  go_end0
  exact ⟨rfl, _, _, _, H4.out, HE4.out⟩

set_option maxHeartbeats 4000000 in
theorem step_work {who0 : Int} (h : RunW w0 w r φ a m pw pm pv who0) {k : Nat} {t : Tx} (hk : m.T[k]? = some t) {pl : List (List (List Ac))} (hpl : PlV w0 pv pl) {txs : List (List Ac)} (htxs : pl[k]? = some txs) (x : Nat) (htx : t.tx = (x : Int)) (hx : x < txs.length) (hst : t.st = 1) {mm : Mm}
    (HM : ∀ W a', RunW w0 W r φ a m pw pm pv (k : Int) → a' = a → Calls Try.prog 45 #[.pointer (some ⟨r, 0, none⟩)] W (DonePost w0 r a mm k pw pm pv)) :
    Calls Try.prog 24 #[.pointer (some ⟨r, 0, none⟩), .int .i64 (k : Int)] w (StepPost w0 r mm pw pm pv (k : Int)) := by
  have hpw := hpl.below (h.setWho (k : Int)).base
  obtain ⟨b1, o1, c1, A1, d1, e1, hb1, hm1, hc1, hT1⟩ := hpw.at_ htxs
  have HR := Lib.hid (h.setWho (k : Int))
  have HK := Lib.hid hk
  have c10 : w.cell? ⟨r, 10, none⟩ = some (.int .i64 who0) := h.rcells 10
  have f10 := h.run.free 10
  have hlt := h.tlt hk
  have hkp : k < pl.length := (List.getElem?_eq_some_iff.1 htxs).1
  obtain ⟨n1, hn1⟩ : ∃ n, n = pl.length := ⟨_, rfl⟩
  obtain ⟨n2, hn2⟩ : ∃ n, n = txs.length := ⟨_, rfl⟩
  obtain ⟨n, hn⟩ : ∃ n, n = m.T.length := ⟨_, rfl⟩
  rw [← hn1] at e1
  rw [← hn2] at hc1
  have HC := Lib.hid (fun W (hb : Below (w.setCell ⟨r, 10, none⟩ (.int .i64 (k : Int))).heap.size (w.setCell ⟨r, 10, none⟩ (.int .i64 (k : Int))) W) => (show W.cell? ⟨r, 4, none⟩ = some (.slice (some ⟨a.gT, 0, none⟩) n a.cT) ∧ W.cell? ⟨r, 9, none⟩ = some (.slice (some ⟨b1, o1, none⟩) n1 c1) ∧ W.cell? ⟨b1, o1 + k, none⟩ = some (.slice A1 n2 d1) ∧ W.cell? ⟨a.gT, k * 11 + 1, none⟩ = some (.int .i64 (x : Int)) from
    ⟨by rw [hn]; exact (HR.out.keep hb).rcells 4, by rw [← e1]; exact (HR.out.keep hb).rcells 9, (hb.cell (p := ⟨b1, o1 + k, none⟩) hb1).trans hc1, by rw [← htx]; exact (HR.out.keep hb).tcells HK.out (j := 1) rfl⟩))
  have HME := Lib.hid (fun W (hb : Below (w.setCell ⟨r, 10, none⟩ (.int .i64 (k : Int))).heap.size (w.setCell ⟨r, 10, none⟩ (.int .i64 (k : Int))) W) => me_any (HR.out.keep hb) HK.out)
  have hk0 : (0 : Int) ≤ (k : Int) := by omega
  have hk0' : ¬ (k : Int) < 0 := by omega
  have hk1 : (k : Int) < (n1 : Int) := by omega
  have hkn : ¬ (n : Int) ≤ (k : Int) := by omega
  have hx0 : (0 : Int) ≤ (x : Int) := by omega
  have hxz : ¬ (n2 : Int) ≤ (x : Int) := by omega
  have HMM := Lib.hid HM
  have HC0 := Lib.hid (fun W (hb : Below (w.setCell ⟨r, 10, none⟩ (.int .i64 (k : Int))).heap.size (w.setCell ⟨r, 10, none⟩ (.int .i64 (k : Int))) W) => (show W.cell? ⟨a.gT, k * 11, none⟩ = some (.int .i64 1) from by have e := (HR.out.keep hb).tcells HK.out (j := 0) rfl; rw [hst] at e; simpa using e))
  have hTl : a.gT < (w.setCell ⟨r, 10, none⟩ (.int .i64 (k : Int))).heap.size := HR.out.apart.2.2.2.1
  clear h hk hpl htxs htx hpw hb1 hm1 hc1 hT1 e1 hn1 hn2 hn hkp hlt hx hst HM
  go_enter Try.func24, Try.ntmps24
  go_wp2_with fail
  refine wp_region_held_drew (S := fun W => W.cell? ⟨r, 4, none⟩ = some (.slice (some ⟨a.gT, 0, none⟩) n a.cT) ∧ W.cell? ⟨r, 9, none⟩ = some (.slice (some ⟨b1, o1, none⟩) n1 c1) ∧ W.cell? ⟨b1, o1 + k, none⟩ = some (.slice A1 n2 d1) ∧ W.cell? ⟨a.gT, k * 11 + 1, none⟩ = some (.int .i64 (x : Int))) (by kernel_rfl) ?_ (fun hfr => ?_)
  · exact HC.out _ (Below.refl _ _).drew
  refine tkA 0 ?_
  refine tkA 1 (v := .bool false) ?_ (hy := by (intro w hSw; (try dsimp only at hSw); go_simp <;> first | done | with_reducible rfl | omega | (simp; done) | (simp; omega) | (simp [*]; done) | (simp [*]; omega) | exact decide_eq_false (by omega) | exact decide_eq_true (by omega)))
  refine tkA 2 ?_
  refine tkA 3 ?_
  refine tkA 4 ?_
  refine tkA 5 ?_
  refine tkA 6 ?_
  refine tkA 7 ?_
  refine tkA 8 ?_
  refine tkA 9 ?_
  refine tkA 10 (v := .bool false) ?_ (hy := by (intro w hSw; (try dsimp only at hSw); go_simp <;> first | done | with_reducible rfl | omega | (simp; done) | (simp; omega) | (simp [*]; done) | (simp [*]; omega) | exact decide_eq_false (by omega) | exact decide_eq_true (by omega)))
  refine tkA 11 ?_
  refine tkA 12 ?_
  refine tkA 13 ?_
  refine tkA 18 ?_
  refine tkA 19 ?_
  refine tkA 20 ?_
  refine tkA 21 ?_
  refine tkA 22 ?_
  refine tkA 23 ?_
  refine tkA 24 ?_
  refine tkA 25 ?_
  refine tkA 26 ?_
  refine stA 14 (fun K hK => ?_)
  go_simp
  refine (HME.out _ (Below.refl _ _).drew).mono ?_
  rintro e w1 ⟨rfl, hb1'⟩
  have HB1 := Lib.hid ((Below.refl _ _).drew.trans hb1')
  clear hb1'
  try go_wp2_with fail
  refine hK.out _ _ ?_ (fun hfr14 => ?_)
  · exact HC.out _ HB1.out
  clear hK K hfr
  try simp only [Act.put, List.setIfInBounds_toArray, List.set_cons_zero, List.set_cons_succ]
  refine tkA 15 ?_
  refine tkA 16 ?_
  refine tkA 17 ?_
  refine tkA 27 (v := .bool false) ?_ (hy := by (intro w hSw; (try dsimp only at hSw); go_simp <;> first | done | with_reducible rfl | omega | (simp; done) | (simp; omega) | (simp [*]; done) | (simp [*]; omega) | exact decide_eq_false (by omega) | exact decide_eq_true (by omega)))
  refine tkA 28 ?_
  refine wpAnyH_done (by kernel_rfl) ?_ _

  obtain ⟨fs, hfs⟩ : ∃ fs : Array Value, fs = #[.func (.func 44) #[.pointer (some ⟨r, 0, none⟩)] #[], .func (.func 45) #[.pointer (some ⟨r, 0, none⟩)] #[], .func (.func 46) #[.pointer (some ⟨r, 0, none⟩)] #[], .func (.func 47) #[.pointer (some ⟨r, 0, none⟩)] #[], .func (.func 48) #[.pointer (some ⟨r, 0, none⟩)] #[], .func (.func 49) #[.pointer (some ⟨r, 0, none⟩)] #[]] := ⟨_, rfl⟩
  have HF := Lib.hid hfs
  clear hfs
  go_wp2_with (refine wpList_store_new rfl 78 _ _ rfl fs (by rfl) (by rw [HF.out]; rfl) (by rw [HF.out]; rfl) (by rw [HF.out]; exact ways_size) (by rw [HF.out]; simp [Value.oneCell']) ?_; intro w2 hB2 hb2; have HB2 := Lib.hid hB2; have hW2 := HB1.out.trans (hb2.mono HB1.out.size); have HW2 := Lib.hid hW2; clear hB2 hb2 hW2)
  refine (HME.out _ HW2.out).mono ?_
  rintro e w3 ⟨rfl, hb3⟩
  have HB3 := Lib.hid hb3
  have HW3 := Lib.hid (HW2.out.trans (hb3.mono HW2.out.size))
  have q0 := HC0.out _ HW3.out
  have qf : w3.cell? ⟨w1.heap.size, 1, none⟩ = some (.func (.func 45) #[.pointer (some ⟨r, 0, none⟩)] #[]) := by rw [(HB2.out.keep HB3.out).cell, HF.out]; rfl
  have H3 := Lib.hid (HR.out.keep HW3.out)
  have hl1 : w1.heap.size < w3.heap.size := (HB2.out.keep HB3.out).lt
  clear hb3
  go_wp2_with fail
  refine (HMM.out _ _ H3.out rfl).mono ?_
  rintro e w4 ⟨rfl, φ4, a4, m4, h4, e4⟩
  have H4 := Lib.hid h4
  have HE4 := Lib.hid e4
  clear h4 e4
  go_wp2
  go_end0
  exact ⟨rfl, _, _, _, H4.out, HE4.out⟩

set_option maxHeartbeats 4000000 in
theorem step_hold {who0 : Int} (h : RunW w0 w r φ a m pw pm pv who0) {k : Nat} {t : Tx} (hk : m.T[k]? = some t) {pl : List (List (List Ac))} (hpl : PlV w0 pv pl) {txs : List (List Ac)} (htxs : pl[k]? = some txs) (x : Nat) (htx : t.tx = (x : Int)) (hx : x < txs.length) (hst : t.st = 2) {mm : Mm}
    (HM : ∀ W a', RunW w0 W r φ a m pw pm pv (k : Int) → a' = a → Calls Try.prog 46 #[.pointer (some ⟨r, 0, none⟩)] W (DonePost w0 r a mm k pw pm pv)) :
    Calls Try.prog 24 #[.pointer (some ⟨r, 0, none⟩), .int .i64 (k : Int)] w (StepPost w0 r mm pw pm pv (k : Int)) := by
  have hpw := hpl.below (h.setWho (k : Int)).base
  obtain ⟨b1, o1, c1, A1, d1, e1, hb1, hm1, hc1, hT1⟩ := hpw.at_ htxs
  have HR := Lib.hid (h.setWho (k : Int))
  have HK := Lib.hid hk
  have c10 : w.cell? ⟨r, 10, none⟩ = some (.int .i64 who0) := h.rcells 10
  have f10 := h.run.free 10
  have hlt := h.tlt hk
  have hkp : k < pl.length := (List.getElem?_eq_some_iff.1 htxs).1
  obtain ⟨n1, hn1⟩ : ∃ n, n = pl.length := ⟨_, rfl⟩
  obtain ⟨n2, hn2⟩ : ∃ n, n = txs.length := ⟨_, rfl⟩
  obtain ⟨n, hn⟩ : ∃ n, n = m.T.length := ⟨_, rfl⟩
  rw [← hn1] at e1
  rw [← hn2] at hc1
  have HC := Lib.hid (fun W (hb : Below (w.setCell ⟨r, 10, none⟩ (.int .i64 (k : Int))).heap.size (w.setCell ⟨r, 10, none⟩ (.int .i64 (k : Int))) W) => (show W.cell? ⟨r, 4, none⟩ = some (.slice (some ⟨a.gT, 0, none⟩) n a.cT) ∧ W.cell? ⟨r, 9, none⟩ = some (.slice (some ⟨b1, o1, none⟩) n1 c1) ∧ W.cell? ⟨b1, o1 + k, none⟩ = some (.slice A1 n2 d1) ∧ W.cell? ⟨a.gT, k * 11 + 1, none⟩ = some (.int .i64 (x : Int)) from
    ⟨by rw [hn]; exact (HR.out.keep hb).rcells 4, by rw [← e1]; exact (HR.out.keep hb).rcells 9, (hb.cell (p := ⟨b1, o1 + k, none⟩) hb1).trans hc1, by rw [← htx]; exact (HR.out.keep hb).tcells HK.out (j := 1) rfl⟩))
  have HME := Lib.hid (fun W (hb : Below (w.setCell ⟨r, 10, none⟩ (.int .i64 (k : Int))).heap.size (w.setCell ⟨r, 10, none⟩ (.int .i64 (k : Int))) W) => me_any (HR.out.keep hb) HK.out)
  have hk0 : (0 : Int) ≤ (k : Int) := by omega
  have hk0' : ¬ (k : Int) < 0 := by omega
  have hk1 : (k : Int) < (n1 : Int) := by omega
  have hkn : ¬ (n : Int) ≤ (k : Int) := by omega
  have hx0 : (0 : Int) ≤ (x : Int) := by omega
  have hxz : ¬ (n2 : Int) ≤ (x : Int) := by omega
  have HMM := Lib.hid HM
  have HC0 := Lib.hid (fun W (hb : Below (w.setCell ⟨r, 10, none⟩ (.int .i64 (k : Int))).heap.size (w.setCell ⟨r, 10, none⟩ (.int .i64 (k : Int))) W) => (show W.cell? ⟨a.gT, k * 11, none⟩ = some (.int .i64 2) from by have e := (HR.out.keep hb).tcells HK.out (j := 0) rfl; rw [hst] at e; simpa using e))
  have hTl : a.gT < (w.setCell ⟨r, 10, none⟩ (.int .i64 (k : Int))).heap.size := HR.out.apart.2.2.2.1
  clear h hk hpl htxs htx hpw hb1 hm1 hc1 hT1 e1 hn1 hn2 hn hkp hlt hx hst HM
  go_enter Try.func24, Try.ntmps24
  go_wp2_with fail
  refine wp_region_held_drew (S := fun W => W.cell? ⟨r, 4, none⟩ = some (.slice (some ⟨a.gT, 0, none⟩) n a.cT) ∧ W.cell? ⟨r, 9, none⟩ = some (.slice (some ⟨b1, o1, none⟩) n1 c1) ∧ W.cell? ⟨b1, o1 + k, none⟩ = some (.slice A1 n2 d1) ∧ W.cell? ⟨a.gT, k * 11 + 1, none⟩ = some (.int .i64 (x : Int))) (by kernel_rfl) ?_ (fun hgr => ?_)
  · exact HC.out _ (Below.refl _ _).drew
  refine tkA 0 ?_
  refine tkA 1 (v := .bool false) ?_ (hy := by (intro w hSw; (try dsimp only at hSw); go_simp <;> first | done | with_reducible rfl | omega | (simp; done) | (simp; omega) | (simp [*]; done) | (simp [*]; omega) | exact decide_eq_false (by omega) | exact decide_eq_true (by omega)))
  refine tkA 2 ?_
  refine tkA 3 ?_
  refine tkA 4 ?_
  refine tkA 5 ?_
  refine tkA 6 ?_
  refine tkA 7 ?_
  refine tkA 8 ?_
  refine tkA 9 ?_
  refine tkA 10 (v := .bool false) ?_ (hy := by (intro w hSw; (try dsimp only at hSw); go_simp <;> first | done | with_reducible rfl | omega | (simp; done) | (simp; omega) | (simp [*]; done) | (simp [*]; omega) | exact decide_eq_false (by omega) | exact decide_eq_true (by omega)))
  refine tkA 11 ?_
  refine tkA 12 ?_
  refine tkA 13 ?_
  refine tkA 18 ?_
  refine tkA 19 ?_
  refine tkA 20 ?_
  refine tkA 21 ?_
  refine tkA 22 ?_
  refine tkA 23 ?_
  refine tkA 24 ?_
  refine tkA 25 ?_
  refine tkA 26 ?_
  refine stA 14 (fun K hK => ?_)
  go_simp
  refine (HME.out _ (Below.refl _ _).drew).mono ?_
  rintro e w1 ⟨rfl, hb1'⟩
  have HB1 := Lib.hid ((Below.refl _ _).drew.trans hb1')
  clear hb1'
  try go_wp2_with fail
  refine hK.out _ _ ?_ (fun hgr14 => ?_)
  · exact HC.out _ HB1.out
  clear hK K hgr
  try simp only [Act.put, List.setIfInBounds_toArray, List.set_cons_zero, List.set_cons_succ]
  refine tkA 15 ?_
  refine tkA 16 ?_
  refine tkA 17 ?_
  refine tkA 27 (v := .bool false) ?_ (hy := by (intro w hSw; (try dsimp only at hSw); go_simp <;> first | done | with_reducible rfl | omega | (simp; done) | (simp; omega) | (simp [*]; done) | (simp [*]; omega) | exact decide_eq_false (by omega) | exact decide_eq_true (by omega)))
  refine tkA 28 ?_
  refine wpAnyH_done (by kernel_rfl) ?_ _

  obtain ⟨fs, hfs⟩ : ∃ fs : Array Value, fs = #[.func (.func 44) #[.pointer (some ⟨r, 0, none⟩)] #[], .func (.func 45) #[.pointer (some ⟨r, 0, none⟩)] #[], .func (.func 46) #[.pointer (some ⟨r, 0, none⟩)] #[], .func (.func 47) #[.pointer (some ⟨r, 0, none⟩)] #[], .func (.func 48) #[.pointer (some ⟨r, 0, none⟩)] #[], .func (.func 49) #[.pointer (some ⟨r, 0, none⟩)] #[]] := ⟨_, rfl⟩
  have HF := Lib.hid hfs
  clear hfs
  go_wp2_with (refine wpList_store_new rfl 78 _ _ rfl fs (by rfl) (by rw [HF.out]; rfl) (by rw [HF.out]; rfl) (by rw [HF.out]; exact ways_size) (by rw [HF.out]; simp [Value.oneCell']) ?_; intro w2 hB2 hb2; have HB2 := Lib.hid hB2; have hW2 := HB1.out.trans (hb2.mono HB1.out.size); have HW2 := Lib.hid hW2; clear hB2 hb2 hW2)
  refine (HME.out _ HW2.out).mono ?_
  rintro e w3 ⟨rfl, hb3⟩
  have HB3 := Lib.hid hb3
  have HW3 := Lib.hid (HW2.out.trans (hb3.mono HW2.out.size))
  have q0 := HC0.out _ HW3.out
  have qf : w3.cell? ⟨w1.heap.size, 2, none⟩ = some (.func (.func 46) #[.pointer (some ⟨r, 0, none⟩)] #[]) := by rw [(HB2.out.keep HB3.out).cell, HF.out]; rfl
  have H3 := Lib.hid (HR.out.keep HW3.out)
  have hl1 : w1.heap.size < w3.heap.size := (HB2.out.keep HB3.out).lt
  clear hb3
  go_wp2_with fail
  refine (HMM.out _ _ H3.out rfl).mono ?_
  rintro e w4 ⟨rfl, φ4, a4, m4, h4, e4⟩
  have H4 := Lib.hid h4
  have HE4 := Lib.hid e4
  clear h4 e4
  go_wp2
  go_end0
  exact ⟨rfl, _, _, _, H4.out, HE4.out⟩

set_option maxHeartbeats 4000000 in
theorem step_tick {who0 : Int} (h : RunW w0 w r φ a m pw pm pv who0) {k : Nat} {t : Tx} (hk : m.T[k]? = some t) {pl : List (List (List Ac))} (hpl : PlV w0 pv pl) {txs : List (List Ac)} (htxs : pl[k]? = some txs) (x : Nat) (htx : t.tx = (x : Int)) (hx : x < txs.length) (hst : t.st = 3) {mm : Mm}
    (HM : ∀ W a', RunW w0 W r φ a m pw pm pv (k : Int) → a' = a → Calls Try.prog 47 #[.pointer (some ⟨r, 0, none⟩)] W (DonePost w0 r a mm k pw pm pv)) :
    Calls Try.prog 24 #[.pointer (some ⟨r, 0, none⟩), .int .i64 (k : Int)] w (StepPost w0 r mm pw pm pv (k : Int)) := by
  have hpw := hpl.below (h.setWho (k : Int)).base
  obtain ⟨b1, o1, c1, A1, d1, e1, hb1, hm1, hc1, hT1⟩ := hpw.at_ htxs
  have HR := Lib.hid (h.setWho (k : Int))
  have HK := Lib.hid hk
  have c10 : w.cell? ⟨r, 10, none⟩ = some (.int .i64 who0) := h.rcells 10
  have f10 := h.run.free 10
  have hlt := h.tlt hk
  have hkp : k < pl.length := (List.getElem?_eq_some_iff.1 htxs).1
  obtain ⟨n1, hn1⟩ : ∃ n, n = pl.length := ⟨_, rfl⟩
  obtain ⟨n2, hn2⟩ : ∃ n, n = txs.length := ⟨_, rfl⟩
  obtain ⟨n, hn⟩ : ∃ n, n = m.T.length := ⟨_, rfl⟩
  rw [← hn1] at e1
  rw [← hn2] at hc1
  have HC := Lib.hid (fun W (hb : Below (w.setCell ⟨r, 10, none⟩ (.int .i64 (k : Int))).heap.size (w.setCell ⟨r, 10, none⟩ (.int .i64 (k : Int))) W) => (show W.cell? ⟨r, 4, none⟩ = some (.slice (some ⟨a.gT, 0, none⟩) n a.cT) ∧ W.cell? ⟨r, 9, none⟩ = some (.slice (some ⟨b1, o1, none⟩) n1 c1) ∧ W.cell? ⟨b1, o1 + k, none⟩ = some (.slice A1 n2 d1) ∧ W.cell? ⟨a.gT, k * 11 + 1, none⟩ = some (.int .i64 (x : Int)) from
    ⟨by rw [hn]; exact (HR.out.keep hb).rcells 4, by rw [← e1]; exact (HR.out.keep hb).rcells 9, (hb.cell (p := ⟨b1, o1 + k, none⟩) hb1).trans hc1, by rw [← htx]; exact (HR.out.keep hb).tcells HK.out (j := 1) rfl⟩))
  have HME := Lib.hid (fun W (hb : Below (w.setCell ⟨r, 10, none⟩ (.int .i64 (k : Int))).heap.size (w.setCell ⟨r, 10, none⟩ (.int .i64 (k : Int))) W) => me_any (HR.out.keep hb) HK.out)
  have hk0 : (0 : Int) ≤ (k : Int) := by omega
  have hk0' : ¬ (k : Int) < 0 := by omega
  have hk1 : (k : Int) < (n1 : Int) := by omega
  have hkn : ¬ (n : Int) ≤ (k : Int) := by omega
  have hx0 : (0 : Int) ≤ (x : Int) := by omega
  have hxz : ¬ (n2 : Int) ≤ (x : Int) := by omega
  have HMM := Lib.hid HM
  have HC0 := Lib.hid (fun W (hb : Below (w.setCell ⟨r, 10, none⟩ (.int .i64 (k : Int))).heap.size (w.setCell ⟨r, 10, none⟩ (.int .i64 (k : Int))) W) => (show W.cell? ⟨a.gT, k * 11, none⟩ = some (.int .i64 3) from by have e := (HR.out.keep hb).tcells HK.out (j := 0) rfl; rw [hst] at e; simpa using e))
  have hTl : a.gT < (w.setCell ⟨r, 10, none⟩ (.int .i64 (k : Int))).heap.size := HR.out.apart.2.2.2.1
  clear h hk hpl htxs htx hpw hb1 hm1 hc1 hT1 e1 hn1 hn2 hn hkp hlt hx hst HM
  go_enter Try.func24, Try.ntmps24
  go_wp2_with fail
  refine wp_region_held_drew (S := fun W => W.cell? ⟨r, 4, none⟩ = some (.slice (some ⟨a.gT, 0, none⟩) n a.cT) ∧ W.cell? ⟨r, 9, none⟩ = some (.slice (some ⟨b1, o1, none⟩) n1 c1) ∧ W.cell? ⟨b1, o1 + k, none⟩ = some (.slice A1 n2 d1) ∧ W.cell? ⟨a.gT, k * 11 + 1, none⟩ = some (.int .i64 (x : Int))) (by kernel_rfl) ?_ (fun hhr => ?_)
  · exact HC.out _ (Below.refl _ _).drew
  refine tkA 0 ?_
  refine tkA 1 (v := .bool false) ?_ (hy := by (intro w hSw; (try dsimp only at hSw); go_simp <;> first | done | with_reducible rfl | omega | (simp; done) | (simp; omega) | (simp [*]; done) | (simp [*]; omega) | exact decide_eq_false (by omega) | exact decide_eq_true (by omega)))
  refine tkA 2 ?_
  refine tkA 3 ?_
  refine tkA 4 ?_
  refine tkA 5 ?_
  refine tkA 6 ?_
  refine tkA 7 ?_
  refine tkA 8 ?_
  refine tkA 9 ?_
  refine tkA 10 (v := .bool false) ?_ (hy := by (intro w hSw; (try dsimp only at hSw); go_simp <;> first | done | with_reducible rfl | omega | (simp; done) | (simp; omega) | (simp [*]; done) | (simp [*]; omega) | exact decide_eq_false (by omega) | exact decide_eq_true (by omega)))
  refine tkA 11 ?_
  refine tkA 12 ?_
  refine tkA 13 ?_
  refine tkA 18 ?_
  refine tkA 19 ?_
  refine tkA 20 ?_
  refine tkA 21 ?_
  refine tkA 22 ?_
  refine tkA 23 ?_
  refine tkA 24 ?_
  refine tkA 25 ?_
  refine tkA 26 ?_
  refine stA 14 (fun K hK => ?_)
  go_simp
  refine (HME.out _ (Below.refl _ _).drew).mono ?_
  rintro e w1 ⟨rfl, hb1'⟩
  have HB1 := Lib.hid ((Below.refl _ _).drew.trans hb1')
  clear hb1'
  try go_wp2_with fail
  refine hK.out _ _ ?_ (fun hhr14 => ?_)
  · exact HC.out _ HB1.out
  clear hK K hhr
  try simp only [Act.put, List.setIfInBounds_toArray, List.set_cons_zero, List.set_cons_succ]
  refine tkA 15 ?_
  refine tkA 16 ?_
  refine tkA 17 ?_
  refine tkA 27 (v := .bool false) ?_ (hy := by (intro w hSw; (try dsimp only at hSw); go_simp <;> first | done | with_reducible rfl | omega | (simp; done) | (simp; omega) | (simp [*]; done) | (simp [*]; omega) | exact decide_eq_false (by omega) | exact decide_eq_true (by omega)))
  refine tkA 28 ?_
  refine wpAnyH_done (by kernel_rfl) ?_ _

  obtain ⟨fs, hfs⟩ : ∃ fs : Array Value, fs = #[.func (.func 44) #[.pointer (some ⟨r, 0, none⟩)] #[], .func (.func 45) #[.pointer (some ⟨r, 0, none⟩)] #[], .func (.func 46) #[.pointer (some ⟨r, 0, none⟩)] #[], .func (.func 47) #[.pointer (some ⟨r, 0, none⟩)] #[], .func (.func 48) #[.pointer (some ⟨r, 0, none⟩)] #[], .func (.func 49) #[.pointer (some ⟨r, 0, none⟩)] #[]] := ⟨_, rfl⟩
  have HF := Lib.hid hfs
  clear hfs
  go_wp2_with (refine wpList_store_new rfl 78 _ _ rfl fs (by rfl) (by rw [HF.out]; rfl) (by rw [HF.out]; rfl) (by rw [HF.out]; exact ways_size) (by rw [HF.out]; simp [Value.oneCell']) ?_; intro w2 hB2 hb2; have HB2 := Lib.hid hB2; have hW2 := HB1.out.trans (hb2.mono HB1.out.size); have HW2 := Lib.hid hW2; clear hB2 hb2 hW2)
  refine (HME.out _ HW2.out).mono ?_
  rintro e w3 ⟨rfl, hb3⟩
  have HB3 := Lib.hid hb3
  have HW3 := Lib.hid (HW2.out.trans (hb3.mono HW2.out.size))
  have q0 := HC0.out _ HW3.out
  have qf : w3.cell? ⟨w1.heap.size, 3, none⟩ = some (.func (.func 47) #[.pointer (some ⟨r, 0, none⟩)] #[]) := by rw [(HB2.out.keep HB3.out).cell, HF.out]; rfl
  have H3 := Lib.hid (HR.out.keep HW3.out)
  have hl1 : w1.heap.size < w3.heap.size := (HB2.out.keep HB3.out).lt
  clear hb3
  go_wp2_with fail
  refine (HMM.out _ _ H3.out rfl).mono ?_
  rintro e w4 ⟨rfl, φ4, a4, m4, h4, e4⟩
  have H4 := Lib.hid h4
  have HE4 := Lib.hid e4
  clear h4 e4
  go_wp2
  go_end0
  exact ⟨rfl, _, _, _, H4.out, HE4.out⟩

set_option maxHeartbeats 4000000 in
theorem step_check {who0 : Int} (h : RunW w0 w r φ a m pw pm pv who0) {k : Nat} {t : Tx} (hk : m.T[k]? = some t) {pl : List (List (List Ac))} (hpl : PlV w0 pv pl) {txs : List (List Ac)} (htxs : pl[k]? = some txs) (x : Nat) (htx : t.tx = (x : Int)) (hx : x < txs.length) (hst : t.st = 4) {mm : Mm}
    (HM : ∀ W a', RunW w0 W r φ a m pw pm pv (k : Int) → a' = a → Calls Try.prog 48 #[.pointer (some ⟨r, 0, none⟩)] W (DonePost w0 r a mm k pw pm pv)) :
    Calls Try.prog 24 #[.pointer (some ⟨r, 0, none⟩), .int .i64 (k : Int)] w (StepPost w0 r mm pw pm pv (k : Int)) := by
  have hpw := hpl.below (h.setWho (k : Int)).base
  obtain ⟨b1, o1, c1, A1, d1, e1, hb1, hm1, hc1, hT1⟩ := hpw.at_ htxs
  have HR := Lib.hid (h.setWho (k : Int))
  have HK := Lib.hid hk
  have c10 : w.cell? ⟨r, 10, none⟩ = some (.int .i64 who0) := h.rcells 10
  have f10 := h.run.free 10
  have hlt := h.tlt hk
  have hkp : k < pl.length := (List.getElem?_eq_some_iff.1 htxs).1
  obtain ⟨n1, hn1⟩ : ∃ n, n = pl.length := ⟨_, rfl⟩
  obtain ⟨n2, hn2⟩ : ∃ n, n = txs.length := ⟨_, rfl⟩
  obtain ⟨n, hn⟩ : ∃ n, n = m.T.length := ⟨_, rfl⟩
  rw [← hn1] at e1
  rw [← hn2] at hc1
  have HC := Lib.hid (fun W (hb : Below (w.setCell ⟨r, 10, none⟩ (.int .i64 (k : Int))).heap.size (w.setCell ⟨r, 10, none⟩ (.int .i64 (k : Int))) W) => (show W.cell? ⟨r, 4, none⟩ = some (.slice (some ⟨a.gT, 0, none⟩) n a.cT) ∧ W.cell? ⟨r, 9, none⟩ = some (.slice (some ⟨b1, o1, none⟩) n1 c1) ∧ W.cell? ⟨b1, o1 + k, none⟩ = some (.slice A1 n2 d1) ∧ W.cell? ⟨a.gT, k * 11 + 1, none⟩ = some (.int .i64 (x : Int)) from
    ⟨by rw [hn]; exact (HR.out.keep hb).rcells 4, by rw [← e1]; exact (HR.out.keep hb).rcells 9, (hb.cell (p := ⟨b1, o1 + k, none⟩) hb1).trans hc1, by rw [← htx]; exact (HR.out.keep hb).tcells HK.out (j := 1) rfl⟩))
  have HME := Lib.hid (fun W (hb : Below (w.setCell ⟨r, 10, none⟩ (.int .i64 (k : Int))).heap.size (w.setCell ⟨r, 10, none⟩ (.int .i64 (k : Int))) W) => me_any (HR.out.keep hb) HK.out)
  have hk0 : (0 : Int) ≤ (k : Int) := by omega
  have hk0' : ¬ (k : Int) < 0 := by omega
  have hk1 : (k : Int) < (n1 : Int) := by omega
  have hkn : ¬ (n : Int) ≤ (k : Int) := by omega
  have hx0 : (0 : Int) ≤ (x : Int) := by omega
  have hxz : ¬ (n2 : Int) ≤ (x : Int) := by omega
  have HMM := Lib.hid HM
  have HC0 := Lib.hid (fun W (hb : Below (w.setCell ⟨r, 10, none⟩ (.int .i64 (k : Int))).heap.size (w.setCell ⟨r, 10, none⟩ (.int .i64 (k : Int))) W) => (show W.cell? ⟨a.gT, k * 11, none⟩ = some (.int .i64 4) from by have e := (HR.out.keep hb).tcells HK.out (j := 0) rfl; rw [hst] at e; simpa using e))
  have hTl : a.gT < (w.setCell ⟨r, 10, none⟩ (.int .i64 (k : Int))).heap.size := HR.out.apart.2.2.2.1
  clear h hk hpl htxs htx hpw hb1 hm1 hc1 hT1 e1 hn1 hn2 hn hkp hlt hx hst HM
  go_enter Try.func24, Try.ntmps24
  go_wp2_with fail
  refine wp_region_held_drew (S := fun W => W.cell? ⟨r, 4, none⟩ = some (.slice (some ⟨a.gT, 0, none⟩) n a.cT) ∧ W.cell? ⟨r, 9, none⟩ = some (.slice (some ⟨b1, o1, none⟩) n1 c1) ∧ W.cell? ⟨b1, o1 + k, none⟩ = some (.slice A1 n2 d1) ∧ W.cell? ⟨a.gT, k * 11 + 1, none⟩ = some (.int .i64 (x : Int))) (by kernel_rfl) ?_ (fun hir => ?_)
  · exact HC.out _ (Below.refl _ _).drew
  refine tkA 0 ?_
  refine tkA 1 (v := .bool false) ?_ (hy := by (intro w hSw; (try dsimp only at hSw); go_simp <;> first | done | with_reducible rfl | omega | (simp; done) | (simp; omega) | (simp [*]; done) | (simp [*]; omega) | exact decide_eq_false (by omega) | exact decide_eq_true (by omega)))
  refine tkA 2 ?_
  refine tkA 3 ?_
  refine tkA 4 ?_
  refine tkA 5 ?_
  refine tkA 6 ?_
  refine tkA 7 ?_
  refine tkA 8 ?_
  refine tkA 9 ?_
  refine tkA 10 (v := .bool false) ?_ (hy := by (intro w hSw; (try dsimp only at hSw); go_simp <;> first | done | with_reducible rfl | omega | (simp; done) | (simp; omega) | (simp [*]; done) | (simp [*]; omega) | exact decide_eq_false (by omega) | exact decide_eq_true (by omega)))
  refine tkA 11 ?_
  refine tkA 12 ?_
  refine tkA 13 ?_
  refine tkA 18 ?_
  refine tkA 19 ?_
  refine tkA 20 ?_
  refine tkA 21 ?_
  refine tkA 22 ?_
  refine tkA 23 ?_
  refine tkA 24 ?_
  refine tkA 25 ?_
  refine tkA 26 ?_
  refine stA 14 (fun K hK => ?_)
  go_simp
  refine (HME.out _ (Below.refl _ _).drew).mono ?_
  rintro e w1 ⟨rfl, hb1'⟩
  have HB1 := Lib.hid ((Below.refl _ _).drew.trans hb1')
  clear hb1'
  try go_wp2_with fail
  refine hK.out _ _ ?_ (fun hir14 => ?_)
  · exact HC.out _ HB1.out
  clear hK K hir
  try simp only [Act.put, List.setIfInBounds_toArray, List.set_cons_zero, List.set_cons_succ]
  refine tkA 15 ?_
  refine tkA 16 ?_
  refine tkA 17 ?_
  refine tkA 27 (v := .bool false) ?_ (hy := by (intro w hSw; (try dsimp only at hSw); go_simp <;> first | done | with_reducible rfl | omega | (simp; done) | (simp; omega) | (simp [*]; done) | (simp [*]; omega) | exact decide_eq_false (by omega) | exact decide_eq_true (by omega)))
  refine tkA 28 ?_
  refine wpAnyH_done (by kernel_rfl) ?_ _

  obtain ⟨fs, hfs⟩ : ∃ fs : Array Value, fs = #[.func (.func 44) #[.pointer (some ⟨r, 0, none⟩)] #[], .func (.func 45) #[.pointer (some ⟨r, 0, none⟩)] #[], .func (.func 46) #[.pointer (some ⟨r, 0, none⟩)] #[], .func (.func 47) #[.pointer (some ⟨r, 0, none⟩)] #[], .func (.func 48) #[.pointer (some ⟨r, 0, none⟩)] #[], .func (.func 49) #[.pointer (some ⟨r, 0, none⟩)] #[]] := ⟨_, rfl⟩
  have HF := Lib.hid hfs
  clear hfs
  go_wp2_with (refine wpList_store_new rfl 78 _ _ rfl fs (by rfl) (by rw [HF.out]; rfl) (by rw [HF.out]; rfl) (by rw [HF.out]; exact ways_size) (by rw [HF.out]; simp [Value.oneCell']) ?_; intro w2 hB2 hb2; have HB2 := Lib.hid hB2; have hW2 := HB1.out.trans (hb2.mono HB1.out.size); have HW2 := Lib.hid hW2; clear hB2 hb2 hW2)
  refine (HME.out _ HW2.out).mono ?_
  rintro e w3 ⟨rfl, hb3⟩
  have HB3 := Lib.hid hb3
  have HW3 := Lib.hid (HW2.out.trans (hb3.mono HW2.out.size))
  have q0 := HC0.out _ HW3.out
  have qf : w3.cell? ⟨w1.heap.size, 4, none⟩ = some (.func (.func 48) #[.pointer (some ⟨r, 0, none⟩)] #[]) := by rw [(HB2.out.keep HB3.out).cell, HF.out]; rfl
  have H3 := Lib.hid (HR.out.keep HW3.out)
  have hl1 : w1.heap.size < w3.heap.size := (HB2.out.keep HB3.out).lt
  clear hb3
  go_wp2_with fail
  refine (HMM.out _ _ H3.out rfl).mono ?_
  rintro e w4 ⟨rfl, φ4, a4, m4, h4, e4⟩
  have H4 := Lib.hid h4
  have HE4 := Lib.hid e4
  clear h4 e4
  go_wp2
  go_end0
  exact ⟨rfl, _, _, _, H4.out, HE4.out⟩

set_option maxHeartbeats 4000000 in
theorem step_back {who0 : Int} (h : RunW w0 w r φ a m pw pm pv who0) {k : Nat} {t : Tx} (hk : m.T[k]? = some t) {pl : List (List (List Ac))} (hpl : PlV w0 pv pl) {txs : List (List Ac)} (htxs : pl[k]? = some txs) (x : Nat) (htx : t.tx = (x : Int)) (hx : x < txs.length) (hst : t.st = 5) {mm : Mm}
    (HM : ∀ W a', RunW w0 W r φ a m pw pm pv (k : Int) → a' = a → Calls Try.prog 49 #[.pointer (some ⟨r, 0, none⟩)] W (DonePost w0 r a mm k pw pm pv)) :
    Calls Try.prog 24 #[.pointer (some ⟨r, 0, none⟩), .int .i64 (k : Int)] w (StepPost w0 r mm pw pm pv (k : Int)) := by
  have hpw := hpl.below (h.setWho (k : Int)).base
  obtain ⟨b1, o1, c1, A1, d1, e1, hb1, hm1, hc1, hT1⟩ := hpw.at_ htxs
  have HR := Lib.hid (h.setWho (k : Int))
  have HK := Lib.hid hk
  have c10 : w.cell? ⟨r, 10, none⟩ = some (.int .i64 who0) := h.rcells 10
  have f10 := h.run.free 10
  have hlt := h.tlt hk
  have hkp : k < pl.length := (List.getElem?_eq_some_iff.1 htxs).1
  obtain ⟨n1, hn1⟩ : ∃ n, n = pl.length := ⟨_, rfl⟩
  obtain ⟨n2, hn2⟩ : ∃ n, n = txs.length := ⟨_, rfl⟩
  obtain ⟨n, hn⟩ : ∃ n, n = m.T.length := ⟨_, rfl⟩
  rw [← hn1] at e1
  rw [← hn2] at hc1
  have HC := Lib.hid (fun W (hb : Below (w.setCell ⟨r, 10, none⟩ (.int .i64 (k : Int))).heap.size (w.setCell ⟨r, 10, none⟩ (.int .i64 (k : Int))) W) => (show W.cell? ⟨r, 4, none⟩ = some (.slice (some ⟨a.gT, 0, none⟩) n a.cT) ∧ W.cell? ⟨r, 9, none⟩ = some (.slice (some ⟨b1, o1, none⟩) n1 c1) ∧ W.cell? ⟨b1, o1 + k, none⟩ = some (.slice A1 n2 d1) ∧ W.cell? ⟨a.gT, k * 11 + 1, none⟩ = some (.int .i64 (x : Int)) from
    ⟨by rw [hn]; exact (HR.out.keep hb).rcells 4, by rw [← e1]; exact (HR.out.keep hb).rcells 9, (hb.cell (p := ⟨b1, o1 + k, none⟩) hb1).trans hc1, by rw [← htx]; exact (HR.out.keep hb).tcells HK.out (j := 1) rfl⟩))
  have HME := Lib.hid (fun W (hb : Below (w.setCell ⟨r, 10, none⟩ (.int .i64 (k : Int))).heap.size (w.setCell ⟨r, 10, none⟩ (.int .i64 (k : Int))) W) => me_any (HR.out.keep hb) HK.out)
  have hk0 : (0 : Int) ≤ (k : Int) := by omega
  have hk0' : ¬ (k : Int) < 0 := by omega
  have hk1 : (k : Int) < (n1 : Int) := by omega
  have hkn : ¬ (n : Int) ≤ (k : Int) := by omega
  have hx0 : (0 : Int) ≤ (x : Int) := by omega
  have hxz : ¬ (n2 : Int) ≤ (x : Int) := by omega
  have HMM := Lib.hid HM
  have HC0 := Lib.hid (fun W (hb : Below (w.setCell ⟨r, 10, none⟩ (.int .i64 (k : Int))).heap.size (w.setCell ⟨r, 10, none⟩ (.int .i64 (k : Int))) W) => (show W.cell? ⟨a.gT, k * 11, none⟩ = some (.int .i64 5) from by have e := (HR.out.keep hb).tcells HK.out (j := 0) rfl; rw [hst] at e; simpa using e))
  have hTl : a.gT < (w.setCell ⟨r, 10, none⟩ (.int .i64 (k : Int))).heap.size := HR.out.apart.2.2.2.1
  clear h hk hpl htxs htx hpw hb1 hm1 hc1 hT1 e1 hn1 hn2 hn hkp hlt hx hst HM
  go_enter Try.func24, Try.ntmps24
  go_wp2_with fail
  refine wp_region_held_drew (S := fun W => W.cell? ⟨r, 4, none⟩ = some (.slice (some ⟨a.gT, 0, none⟩) n a.cT) ∧ W.cell? ⟨r, 9, none⟩ = some (.slice (some ⟨b1, o1, none⟩) n1 c1) ∧ W.cell? ⟨b1, o1 + k, none⟩ = some (.slice A1 n2 d1) ∧ W.cell? ⟨a.gT, k * 11 + 1, none⟩ = some (.int .i64 (x : Int))) (by kernel_rfl) ?_ (fun hjr => ?_)
  · exact HC.out _ (Below.refl _ _).drew
  refine tkA 0 ?_
  refine tkA 1 (v := .bool false) ?_ (hy := by (intro w hSw; (try dsimp only at hSw); go_simp <;> first | done | with_reducible rfl | omega | (simp; done) | (simp; omega) | (simp [*]; done) | (simp [*]; omega) | exact decide_eq_false (by omega) | exact decide_eq_true (by omega)))
  refine tkA 2 ?_
  refine tkA 3 ?_
  refine tkA 4 ?_
  refine tkA 5 ?_
  refine tkA 6 ?_
  refine tkA 7 ?_
  refine tkA 8 ?_
  refine tkA 9 ?_
  refine tkA 10 (v := .bool false) ?_ (hy := by (intro w hSw; (try dsimp only at hSw); go_simp <;> first | done | with_reducible rfl | omega | (simp; done) | (simp; omega) | (simp [*]; done) | (simp [*]; omega) | exact decide_eq_false (by omega) | exact decide_eq_true (by omega)))
  refine tkA 11 ?_
  refine tkA 12 ?_
  refine tkA 13 ?_
  refine tkA 18 ?_
  refine tkA 19 ?_
  refine tkA 20 ?_
  refine tkA 21 ?_
  refine tkA 22 ?_
  refine tkA 23 ?_
  refine tkA 24 ?_
  refine tkA 25 ?_
  refine tkA 26 ?_
  refine stA 14 (fun K hK => ?_)
  go_simp
  refine (HME.out _ (Below.refl _ _).drew).mono ?_
  rintro e w1 ⟨rfl, hb1'⟩
  have HB1 := Lib.hid ((Below.refl _ _).drew.trans hb1')
  clear hb1'
  try go_wp2_with fail
  refine hK.out _ _ ?_ (fun hjr14 => ?_)
  · exact HC.out _ HB1.out
  clear hK K hjr
  try simp only [Act.put, List.setIfInBounds_toArray, List.set_cons_zero, List.set_cons_succ]
  refine tkA 15 ?_
  refine tkA 16 ?_
  refine tkA 17 ?_
  refine tkA 27 (v := .bool false) ?_ (hy := by (intro w hSw; (try dsimp only at hSw); go_simp <;> first | done | with_reducible rfl | omega | (simp; done) | (simp; omega) | (simp [*]; done) | (simp [*]; omega) | exact decide_eq_false (by omega) | exact decide_eq_true (by omega)))
  refine tkA 28 ?_
  refine wpAnyH_done (by kernel_rfl) ?_ _

  obtain ⟨fs, hfs⟩ : ∃ fs : Array Value, fs = #[.func (.func 44) #[.pointer (some ⟨r, 0, none⟩)] #[], .func (.func 45) #[.pointer (some ⟨r, 0, none⟩)] #[], .func (.func 46) #[.pointer (some ⟨r, 0, none⟩)] #[], .func (.func 47) #[.pointer (some ⟨r, 0, none⟩)] #[], .func (.func 48) #[.pointer (some ⟨r, 0, none⟩)] #[], .func (.func 49) #[.pointer (some ⟨r, 0, none⟩)] #[]] := ⟨_, rfl⟩
  have HF := Lib.hid hfs
  clear hfs
  go_wp2_with (refine wpList_store_new rfl 78 _ _ rfl fs (by rfl) (by rw [HF.out]; rfl) (by rw [HF.out]; rfl) (by rw [HF.out]; exact ways_size) (by rw [HF.out]; simp [Value.oneCell']) ?_; intro w2 hB2 hb2; have HB2 := Lib.hid hB2; have hW2 := HB1.out.trans (hb2.mono HB1.out.size); have HW2 := Lib.hid hW2; clear hB2 hb2 hW2)
  refine (HME.out _ HW2.out).mono ?_
  rintro e w3 ⟨rfl, hb3⟩
  have HB3 := Lib.hid hb3
  have HW3 := Lib.hid (HW2.out.trans (hb3.mono HW2.out.size))
  have q0 := HC0.out _ HW3.out
  have qf : w3.cell? ⟨w1.heap.size, 5, none⟩ = some (.func (.func 49) #[.pointer (some ⟨r, 0, none⟩)] #[]) := by rw [(HB2.out.keep HB3.out).cell, HF.out]; rfl
  have H3 := Lib.hid (HR.out.keep HW3.out)
  have hl1 : w1.heap.size < w3.heap.size := (HB2.out.keep HB3.out).lt
  clear hb3
  go_wp2_with fail
  refine (HMM.out _ _ H3.out rfl).mono ?_
  rintro e w4 ⟨rfl, φ4, a4, m4, h4, e4⟩
  have H4 := Lib.hid h4
  have HE4 := Lib.hid e4
  clear h4 e4
  go_wp2
  go_end0
  exact ⟨rfl, _, _, _, H4.out, HE4.out⟩

theorem step_any {who0 : Int} (h : RunW w0 w r φ a m pw pm pv who0) (who : Int) {pl : List (List (List Ac))} {words : Nat} {mx : Int} (hpl : PlV w0 pv pl) (hp : PlanOk words mx pl) (hg : Good words pl m) (hH : m.H.length ≤ 1000) :
    Calls Try.prog 24 #[.pointer (some ⟨r, 0, none⟩), .int .i64 who] w (StepPost w0 r (stepM pl m who) pw pm pv who) := by
  by_cases h0 : who < 0
  · have e : stepM pl m who = m := by unfold stepM; rw [if_neg (by omega)]
    rw [e]; exact step_neg h who h0
  by_cases h1 : (m.T.length : Int) ≤ who
  · have e : stepM pl m who = m := by
      unfold stepM stepK
      rw [if_pos (by omega), List.getElem?_eq_none (by omega)]
    rw [e]; exact step_out h who (by omega) h1
  obtain ⟨k, rfl⟩ : ∃ k : Nat, who = (k : Int) := ⟨who.toNat, by omega⟩
  have hkT : k < m.T.length := by omega
  have hkp : k < pl.length := by rw [← hg.T]; exact hkT
  obtain ⟨t, hk⟩ : ∃ t, m.T[k]? = some t := ⟨_, List.getElem?_eq_getElem hkT⟩
  obtain ⟨txs, htxs⟩ : ∃ t, pl[k]? = some t := ⟨_, List.getElem?_eq_getElem hkp⟩
  have gt := hg.ts k t txs hk htxs
  have hx0 := gt.x0
  have hx1 := gt.x1
  have hmt : txs ∈ pl := List.mem_of_getElem? htxs
  have htx4 := hp.tx4 txs hmt
  obtain ⟨x, hx⟩ : ∃ x : Nat, t.tx = (x : Int) := ⟨t.tx.toNat, by omega⟩
  have hstep : stepM pl m (k : Int) = if t.tx < txs.length then doM txs m k t else m := by
    unfold stepM stepK
    rw [if_pos (by omega), Int.toNat_natCast, hk, htxs]
  by_cases hlt : txs.length ≤ x
  · have e : stepM pl m (k : Int) = m := by rw [hstep, if_neg (by omega)]
    rw [e]; exact step_idle h hk hpl htxs x hx hlt
  have hxl : x < txs.length := by omega
  have e : stepM pl m (k : Int) = doM txs m k t := by rw [hstep, if_pos (by omega)]
  rw [e]
  have hk4 : k < 4 := by have := hp.p4; omega
  have ehl : txs.getD t.tx.toNat [] = txs[x] := by rw [hx, Int.toNat_natCast]; simp [List.getD, hxl]
  have hl6 : txs[x].length ≤ 6 := hp.ac6 txs hmt _ (List.getElem_mem hxl)
  have c1 := gt.c1
  rw [ehl] at c1
  have c0 := gt.c0
  have rl := gt.rl
  have wl := gt.wl
  have hR : t.R.length ≤ 1000 := by omega
  have hW : t.W.length ≤ 1000 := by omega
  have htx : 0 ≤ t.tx ∧ t.tx ≤ 1000 := ⟨by omega, by omega⟩
  have hmay := hg.may
  have hL8 : m.L.length ≤ 8 := (may_iff.1 hmay).2.2.2.2.1
  have s0 := gt.s0
  have s5 := gt.s5
  have hi0 := gt.i0
  by_cases hs0 : t.st = 0
  · refine step_begin h hk hpl htxs x hx hxl hs0 (fun W a' hW' ha => ?_)
    have ed : doM txs m k t = beginM m k t := by unfold doM; rw [if_pos hs0]
    rw [ed]
    subst ha
    refine (begin_any hW' hk ⟨gt.y0, by have := gt.y3; omega⟩).mono fun e w' he => ?_
    exact ⟨he.1, _, _, _, he.2, rfl⟩
  by_cases hs1 : t.st = 1
  · refine step_work h hk hpl htxs x hx hxl hs1 (fun W a' hW' ha => ?_)
    have ed : doM txs m k t = workM txs[x] m k t := by unfold doM; rw [if_neg hs0, if_pos hs1, ehl]
    rw [ed]
    subst ha
    exact work_any hW' hk hpl htxs x hx (List.getElem?_eq_getElem hxl) (by omega) (by omega) t.pc.toNat (by omega) (by omega) (by rw [hg.W, hg.L]) (fun ac hac => by
      have := hp.acs txs hmt _ (List.getElem_mem hxl) ac (List.mem_of_getElem? hac)
      exact ⟨this.d0, this.d3⟩) hH hR hW
  by_cases hs2 : t.st = 2
  · refine step_hold h hk hpl htxs x hx hxl hs2 (fun W a' hW' ha => ?_)
    have ed : doM txs m k t = holdM m k t := by unfold doM; rw [if_neg hs0, if_neg hs1, if_pos hs2]
    rw [ed]
    subst ha
    have := gt.i2 hs2
    exact hold_any hW' hk hmay hk4 hH hR hW htx t.i.toNat (by omega) (by omega)
  by_cases hs3 : t.st = 3
  · refine step_tick h hk hpl htxs x hx hxl hs3 (fun W a' hW' ha => ?_)
    have ed : doM txs m k t = tickM m k t := by unfold doM; rw [if_neg hs0, if_neg hs1, if_neg hs2, if_pos hs3]
    rw [ed]
    subst ha
    exact tick_any hW' hk hmay hk4 hH hR hW htx
  by_cases hs4 : t.st = 4
  · refine step_check h hk hpl htxs x hx hxl hs4 (fun W a' hW' ha => ?_)
    have ed : doM txs m k t = checkM m k t := by unfold doM; rw [if_neg hs0, if_neg hs1, if_neg hs2, if_neg hs3, if_pos hs4]
    rw [ed]
    subst ha
    have := gt.i4 hs4
    exact check_any hW' hk hmay hk4 hH hR hW htx t.i.toNat (by omega) (by omega)
  have hs5 : t.st = 5 := by omega
  refine step_back h hk hpl htxs x hx hxl hs5 (fun W a' hW' ha => ?_)
  have ed : doM txs m k t = backM m k t := by unfold doM; rw [if_neg hs0, if_neg hs1, if_neg hs2, if_neg hs3, if_neg hs4]
  rw [ed]
  subst ha
  have hi5 := gt.i5 hs5
  have hil : t.i.toNat < t.W.length := by omega
  have hwa := gt.wa _ (List.getElem_mem hil)
  exact back_any hW' hk hL8 htx hW t.i.toNat (by omega) _ (List.getElem?_eq_getElem hil) (t.W[t.i.toNat]).at_.toNat (by omega) (by rw [hg.W]; omega)

end
end Go.Proofs.Ytngimbfojccikaa
