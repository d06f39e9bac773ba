/- Several texts in one: StCheck, StBack. -/
import Derived.Test.YtngimbfojccikaaStHold2m
namespace Go.Proofs.Ytngimbfojccikaa
set_option linter.unusedSimpArgs false
open Go Go.RowKit
set_option linter.unusedVariables false
set_option maxRecDepth 100000

section
variable {w0 w w' : World} {r : Nat} {φ : Nat → Nat} {a : Ad} {m : Mm} {pw pm : Int} {pv : Value}

set_option maxHeartbeats 4000000 in
theorem check_end {k : Nat} {t : Tx} (h : RunW w0 w r φ a m pw pm pv (k : Int)) (hk : m.T[k]? = some t) (hH : m.H.length ≤ 1000) (hR : t.R.length ≤ 1000) (hW : t.W.length ≤ 1000) (hi : t.i = (t.R.length : Int)) :
    Calls Try.prog 48 #[.pointer (some ⟨r, 0, none⟩)] w (DonePost w0 r a (checkM m k t) k pw pm pv) := by
  have hspec : checkM m k t = { tellM m k t 0 with T := m.T.set k { t with st := 5, i := 0 } } := by
    unfold checkM
    rw [hi, Int.toNat_natCast, List.getElem?_eq_none (Nat.le_refl _)]
  have HME := Lib.hid (me_any h hk)
  have HH := Lib.hid h
  have HK := Lib.hid hk
  have HT := Lib.hid (fun W (hb : Below w.heap.size w W) => tell_any (h.keep hb) hk 0 hH hR hW)
  have HC := Lib.hid (fun W (hb : Below w.heap.size w W) => And.intro ((h.keep hb).tcells hk (j := 7) rfl) ((h.keep hb).tcells hk (j := 9) rfl))
  rw [hi] at HC
  obtain ⟨n, hn⟩ : ∃ n, n = t.R.length := ⟨_, rfl⟩
  rw [← hn] at HC
  have HS := Lib.hid hspec
  clear h hk hi hspec hn
  go_enter Try.func48, Try.ntmps48
  go_wp2_with fail
  refine HME.out.mono ?_
  rintro e w1 ⟨rfl, hb1⟩
  have HB1 := Lib.hid hb1
  clear hb1 HME
  go_wp2_with fail
  refine wp_region_held_drew (S := fun W => W.cell? ⟨a.gT, k * 11 + 7, none⟩ = some (.slice t.rA n t.rc) ∧ W.cell? ⟨a.gT, k * 11 + 9, none⟩ = some (.int .i64 (n : Int))) (by kernel_rfl) ?_ (fun hbr => ?_)
  · exact HC.out _ (HB1.out.trans ((Below.refl _ _).drew.mono HB1.out.size))
  refine tkA 0 ?_
  refine tkA 1 ?_
  refine tkA 2 ?_
  refine tkA 3 ?_
  refine tkA 4 ?_
  refine tkA 5 ?_
  refine tkA 6 ?_
  refine tkA 7 ?_
  refine tkA 8 ?_
  refine tkA 9 (v := .bool true) ?_ (hy := by (intro w hSw; (try dsimp only at hSw); go_simp <;> first | done | with_reducible rfl | omega | (simp; done) | (simp; omega) | (simp [*]; done) | (simp [*]; omega) | exact decide_eq_false (by omega) | exact decide_eq_true (by omega)))
  refine tkA 10 ?_
  refine wpAnyH_done (by kernel_rfl) ?_ _
  have HB2 := Lib.hid (HB1.out.trans ((Below.refl w1.heap.size w1).drew.mono HB1.out.size))
  go_wp2_with fail
  refine (HT.out _ HB2.out).mono ?_
  rintro e w2 ⟨rfl, φ2, A2, c2, x2, h2, hx2⟩
  have H2 := Lib.hid h2
  have HX2 := Lib.hid hx2
  have d0 := h2.tcells (t := t) HK.out (j := 0) rfl
  have d9 := h2.tcells (t := t) HK.out (j := 9) rfl
  have f0 := h2.tfree (k * 11)
  have f9 := h2.tfree (k * 11 + 9)
  simp only [Nat.add_zero] at d0
  clear h2 hx2
  go_wp2
  go_end0
  have hlt := HH.out.tlt HK.out
  refine ⟨rfl, _, _, _, ((H2.out.tc0 (t := t) HK.out).tc hlt { t with st := 5 } (j := 0) (by omega) rfl ⟨rfl, rfl, rfl, rfl, rfl, rfl⟩).tc hlt { t with st := 5, i := 0 } (j := 9) (by omega) rfl ⟨rfl, rfl, rfl, rfl, rfl, rfl⟩, ?_⟩
  rw [HS.out]
  unfold tellM Mm.er
  simp only [List.map_append, List.map_cons, List.map_nil, HX2.out]
  rfl

set_option maxHeartbeats 4000000 in
theorem check_one {k : Nat} {t : Tx} (h : RunW w0 w r φ a m pw pm pv (k : Int)) (hk : m.T[k]? = some t) (hmay : mayL m.now m.mx m.L = true) (hk4 : k < 4) (hH : m.H.length ≤ 1000) (hR : t.R.length ≤ 1000) (hW : t.W.length ≤ 1000) (htx : 0 ≤ t.tx ∧ t.tx ≤ 1000)
    (j : Nat) (hi : t.i = (j : Int)) (hj : j < t.R.length) :
    Calls Try.prog 48 #[.pointer (some ⟨r, 0, none⟩)] w (DonePost w0 r a (checkM m k t) k pw pm pv) := by
  obtain ⟨x, hx⟩ : ∃ x, t.R[j]? = some x := ⟨_, List.getElem?_eq_getElem hj⟩
  obtain ⟨q, hq⟩ : ∃ q, q = seesL m.now m.mx m.L x.at_ t.rv (k : Int) := ⟨_, rfl⟩
  have hspec : checkM m k t = if q = true then { m with T := m.T.set k { t with i := t.i + 1 } } else quitM m k t 1 := by
    unfold checkM
    rw [hi, Int.toNat_natCast, hx]
    simp only [← hq]
  have HME := Lib.hid (me_any h hk)
  have HH := Lib.hid h
  have HK := Lib.hid hk
  have HQT := Lib.hid (fun W (hb : Below w.heap.size w W) => quit_any (h.keep hb) hk 1 hmay hk4 hH hR hW htx)
  have HSE := Lib.hid (fun W (hb : Below w.heap.size w W) => hq ▸ Sees_any _ m.now m.mx x.at_ t.rv (k : Int) m.L W (h.keep hb).locks)
  obtain ⟨b, hbA, _, hWc, hcM, _, _⟩ := (h.ts k t hk).R.pairs (by omega)
  have HPC := Lib.hid (fun W (hb : Below w.heap.size w W) => (show W.cell? ⟨b, j * 2, none⟩ = some (.int .i64 x.at_) from by
    obtain ⟨b', hbA', _, _, _, _, hp⟩ := ((h.keep hb).ts k t hk).R.pairs (by omega)
    rw [hbA] at hbA'
    injection hbA' with e
    injection e with e
    subst e
    exact (hp j x hx).1))
  obtain ⟨n, hn⟩ : ∃ n, n = t.R.length := ⟨_, rfl⟩
  have hjz : (j : Int) < (n : Int) := by omega
  have hj0 : (0 : Int) ≤ (j : Int) := by omega
  have hjn : ((j : Int) == (n : Int)) = false := by simp; omega
  have hwr : IntKind.i64.wrap ((j : Int) + 1) = (j : Int) + 1 := by rw [IntKind.wrap_i64]; omega
  have HC := Lib.hid (fun W (hb : Below w.heap.size w W) => (show W.cell? ⟨a.gT, k * 11 + 7, none⟩ = some (.slice (some ⟨b, 0, none⟩) n t.rc) ∧ W.cell? ⟨a.gT, k * 11 + 9, none⟩ = some (.int .i64 (j : Int)) ∧ W.cell? ⟨r, 1, none⟩ = some (.int .i64 m.now) ∧ W.cell? ⟨r, 2, none⟩ = some (.int .i64 m.mx) ∧ W.cell? ⟨r, 3, none⟩ = some (.slice a.lA m.L.length a.lc) ∧ W.cell? ⟨r, 10, none⟩ = some (.int .i64 (k : Int)) ∧ W.cell? ⟨a.gT, k * 11 + 4, none⟩ = some (.int .i64 t.rv) ∧ W.cell? ⟨b, j * 2, none⟩ = some (.int .i64 x.at_) from
    ⟨by have e := (h.keep hb).tcells hk (j := 7) rfl; rw [hbA, ← hn] at e; exact e, by have e := (h.keep hb).tcells hk (j := 9) rfl; rw [hi] at e; exact e, (h.keep hb).rcells 1, (h.keep hb).rcells 2, (h.keep hb).rcells 3, (h.keep hb).rcells 10, (h.keep hb).tcells hk (j := 4) rfl, HPC.out W hb⟩))
  have HI := Lib.hid hi
  have HS := Lib.hid hspec
  clear h hk hmay hq hspec hx hi hbA hn HPC
  go_enter Try.func48, Try.ntmps48
  go_wp2_with fail
  refine HME.out.mono ?_
  rintro e w1 ⟨rfl, hb1⟩
  have HB1 := Lib.hid hb1
  clear hb1 HME
  go_wp2_with fail
  refine wp_region_held_drew (S := fun W => W.cell? ⟨a.gT, k * 11 + 7, none⟩ = some (.slice (some ⟨b, 0, none⟩) n t.rc) ∧ W.cell? ⟨a.gT, k * 11 + 9, none⟩ = some (.int .i64 (j : Int))) (by kernel_rfl) ?_ (fun hcr => ?_)
  · have e := HC.out _ (HB1.out.trans ((Below.refl _ _).drew.mono HB1.out.size)); exact ⟨e.1, e.2.1⟩
  refine tkA 0 ?_
  refine tkA 1 ?_
  refine tkA 2 ?_
  refine tkA 3 ?_
  refine tkA 4 ?_
  refine tkA 5 ?_
  refine tkA 6 ?_
  refine tkA 7 ?_
  refine tkA 8 ?_
  refine tkA 9 (v := .bool false) ?_ (hy := by (intro w hSw; (try dsimp only at hSw); go_simp <;> first | done | with_reducible rfl | omega | (simp; done) | (simp; omega) | (simp [*]; done) | (simp [*]; omega) | exact decide_eq_false (by omega) | exact decide_eq_true (by omega)))
  refine tkA 10 ?_
  refine wpAnyH_done (by kernel_rfl) ?_ _
  have HB2 := Lib.hid (HB1.out.trans ((Below.refl w1.heap.size w1).drew.mono HB1.out.size))
  go_wp2_with fail
  refine wp_region_held_drew (S := fun W => W.cell? ⟨a.gT, k * 11 + 7, none⟩ = some (.slice (some ⟨b, 0, none⟩) n t.rc) ∧ W.cell? ⟨a.gT, k * 11 + 9, none⟩ = some (.int .i64 (j : Int)) ∧ W.cell? ⟨r, 1, none⟩ = some (.int .i64 m.now) ∧ W.cell? ⟨r, 2, none⟩ = some (.int .i64 m.mx) ∧ W.cell? ⟨r, 3, none⟩ = some (.slice a.lA m.L.length a.lc) ∧ W.cell? ⟨r, 10, none⟩ = some (.int .i64 (k : Int)) ∧ W.cell? ⟨a.gT, k * 11 + 4, none⟩ = some (.int .i64 t.rv) ∧ W.cell? ⟨b, j * 2, none⟩ = some (.int .i64 x.at_)) (by kernel_rfl) ?_ (fun hdr => ?_)
  · exact HC.out _ (HB2.out.trans ((Below.refl _ _).drew.mono HB2.out.size))
  refine tkA 0 ?_
  refine tkA 1 ?_
  refine tkA 2 ?_
  refine tkA 3 ?_
  refine tkA 4 ?_
  refine tkA 5 ?_
  refine tkA 6 ?_
  refine tkA 7 ?_
  refine tkA 8 ?_
  refine tkA 9 ?_
  refine tkA 10 ?_
  refine tkA 11 ?_
  refine tkA 12 ?_
  refine tkA 13 ?_
  refine tkA 14 ?_
  refine tkA 15 ?_
  refine tkA 16 ?_
  refine tkA 17 ?_
  refine tkA 18 ?_
  refine tkA 19 ?_
  refine tkA 20 ?_
  refine tkA 21 ?_
  refine tkA 22 ?_
  refine tkA 23 ?_
  refine stA 24 (fun K hK => ?_)
  go_simp
  refine (HSE.out _ (HB2.out.trans ((Below.refl _ _).drew.mono HB2.out.size))).mono ?_
  rintro e w3 ⟨rfl, hb3⟩
  have HB3 := Lib.hid ((HB2.out.trans ((Below.refl w1.drew.heap.size w1.drew).drew.mono HB2.out.size)).trans (hb3.mono HB2.out.size))
  clear hb3
  try go_wp2_with fail
  refine hK.out _ _ ?_ (fun hdr24 => ?_)
  · exact HC.out _ HB3.out
  clear hK K hdr
  try simp only [Act.put, List.setIfInBounds_toArray, List.set_cons_zero, List.set_cons_succ]
  refine tkA 25 ?_
  refine wpAnyH_done (by kernel_rfl) ?_ _
  cases q with
  | true =>
    have H3 := Lib.hid (HH.out.keep HB3.out)
    have d9 : w3.cell? ⟨a.gT, k * 11 + 9, none⟩ = some (.int .i64 (j : Int)) := (HC.out _ HB3.out).2.1
    have f9 := H3.out.tfree (k * 11 + 9)
    have hlt := HH.out.tlt HK.out
    have h4 := (H3.out.tc0 (t := t) HK.out).tc hlt { t with i := t.i + 1 } (j := 9) (u := .int .i64 ((j : Int) + 1)) (by omega) (by simp [encTx, HI.out]) ⟨rfl, rfl, rfl, rfl, rfl, rfl⟩
    have H4 := Lib.hid h4
    clear h4
    go_wp2
    go_end0
    refine ⟨rfl, _, _, _, H4.out, ?_⟩
    rw [HS.out]
    rfl
  | false =>
    go_wp2_with fail
    refine (HQT.out _ HB3.out).mono ?_
    rintro e w4 ⟨rfl, hP⟩
    have HP := Lib.hid hP
    clear hP
    go_wp2
    go_end0
    exact ⟨rfl, by rw [HS.out]; exact HP.out⟩

theorem check_any {k : Nat} {t : Tx} (h : RunW w0 w r φ a m pw pm pv (k : Int)) (hk : m.T[k]? = some t) (hmay : mayL m.now m.mx m.L = true) (hk4 : k < 4) (hH : m.H.length ≤ 1000) (hR : t.R.length ≤ 1000) (hW : t.W.length ≤ 1000) (htx : 0 ≤ t.tx ∧ t.tx ≤ 1000)
    (j : Nat) (hi : t.i = (j : Int)) (hj : j ≤ t.R.length) :
    Calls Try.prog 48 #[.pointer (some ⟨r, 0, none⟩)] w (DonePost w0 r a (checkM m k t) k pw pm pv) := by
  rcases Nat.lt_or_ge j t.R.length with h1 | h1
  · exact check_one h hk hmay hk4 hH hR hW htx j hi h1
  · exact check_end h hk hH hR hW (by rw [hi]; omega)
end
end Go.Proofs.Ytngimbfojccikaa
namespace Go.Proofs.Ytngimbfojccikaa
set_option linter.unusedSimpArgs false
open Go Go.RowKit
set_option linter.unusedVariables false
set_option maxRecDepth 100000

section
variable {w0 w w' : World} {r : Nat} {φ : Nat → Nat} {a : Ad} {m : Mm} {pw pm : Int} {pv : Value}

theorem RunW.wcell {who : Int} (h : RunW w0 w r φ a m pw pm pv who) {p : Nat} (hp : p < m.W.length) : w.cell? ⟨a.gW, p, none⟩ = some (.int .i64 m.W[p]) ∧ w.frozen? ⟨a.gW, p, none⟩ = false := by
  obtain ⟨_, _, _, _, cw, hW⟩ := own_blk h.wrow
  refine ⟨?_, hW.free p⟩
  have := h.wrow.cells (g := a.gW) rfl _ _ (encI_get m.W p hp)
  rwa [add_none, Nat.zero_add] at this

set_option maxHeartbeats 8000000 in
theorem back_any {k : Nat} {t : Tx} (h : RunW w0 w r φ a m pw pm pv (k : Int)) (hk : m.T[k]? = some t) (hL8 : m.L.length ≤ 8) (htx : 0 ≤ t.tx ∧ t.tx ≤ 1000) (hW : t.W.length ≤ 1000)
    (j : Nat) (hi : t.i = (j : Int)) (x : Pr) (hx : t.W[j]? = some x) (p : Nat) (hxp : x.at_ = (p : Int)) (hp : p < m.W.length) :
    Calls Try.prog 49 #[.pointer (some ⟨r, 0, none⟩)] w (DonePost w0 r a (backM m k t) k pw pm pv) := by
  have hj : j < t.W.length := (List.getElem?_eq_some_iff.1 hx).1
  obtain ⟨er, L', hq⟩ : ∃ x' y, giveL m.now m.mx m.L x.at_ (k : Int) t.wv = (x', y) := ⟨_, _, rfl⟩
  have hL' : L'.length = m.L.length := by have := doL_len (giveF (k : Int) t.wv) m.now m.mx m.L x.at_ (someB (k : Int) && (decide (-1 ≤ t.wv) && decide (t.wv ≤ m.now))); unfold giveL at hq; rw [hq] at this; exact this
  have hspec : backM m k t = { m with W := m.W.set p x.v, L := L', T := m.T.set k (if t.i + 1 = t.W.length then overT t 0 else { t with i := t.i + 1 }) } := by
    unfold backM
    rw [hi, Int.toNat_natCast, hx]
    simp only [hq]
    rw [hxp, Int.toNat_natCast]
  have HME := Lib.hid (me_any h hk)
  have HH := Lib.hid h
  have HK := Lib.hid hk
  have hrl := h.run.lt
  have hap := h.apart
  have HS := Lib.hid hspec
  have HLL := Lib.hid hL'
  rw [hxp] at hq
  have HGV := Lib.hid (fun (w : World) φ a m' (h : RunW w0 w r φ a m' pw pm pv (k : Int)) (e1 : m'.now = m.now) (e2 : m'.mx = m.mx) (e3 : m'.L = m.L) => (show Calls Try.prog 69 #[.agg #[.int .i64 m.now, .int .i64 m.mx, .slice a.lA m.L.length a.lc], .int .i64 (p : Int), .int .i64 (k : Int), .int .i64 t.wv] w (LkRes m.now m.mx (er, L') w) from
    hq ▸ Give_any _ m.now m.mx (p : Int) (k : Int) t.wv m.L w (by have := h.locks; rw [e1, e2, e3] at this; exact this) (by omega)))
  obtain ⟨b, hbA, _, hWc, hcM, _, _⟩ := (h.ts k t hk).W.pairs (by omega)
  have HPC := Lib.hid (fun W (hb : Below w.heap.size w W) => (show W.cell? ⟨b, j * 2, none⟩ = some (.int .i64 (p : Int)) ∧ W.cell? ⟨b, j * 2 + 1, none⟩ = some (.int .i64 x.v) from by
    obtain ⟨b', hbA', _, _, _, _, hpp⟩ := ((h.keep hb).ts k t hk).W.pairs (by omega)
    rw [hbA] at hbA'
    injection hbA' with e
    injection e with e
    subst e
    rw [← hxp]
    exact hpp j x hx))
  obtain ⟨n, hn⟩ : ∃ n, n = t.W.length := ⟨_, rfl⟩
  obtain ⟨nw, hnw⟩ : ∃ n, n = m.W.length := ⟨_, rfl⟩
  have hjz : (j : Int) < (n : Int) := by omega
  have hj0 : (0 : Int) ≤ (j : Int) := by omega
  have hpz : (p : Int) < (nw : Int) := by omega
  have hp0 : (0 : Int) ≤ (p : Int) := by omega
  have hwr : IntKind.i64.wrap ((j : Int) + 1) = (j : Int) + 1 := by rw [IntKind.wrap_i64]; omega
  have HI := Lib.hid hi
  have HN := Lib.hid hn
  have HNW := Lib.hid hnw
  have HBA := Lib.hid hbA
  have HP := Lib.hid hp
  clear h hk hq hspec hL' hx hi hbA hn hnw hp hxp
  go_enter Try.func49, Try.ntmps49
  go_wp2_with fail
  refine HME.out.mono ?_
  rintro e w1 ⟨rfl, hb1⟩
  have H1 := Lib.hid (HH.out.keep hb1)
  have hz1 := hb1.size
  have HCT := Lib.hid (fun W (hb : Below w1.heap.size w1 W) => (show W.cell? ⟨a.gT, k * 11 + 8, none⟩ = some (.slice (some ⟨b, 0, none⟩) n t.wc) ∧ W.cell? ⟨a.gT, k * 11 + 9, none⟩ = some (.int .i64 (j : Int)) ∧ W.cell? ⟨b, j * 2, none⟩ = some (.int .i64 (p : Int)) ∧ W.cell? ⟨b, j * 2 + 1, none⟩ = some (.int .i64 x.v) from
    ⟨by have e := (H1.out.keep hb).tcells HK.out (j := 8) rfl; rw [HBA.out, ← HN.out] at e; exact e, by have e := (H1.out.keep hb).tcells HK.out (j := 9) rfl; rw [HI.out] at e; exact e, (HPC.out W (hb1.trans (hb.mono hb1.size))).1, (HPC.out W (hb1.trans (hb.mono hb1.size))).2⟩))
  clear hb1 HME HPC HH
  go_wp2_with fail
  refine wp_region_held_drew (S := fun W => W.cell? ⟨a.gT, k * 11 + 8, none⟩ = some (.slice (some ⟨b, 0, none⟩) n t.wc) ∧ W.cell? ⟨a.gT, k * 11 + 9, none⟩ = some (.int .i64 (j : Int)) ∧ W.cell? ⟨b, j * 2, none⟩ = some (.int .i64 (p : Int)) ∧ W.cell? ⟨b, j * 2 + 1, none⟩ = some (.int .i64 x.v)) (by kernel_rfl) ?_ (fun hbr => ?_)
  · exact HCT.out _ (Below.refl _ _).drew
  refine tkA 0 ?_
  refine tkA 1 ?_
  refine tkA 2 ?_
  refine tkA 3 ?_
  refine tkA 4 ?_
  refine tkA 5 ?_
  refine tkA 6 ?_
  refine tkA 7 ?_
  refine tkA 8 ?_
  refine tkA 9 ?_
  refine stA 10 (fun K hK => ?_)
  go_simp
  refine hK.out _ _ ?_ (fun hbr10 => ?_)
  · exact HCT.out _ ((Below.refl w1.heap.size w1).drew.alloc (Nat.le_refl _) _)
  clear hK K hbr
  try simp only [Act.put, List.setIfInBounds_toArray, List.set_cons_zero, List.set_cons_succ]
  refine stA 11 (fun K hK => ?_)
  go_simp
  refine hK.out _ _ ?_ (fun hbr11 => ?_)
  · exact HCT.out _ ((Below.refl w1.heap.size w1).drew.alloc (Nat.le_refl _) _)
  clear hK K hbr10
  try simp only [Act.put, List.setIfInBounds_toArray, List.set_cons_zero, List.set_cons_succ]
  refine wpAnyH_done (by kernel_rfl) ?_ _
  obtain ⟨B, hB⟩ : ∃ B, B = w1.heap.size := ⟨_, rfl⟩
  obtain ⟨w2, hw2⟩ : ∃ y, (w1.alloc (.cells #[.int .i64 (p : Int), .int .i64 x.v] 55)).drew = y := ⟨_, rfl⟩
  have hb2 : Below w1.heap.size w1 w2 := hw2 ▸ ((Below.refl w1.heap.size w1).alloc (Nat.le_refl _) _).drew
  have H2 := Lib.hid (H1.out.keep hb2)
  have hbx : Blk w2 B 55 #[.int .i64 (p : Int), .int .i64 x.v] := hw2 ▸ (Blk.new_ w1 55 _ B hB.symm).drew
  have HBX := Lib.hid hbx
  have b0 : w2.cell? ⟨B, 0, none⟩ = some (.int .i64 (p : Int)) := by rw [hbx.cell]; rfl
  have b1 : w2.cell? ⟨B, 1, none⟩ = some (.int .i64 x.v) := by rw [hbx.cell]; rfl
  have q0 : w2.cell? ⟨r, 0, none⟩ = some (.slice (some ⟨a.gW, 0, none⟩) nw a.cW) := by rw [HNW.out]; exact H2.out.rcells 0
  have gw := (H2.out.wcell HP.out).1
  have gf := (H2.out.wcell HP.out).2
  have nB1 : ¬ a.gW = B := by have := (H1.out.apart).2.2.2.2.1; omega
  have nB2 : ¬ a.gT = B := by have := (H1.out.apart).2.2.2.1; omega
  have nB3 : ¬ r = B := by have := (H1.out.apart).2.2.2.2.2; omega
  have hgr : ¬ a.gW = r := hap.2.1
  have n4 : ¬ B = a.gW := fun e => nB1 e.symm
  have n5 : ¬ r = a.gW := fun e => hgr e.symm
  have hBl : B < w2.heap.size := hbx.lt
  have H3 := Lib.hid ((H2.out.setW p x.v HP.out).keep (Below.refl _ _).drew)
  have HBX3 := Lib.hid (show Blk (w2.setCell ⟨a.gW, p, none⟩ (.int .i64 x.v)).drew B 55 #[.int .i64 (p : Int), .int .i64 x.v] from (hbx.far n4 _).drew)
  clear hbx hb2 hap
  rw [← hB]
  go_upto_region 2 with fail
  try rw [hw2]
  clear hw2 hB HCT
  refine wp_region_held_drew (S := fun W => W.cell? ⟨r, 0, none⟩ = some (.slice (some ⟨a.gW, 0, none⟩) nw a.cW) ∧ W.cell? ⟨B, 0, none⟩ = some (.int .i64 (p : Int)) ∧ W.cell? ⟨B, 1, none⟩ = some (.int .i64 x.v)) (by kernel_rfl) ?_ (fun hcr => ?_)
  · exact ⟨q0, b0, b1⟩
  refine tkA 0 ?_
  refine tkA 1 ?_
  refine tkA 2 ?_
  refine tkA 3 ?_
  refine tkA 4 ?_
  refine tkA 5 ?_
  refine tkA 6 ?_
  refine tkA 7 ?_
  refine tkA 8 ?_
  refine tkA 9 ?_
  refine stA 10 (fun K hK => ?_)
  go_simp
  refine hK.out _ _ ?_ (fun hcr10 => ?_)
  · refine ⟨?_, ?_, ?_⟩ <;> go_simp
  clear hK K hcr
  try simp only [Act.put, List.setIfInBounds_toArray, List.set_cons_zero, List.set_cons_succ]
  refine wpAnyH_done (by kernel_rfl) ?_ _
  obtain ⟨w3, hw3⟩ : ∃ y, (w2.setCell ⟨a.gW, p, none⟩ (.int .i64 x.v)).drew = y := ⟨_, rfl⟩
  rw [hw3] at H3 HBX3 ⊢
  clear hw3 q0 b0 b1 gw gf
  have b0 : w3.cell? ⟨B, 0, none⟩ = some (.int .i64 (p : Int)) := by rw [HBX3.out.cell]; rfl
  have q1 : w3.cell? ⟨r, 1, none⟩ = some (.int .i64 m.now) := H3.out.rcells 1
  have q2 : w3.cell? ⟨r, 2, none⟩ = some (.int .i64 m.mx) := H3.out.rcells 2
  have q3 : w3.cell? ⟨r, 3, none⟩ = some (.slice a.lA m.L.length a.lc) := H3.out.rcells 3
  have q10 : w3.cell? ⟨r, 10, none⟩ = some (.int .i64 (k : Int)) := H3.out.rcells 10
  have d5 := H3.out.tcells (t := t) HK.out (j := 5) rfl
  have HSS := Lib.hid (fun W (hb : Below w3.heap.size w3 W) => (show W.cell? ⟨B, 0, none⟩ = some (.int .i64 (p : Int)) ∧ W.cell? ⟨r, 10, none⟩ = some (.int .i64 (k : Int)) ∧ W.cell? ⟨a.gT, k * 11 + 5, none⟩ = some (.int .i64 t.wv) from
    ⟨(hb.cell (p := ⟨B, 0, none⟩) HBX3.out.lt).trans b0, (H3.out.keep hb).rcells 10, (H3.out.keep hb).tcells (t := t) HK.out (j := 5) rfl⟩))
  have hrl3 : r < w3.heap.size := H3.out.run.lt
  clear b0 q10 d5
  go_wp2_with fail
  refine wp_region_held_drew (S := fun W => W.cell? ⟨B, 0, none⟩ = some (.int .i64 (p : Int)) ∧ W.cell? ⟨r, 10, none⟩ = some (.int .i64 (k : Int)) ∧ W.cell? ⟨a.gT, k * 11 + 5, none⟩ = some (.int .i64 t.wv)) (by kernel_rfl) ?_ (fun hdr => ?_)
  · exact HSS.out _ (Below.refl _ _).drew
  refine tkA 0 ?_
  refine tkA 1 ?_
  refine tkA 2 ?_
  refine tkA 3 ?_
  refine tkA 4 ?_
  refine tkA 6 ?_
  refine tkA 7 ?_
  refine tkA 8 ?_
  refine tkA 9 ?_
  refine tkA 10 ?_
  refine tkA 11 ?_
  refine tkA 12 ?_
  refine tkA 13 ?_
  refine tkA 14 ?_
  refine tkA 15 ?_
  refine stA 5 (fun K hK => ?_)
  go_simp
  refine hK.out _ _ ?_ (fun hdr5b16 => ?_)
  · exact HSS.out _ (Below.refl _ _).drew
  clear hK K hdr
  try simp only [Act.put, List.setIfInBounds_toArray, List.set_cons_zero, List.set_cons_succ]
  refine stA 16 (fun K hK => ?_)
  go_simp
  refine (HGV.out _ _ _ _ (H3.out.keep (Below.refl _ _).drew) rfl rfl rfl).mono ?_
  rintro e w4 ⟨v4, rfl, ⟨sv4, rfl, hrow4⟩, hb4⟩
  dsimp only at hrow4 ⊢
  obtain ⟨A4, c4, rfl, _, _⟩ := (Sl.of_own hrow4).form
  rw [HLL.out] at hrow4 ⊢
  have hX : Below w3.heap.size w3 w4 := (Below.refl _ _).drew.trans hb4
  have z1 := (hX.cell (p := ⟨r, 1, none⟩) hrl3).trans q1
  have z2 := (hX.cell (p := ⟨r, 2, none⟩) hrl3).trans q2
  have z3 := (hX.cell (p := ⟨r, 3, none⟩) hrl3).trans q3
  have HX := Lib.hid hX
  have H4 := Lib.hid (H3.out.keep hX)
  have zf1 := H4.out.run.free 1
  have zf2 := H4.out.run.free 2
  have zf3 := H4.out.run.free 3
  have hR5 := H4.out.setC (now := m.now) (mx := m.mx) (L := L') (A := A4) (c := c4) (by rw [HLL.out]; exact ownsRow_mono hrow4 (by have h1 := H3.out.base.size; simp; omega))
  rw [HLL.out] at hR5
  have HR5 := Lib.hid hR5
  have HB4 := Lib.hid (HBX3.out.keep hX)
  clear hX hrow4 hb4 hR5
  try go_wp2_with fail
  refine hK.out _ _ ?_ (fun hdr16b17 => ?_)
  · exact HSS.out _ HX.out
  clear hK K hdr5b16
  try simp only [Act.put, List.setIfInBounds_toArray, List.set_cons_zero, List.set_cons_succ]
  refine tkA 17 ?_
  refine tkA 18 ?_
  refine tkA 19 ?_
  refine tkA 20 ?_
  refine tkA 21 ?_
  refine tkA 22 ?_
  refine stA 23 (fun K hK => ?_)
  go_simp
  refine hK.out _ _ ?_ (fun hdr23b24 => ?_)
  · exact ⟨by rw [(((HB4.out.far (p := ⟨r, 1, none⟩) (fun e => nB3 e.symm) _).far (p := ⟨r, 2, none⟩) (fun e => nB3 e.symm) _).far (p := ⟨r, 3, none⟩) (fun e => nB3 e.symm) _).cell]; rfl, HR5.out.rcells 10, HR5.out.tcells (t := t) HK.out (j := 5) rfl⟩
  clear hK K hdr16b17
  try simp only [Act.put, List.setIfInBounds_toArray, List.set_cons_zero, List.set_cons_succ]
  refine wpAnyH_done (by kernel_rfl) ?_ _
  obtain ⟨w5, hw5⟩ : ∃ y, ((w4.setCell ⟨r, 1, none⟩ (.int .i64 m.now)).setCell ⟨r, 2, none⟩ (.int .i64 m.mx)).setCell ⟨r, 3, none⟩ (.slice A4 m.L.length c4) = y := ⟨_, rfl⟩
  rw [hw5] at HR5 ⊢
  clear hw5 z1 z2 z3 zf1 zf2 zf3 q1 q2 q3
  have hR5 := HR5.out
  have d9 : w5.cell? ⟨a.gT, k * 11 + 9, none⟩ = some (.int .i64 (j : Int)) := by have e := hR5.tcells (t := t) HK.out (j := 9) rfl; rw [HI.out] at e; exact e
  have d8 : w5.cell? ⟨a.gT, k * 11 + 8, none⟩ = some (.slice (some ⟨b, 0, none⟩) n t.wc) := by have e := hR5.tcells (t := t) HK.out (j := 8) rfl; rw [HBA.out, ← HN.out] at e; exact e
  have f9 : w5.frozen? ⟨a.gT, k * 11 + 9, none⟩ = false := hR5.tfree (k * 11 + 9)
  have hlt := H1.out.tlt HK.out
  have h6 := RunW.tc (m := { m with W := m.W.set p x.v, L := L' }) (t := t) (hR5.tc0 (t := t) HK.out) hlt { t with i := t.i + 1 } (j := 9) (u := .int .i64 ((j : Int) + 1)) (by omega) (by simp [encTx, HI.out]) ⟨rfl, rfl, rfl, rfl, rfl, rfl⟩
  have H6 := Lib.hid h6
  clear hR5 h6
  go_upto_region 5 with fail
  by_cases hl : j + 1 = n
  · have hlz : (n : Int) = (j : Int) + 1 := by omega
    refine wp_region_held_drew (S := fun W => W.cell? ⟨a.gT, k * 11 + 8, none⟩ = some (.slice (some ⟨b, 0, none⟩) n t.wc) ∧ W.cell? ⟨a.gT, k * 11 + 9, none⟩ = some (.int .i64 ((j : Int) + 1))) (by kernel_rfl) ?_ (fun her => ?_)
    · constructor <;> go_simp
    refine tkA 0 ?_
    refine tkA 1 ?_
    refine tkA 2 ?_
    refine tkA 3 ?_
    refine tkA 4 ?_
    refine tkA 5 ?_
    refine tkA 6 ?_
    refine tkA 7 ?_
    refine tkA 8 ?_
    refine tkA 9 (v := .bool true) ?_ (hy := by (intro w hSw; (try dsimp only at hSw); go_simp <;> first | done | with_reducible rfl | omega | (simp; done) | (simp; omega) | (simp [*]; done) | (simp [*]; omega) | exact decide_eq_false (by omega) | exact decide_eq_true (by omega)))
    refine wpAnyH_done (by kernel_rfl) ?_ _
    have HO := Lib.hid (over_any (t := { t with i := t.i + 1 }) (H6.out.keep (Below.refl _ _).drew) (RunW.set_at k (m := { m with W := m.W.set p x.v, L := L' }) (t := t) HK.out _) 0 htx)
    go_wp2_with fail
    refine HO.out.mono ?_
    rintro e w7 ⟨rfl, h7⟩
    have H7 := Lib.hid h7
    clear h7
    go_wp2
    go_end0
    refine ⟨rfl, _, _, _, H7.out, ?_⟩
    rw [HS.out, if_pos (by rw [HI.out, ← HN.out]; exact hlz.symm)]
    unfold overM
    simp only [List.set_set]
    rfl
  · have hlz : ¬ (j : Int) + 1 = (n : Int) := by omega
    refine wp_region_held_drew (S := fun W => W.cell? ⟨a.gT, k * 11 + 8, none⟩ = some (.slice (some ⟨b, 0, none⟩) n t.wc) ∧ W.cell? ⟨a.gT, k * 11 + 9, none⟩ = some (.int .i64 ((j : Int) + 1))) (by kernel_rfl) ?_ (fun hfr => ?_)
    · constructor <;> go_simp
    refine tkA 0 ?_
    refine tkA 1 ?_
    refine tkA 2 ?_
    refine tkA 3 ?_
    refine tkA 4 ?_
    refine tkA 5 ?_
    refine tkA 6 ?_
    refine tkA 7 ?_
    refine tkA 8 ?_
    refine tkA 9 (v := .bool false) ?_ (hy := by (intro w hSw; (try dsimp only at hSw); go_simp <;> first | done | with_reducible rfl | omega | (simp; done) | (simp; omega) | (simp [*]; done) | (simp [*]; omega) | exact decide_eq_false (by omega) | exact decide_eq_true (by omega)))
    refine wpAnyH_done (by kernel_rfl) ?_ _
    go_wp2
    go_end0
    refine ⟨rfl, _, _, _, H6.out.keep (Below.refl _ _).drew, ?_⟩
    rw [HS.out, if_neg (by rw [HI.out, ← HN.out]; exact hlz)]
end
end Go.Proofs.Ytngimbfojccikaa
