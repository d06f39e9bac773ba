/- hold: a lock is taken. -/
import Derived.Test.YtngimbfojccikaaStmTellsF
namespace Go.Proofs.Ytngimbfojccikaa
set_option linter.unusedSimpArgs false
open Go Go.RowKit
set_option linter.unusedVariables false
set_option maxRecDepth 100000

section
variable {w0 w w' : World} {r : Nat} {φ : Nat → Nat} {a : Ad} {m : Mm} {pw pm : Int} {pv : Value}

set_option maxHeartbeats 4000000 in
theorem hold_any {k : Nat} {t : Tx} (h : RunW w0 w r φ a m pw pm pv (k : Int)) (hk : m.T[k]? = some t) (hmay : mayL m.now m.mx m.L = true) (hk4 : k < 4) (hH : m.H.length ≤ 1000) (hR : t.R.length ≤ 1000) (hW : t.W.length ≤ 1000) (htx : 0 ≤ t.tx ∧ t.tx ≤ 1000)
    (j : Nat) (hi : t.i = (j : Int)) (hj : j < t.W.length) :
    Calls Try.prog 46 #[.pointer (some ⟨r, 0, none⟩)] w (DonePost w0 r a (holdM m k t) k pw pm pv) := by
  have hb := may_iff.1 hmay
  obtain ⟨x, hx⟩ : ∃ x, t.W[j]? = some x := ⟨_, List.getElem?_eq_getElem hj⟩
  obtain ⟨er, L', hq⟩ : ∃ x' y, takeL m.now m.mx m.L x.at_ (k : Int) = (x', y) := ⟨_, _, rfl⟩
  have hL' : L'.length = m.L.length := by have := doL_len (takeF (k : Int)) m.now m.mx m.L x.at_ (someB (k : Int)); unfold takeL at hq; rw [hq] at this; exact this
  have hspec : holdM m k t = if er = 0 then { m with L := L', T := m.T.set k { t with i := t.i + 1, st := if t.i + 1 = t.W.length then 3 else t.st } } else quitM m k t 1 := by
    unfold holdM
    rw [hi, Int.toNat_natCast, hx]
    simp only [hq]
  have HME := Lib.hid (me_any h hk)
  have HH := Lib.hid h
  have HK := Lib.hid hk
  have hrl := h.run.lt
  have HQT := Lib.hid (fun W (hb : Below w.heap.size w W) => quit_any (h.keep hb) hk 1 hmay hk4 hH hR hW htx)
  have HS := Lib.hid hspec
  have HLL := Lib.hid hL'
  have HTK := Lib.hid (fun W (hb : Below w.heap.size w W) => hq ▸ Take_any _ m.now m.mx x.at_ (k : Int) m.L W (h.keep hb).locks (by omega))
  have hT := h.apart.2.2.2.1
  have hne := h.apart.1
  have HZ0 := Lib.hid h.base.size
  obtain ⟨b, hbA, _, hWc, hcM, _, _⟩ := (h.ts k t hk).W.pairs (by omega)
  have HPC := Lib.hid (fun W (hb : Below w.heap.size w W) => (show W.cell? ⟨b, j * 2, none⟩ = some (.int .i64 x.at_) from by
    obtain ⟨b', hbA', _, _, _, _, hp⟩ := ((h.keep hb).ts k t hk).W.pairs (by omega)
    rw [hbA] at hbA'
    injection hbA' with e
    injection e with e
    subst e
    exact (hp j x hx).1))
  obtain ⟨nW, hnW⟩ : ∃ n, n = t.W.length := ⟨_, rfl⟩
  have hjz : (j : Int) < (nW : Int) := by omega
  have hj0 : (0 : Int) ≤ (j : Int) := by omega
  have hwr : IntKind.i64.wrap ((j : Int) + 1) = (j : Int) + 1 := by rw [IntKind.wrap_i64]; omega
  have HC := Lib.hid (fun W (hb : Below w.heap.size w W) => (show W.cell? ⟨r, 1, none⟩ = some (.int .i64 m.now) ∧ W.cell? ⟨r, 2, none⟩ = some (.int .i64 m.mx) ∧ W.cell? ⟨r, 3, none⟩ = some (.slice a.lA m.L.length a.lc) ∧ W.cell? ⟨r, 10, none⟩ = some (.int .i64 (k : Int)) ∧ W.cell? ⟨a.gT, k * 11 + 8, none⟩ = some (.slice (some ⟨b, 0, none⟩) nW t.wc) ∧ W.cell? ⟨a.gT, k * 11 + 9, none⟩ = some (.int .i64 (j : Int)) ∧ W.cell? ⟨b, j * 2, none⟩ = some (.int .i64 x.at_) from
    ⟨(h.keep hb).rcells 1, (h.keep hb).rcells 2, (h.keep hb).rcells 3, (h.keep hb).rcells 10, by have e := (h.keep hb).tcells hk (j := 8) rfl; rw [hbA, ← hnW] at e; exact e, by have e := (h.keep hb).tcells hk (j := 9) rfl; rw [hi] at e; exact e, HPC.out W hb⟩))
  have HI := Lib.hid hi
  have HNW := Lib.hid hnW
  have HBA := Lib.hid hbA
  clear h hk hmay hb hq hspec hL' hx hi hbA hnW HPC
  go_enter Try.func46, Try.ntmps46
  go_wp2_with fail
  refine HME.out.mono ?_
  rintro e w1 ⟨rfl, hb1⟩
  have HB1 := Lib.hid hb1
  have hz1 := hb1.size
  have hrl1 : r < w1.heap.size := by omega
  clear hb1 HME
  go_upto_region 1 with fail
  go_cut [3, 4] (fun s3 s4 wx => ∃ B A3 c3, s3 = .pointer (some ⟨B, 0, none⟩) ∧ s4 = .int .i64 er ∧ w1.heap.size ≤ B ∧ Hid (Below w1.heap.size w1 wx) ∧ Hid (Blk wx B 30 #[.int .i64 m.now, .int .i64 m.mx, .slice A3 m.L.length c3]) ∧ Hid (RowL wx w0.heap.size (.slice A3 m.L.length c3) L'))
  case first =>
    refine wp_region_held_drew (S := fun W => W.cell? ⟨r, 1, none⟩ = some (.int .i64 m.now) ∧ W.cell? ⟨r, 2, none⟩ = some (.int .i64 m.mx) ∧ W.cell? ⟨r, 3, none⟩ = some (.slice a.lA m.L.length a.lc) ∧ W.cell? ⟨r, 10, none⟩ = some (.int .i64 (k : Int)) ∧ W.cell? ⟨a.gT, k * 11 + 8, none⟩ = some (.slice (some ⟨b, 0, none⟩) nW t.wc) ∧ W.cell? ⟨a.gT, k * 11 + 9, none⟩ = some (.int .i64 (j : Int)) ∧ W.cell? ⟨b, j * 2, none⟩ = some (.int .i64 x.at_)) (by kernel_rfl) ?_ (fun hbr => ?_)
    · exact HC.out _ (HB1.out.trans ((Below.refl _ _).drew.mono HB1.out.size))
    refine tkA 0 ?_
    refine tkA 1 ?_
    refine tkA 2 ?_
    refine tkA 3 ?_
    refine tkA 4 ?_
    refine tkA 5 ?_
    refine tkA 6 ?_
    refine tkA 7 ?_
    refine tkA 8 ?_
    refine tkA 9 ?_
    refine tkA 10 ?_
    refine tkA 11 ?_
    refine tkA 12 ?_
    refine tkA 13 ?_
    refine tkA 14 ?_
    refine tkA 15 ?_
    refine tkA 16 ?_
    refine tkA 17 ?_
    refine tkA 18 ?_
    refine tkA 19 ?_
    refine wpAnyH_ready (rs := [20, 24]) (by kernel_rfl) (by simp) ?_
    refine conA (fun K hK => ?_) ?_
    · go_simp
      first | refine (HTK.out _ (HB1.out.trans ((Below.refl _ _).drew.mono HB1.out.size))).mono ?_ | refine (HTK.out _ (HB1.out.trans (((Below.refl w1.heap.size w1).drew.alloc (Nat.le_refl _) _).mono HB1.out.size))).mono ?_
      rintro e w3 ⟨v3, rfl, ⟨sv3, rfl, hrow3⟩, hb3⟩
      dsimp only at hrow3 ⊢
      obtain ⟨A3, c3, rfl, _, _⟩ := (Sl.of_own hrow3).form
      rw [HLL.out] at hrow3 ⊢
      have hX : Below w1.heap.size w1 w3 := Below.trans (by first | exact (Below.refl _ _).drew | exact (Below.refl w1.heap.size w1).drew.alloc (Nat.le_refl _) _) (hb3.mono (by first | exact Nat.le_refl _ | (simp; done) | (simp; omega)))
      have HX := Lib.hid hX
      have HROW3 := Lib.hid hrow3
      have HB3 := Lib.hid hb3
      obtain ⟨hc3, hf3⟩ := bcell hb3
      have hz3 := hb3.size
      simp at hz3
      clear hX hrow3 hb3
      try go_wp2_with fail
      refine hK.out _ _ ?_ (fun hbr20b21 => ?_)
      · exact HC.out _ (HB1.out.trans (HX.out.mono HB1.out.size))
      clear hK K hbr
      try simp only [Act.put, List.setIfInBounds_toArray, List.set_cons_zero, List.set_cons_succ]
      refine tkA 21 ?_
      refine tkA 22 ?_
      refine tkA 23 ?_
      refine stA 24 (fun K hK => ?_)
      go_simp
      refine hK.out _ _ ?_ (fun hbr24b25 => ?_)
      · first | exact HC.out _ (HB1.out.trans ((HX.out.alloc HX.out.size _).mono HB1.out.size)) | exact HC.out _ (HB1.out.trans (((Below.refl w1.heap.size w1).drew.alloc (Nat.le_refl _) _).mono HB1.out.size))
      clear hK K hbr20b21
      try simp only [Act.put, List.setIfInBounds_toArray, List.set_cons_zero, List.set_cons_succ]
      refine stA 25 (fun K hK => ?_)
      go_simp
      refine hK.out _ _ ?_ (fun hbr25b26 => ?_)
      · first | exact HC.out _ (HB1.out.trans ((HX.out.alloc HX.out.size _).mono HB1.out.size)) | exact HC.out _ (HB1.out.trans ((((HX.out.setCell (Nat.le_refl _) _).setCell (Nat.le_refl _) _).setCell (Nat.le_refl _) _).mono HB1.out.size))
      clear hK K hbr24b25
      try simp only [Act.put, List.setIfInBounds_toArray, List.set_cons_zero, List.set_cons_succ]
      refine tkA 26 ?_
      refine wpAnyH_done (by kernel_rfl) ?_ _
      go_wp2_with fail
      go_meet
      first | exact ⟨_, A3, c3, rfl, rfl, HX.out.size, (show Hid _ from HX.out.alloc HX.out.size _), (show Hid _ from Blk.new _ _ _), (show Hid _ from own_below (ownsRow_mono HROW3.out (by have h1 := HZ0.out; simp; omega)) ((Below.refl _ _).alloc (Nat.le_refl _) _))⟩ | exact ⟨_, A3, c3, rfl, rfl, Nat.le_refl _, (show Hid _ from (((HX.out.setCell (Nat.le_refl _) _).setCell (Nat.le_refl _) _).setCell (Nat.le_refl _) _)), (show Hid _ from ((((Blk.new_ w1.drew 30 _ _ rfl).keep HB3.out).set_ 0 _).set_ 1 _).set_ 2 _), (show Hid _ from ownsRow_mono (ownsRow_setCell_below (ownsRow_setCell_below (ownsRow_setCell_below HROW3.out (by simp) _) (by simp) _) (by simp) _) (by have h1 := HZ0.out; simp; omega))⟩
    refine conA (fun K hK => ?_) ?_
    · go_simp
      refine hK.out _ _ ?_ (fun hbr24b28 => ?_)
      · first | exact HC.out _ (HB1.out.trans ((HX.out.alloc HX.out.size _).mono HB1.out.size)) | exact HC.out _ (HB1.out.trans (((Below.refl w1.heap.size w1).drew.alloc (Nat.le_refl _) _).mono HB1.out.size))
      clear hK K hbr
      try simp only [Act.put, List.setIfInBounds_toArray, List.set_cons_zero, List.set_cons_succ]
      refine stA 20 (fun K hK => ?_)
      go_simp
      first | refine (HTK.out _ (HB1.out.trans ((Below.refl _ _).drew.mono HB1.out.size))).mono ?_ | refine (HTK.out _ (HB1.out.trans (((Below.refl w1.heap.size w1).drew.alloc (Nat.le_refl _) _).mono HB1.out.size))).mono ?_
      rintro e w3 ⟨v3, rfl, ⟨sv3, rfl, hrow3⟩, hb3⟩
      dsimp only at hrow3 ⊢
      obtain ⟨A3, c3, rfl, _, _⟩ := (Sl.of_own hrow3).form
      rw [HLL.out] at hrow3 ⊢
      have hX : Below w1.heap.size w1 w3 := Below.trans (by first | exact (Below.refl _ _).drew | exact (Below.refl w1.heap.size w1).drew.alloc (Nat.le_refl _) _) (hb3.mono (by first | exact Nat.le_refl _ | (simp; done) | (simp; omega)))
      have HX := Lib.hid hX
      have HROW3 := Lib.hid hrow3
      have HB3 := Lib.hid hb3
      obtain ⟨hc3, hf3⟩ := bcell hb3
      have hz3 := hb3.size
      simp at hz3
      clear hX hrow3 hb3
      try go_wp2_with fail
      refine hK.out _ _ ?_ (fun hbr20b29 => ?_)
      · exact HC.out _ (HB1.out.trans (HX.out.mono HB1.out.size))
      clear hK K hbr24b28
      try simp only [Act.put, List.setIfInBounds_toArray, List.set_cons_zero, List.set_cons_succ]
      refine tkA 21 ?_
      refine tkA 22 ?_
      refine tkA 23 ?_
      refine stA 25 (fun K hK => ?_)
      go_simp
      refine hK.out _ _ ?_ (fun hbr25b33 => ?_)
      · first | exact HC.out _ (HB1.out.trans ((HX.out.alloc HX.out.size _).mono HB1.out.size)) | exact HC.out _ (HB1.out.trans ((((HX.out.setCell (Nat.le_refl _) _).setCell (Nat.le_refl _) _).setCell (Nat.le_refl _) _).mono HB1.out.size))
      clear hK K hbr20b29
      try simp only [Act.put, List.setIfInBounds_toArray, List.set_cons_zero, List.set_cons_succ]
      refine tkA 26 ?_
      refine wpAnyH_done (by kernel_rfl) ?_ _
      go_wp2_with fail
      go_meet
      first | exact ⟨_, A3, c3, rfl, rfl, HX.out.size, (show Hid _ from HX.out.alloc HX.out.size _), (show Hid _ from Blk.new _ _ _), (show Hid _ from own_below (ownsRow_mono HROW3.out (by have h1 := HZ0.out; simp; omega)) ((Below.refl _ _).alloc (Nat.le_refl _) _))⟩ | exact ⟨_, A3, c3, rfl, rfl, Nat.le_refl _, (show Hid _ from (((HX.out.setCell (Nat.le_refl _) _).setCell (Nat.le_refl _) _).setCell (Nat.le_refl _) _)), (show Hid _ from ((((Blk.new_ w1.drew 30 _ _ rfl).keep HB3.out).set_ 0 _).set_ 1 _).set_ 2 _), (show Hid _ from ownsRow_mono (ownsRow_setCell_below (ownsRow_setCell_below (ownsRow_setCell_below HROW3.out (by simp) _) (by simp) _) (by simp) _) (by have h1 := HZ0.out; simp; omega))⟩
    exact AllReadyH.nil
  case rest =>
    obtain ⟨B, A3, c3, rfl, rfl, hB, HX, HBX, HROW⟩ := hcut
    have HXX := Lib.hid (HB1.out.trans (HX.out.mono HB1.out.size))
    have H2 := Lib.hid (HH.out.keep HXX.out)
    by_cases her : er = 0
    · have HS0 := Lib.hid (HS.out.trans (if_pos her))
      subst her
      have hbx := HBX.out
      have b0 : wc.cell? ⟨B, 0, none⟩ = some (.int .i64 m.now) := by rw [hbx.cell]; rfl
      have b1 : wc.cell? ⟨B, 1, none⟩ = some (.int .i64 m.mx) := by rw [hbx.cell]; rfl
      have b2 : wc.cell? ⟨B, 2, none⟩ = some (.slice A3 m.L.length c3) := by rw [hbx.cell]; rfl
      have q1 : wc.cell? ⟨r, 1, none⟩ = some (.int .i64 m.now) := H2.out.rcells 1
      have q2 : wc.cell? ⟨r, 2, none⟩ = some (.int .i64 m.mx) := H2.out.rcells 2
      have q3 : wc.cell? ⟨r, 3, none⟩ = some (.slice a.lA m.L.length a.lc) := H2.out.rcells 3
      have qf1 := H2.out.run.free 1
      have qf2 := H2.out.run.free 2
      have qf3 := H2.out.run.free 3
      have hR3 := H2.out.setC (now := m.now) (mx := m.mx) (L := L') (A := A3) (c := c3) (by rw [HLL.out]; exact HROW.out)
      rw [HLL.out] at hR3
      have d9 : wc.cell? ⟨a.gT, k * 11 + 9, none⟩ = some (.int .i64 (j : Int)) := by have e := H2.out.tcells HK.out (j := 9) rfl; rw [HI.out] at e; exact e
      have d8 : wc.cell? ⟨a.gT, k * 11 + 8, none⟩ = some (.slice (some ⟨b, 0, none⟩) nW t.wc) := by have e := H2.out.tcells HK.out (j := 8) rfl; rw [HBA.out, ← HNW.out] at e; exact e
      have d0 := H2.out.tcells HK.out (j := 0) rfl
      have f9 := H2.out.tfree (k * 11 + 9)
      have f0 := H2.out.tfree (k * 11)
      simp only [Nat.add_zero] at d0
      have hne' : ¬ r = a.gT := fun e => hne e.symm
      have hlt := HH.out.tlt HK.out
      have hR4 := (hR3.tc0 (t := t) HK.out).tc hlt { t with i := t.i + 1 } (j := 9) (u := .int .i64 ((j : Int) + 1)) (by omega) (by simp [encTx, HI.out]) ⟨rfl, rfl, rfl, rfl, rfl, rfl⟩
      have HR4 := Lib.hid hR4
      clear hbx hR3 hR4
      go_upto_region 6 with fail
      by_cases hl : j + 1 = nW
      · have hlb : ((j : Int) + 1 == (nW : Int)) = true := by simp; omega
        have hlz : (nW : Int) = (j : Int) + 1 := by omega
        refine wp_region_held_drew (S := fun W => W.cell? ⟨a.gT, k * 11 + 8, none⟩ = some (.slice (some ⟨b, 0, none⟩) nW t.wc) ∧ W.cell? ⟨a.gT, k * 11 + 9, none⟩ = some (.int .i64 ((j : Int) + 1))) (by kernel_rfl) ?_ (fun hcr => ?_)
        · constructor <;> go_simp
        refine tkA 0 ?_
        refine tkA 1 ?_
        refine tkA 2 ?_
        refine tkA 3 ?_
        refine tkA 4 ?_
        refine tkA 5 ?_
        refine tkA 6 ?_
        refine tkA 7 ?_
        refine tkA 8 ?_
        refine tkA 9 (v := .bool true) ?_ (hy := by (intro w hSw; (try dsimp only at hSw); go_simp <;> first | done | with_reducible rfl | omega | (simp; done) | (simp; omega) | (simp [*]; done) | (simp [*]; omega) | exact decide_eq_false (by omega) | exact decide_eq_true (by omega)))
        refine wpAnyH_done (by kernel_rfl) ?_ _
        go_wp2
        go_end0
        have h5 := RunW.tc (m := { m with L := L' }) (t := { t with i := t.i + 1 }) (HR4.out.keep (Below.refl _ _).drew) hlt { t with i := t.i + 1, st := 3 } (j := 0) (u := .int .i64 3) (by omega) rfl ⟨rfl, rfl, rfl, rfl, rfl, rfl⟩
        refine ⟨rfl, _, _, _, h5, ?_⟩
        rw [HS0.out, if_pos (by rw [HI.out, ← HNW.out]; exact hlz.symm)]
      · have hlb : ((j : Int) + 1 == (nW : Int)) = false := by simp; omega
        have hlz : ¬ (j : Int) + 1 = (nW : Int) := by omega
        refine wp_region_held_drew (S := fun W => W.cell? ⟨a.gT, k * 11 + 8, none⟩ = some (.slice (some ⟨b, 0, none⟩) nW t.wc) ∧ W.cell? ⟨a.gT, k * 11 + 9, none⟩ = some (.int .i64 ((j : Int) + 1))) (by kernel_rfl) ?_ (fun hdr => ?_)
        · constructor <;> go_simp
        refine tkA 0 ?_
        refine tkA 1 ?_
        refine tkA 2 ?_
        refine tkA 3 ?_
        refine tkA 4 ?_
        refine tkA 5 ?_
        refine tkA 6 ?_
        refine tkA 7 ?_
        refine tkA 8 ?_
        refine tkA 9 (v := .bool false) ?_ (hy := by (intro w hSw; (try dsimp only at hSw); go_simp <;> first | done | with_reducible rfl | omega | (simp; done) | (simp; omega) | (simp [*]; done) | (simp [*]; omega) | exact decide_eq_false (by omega) | exact decide_eq_true (by omega)))
        refine wpAnyH_done (by kernel_rfl) ?_ _
        go_wp2
        go_end0
        refine ⟨rfl, _, _, _, HR4.out.keep (Below.refl _ _).drew, ?_⟩
        rw [HS0.out, if_neg (by rw [HI.out, ← HNW.out]; exact hlz)]
    · have herb : (er != 0) = true := by simpa using her
      have HE := Lib.hid (show holdM m k t = quitM m k t 1 from by rw [HS.out, if_neg her])
      clear her
      go_wp2_with fail
      refine (HQT.out _ HXX.out).mono ?_
      rintro e w3 ⟨rfl, hP⟩
      have HP := Lib.hid hP
      clear hP
      go_wp2
      refine bodyPost_ret (results_none rfl _ _ _) rfl ?_
      exact ⟨rfl, by rw [HE.out]; exact HP.out⟩
end
end Go.Proofs.Ytngimbfojccikaa
