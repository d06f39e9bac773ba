/- tick: the clock is asked. -/
import Derived.Test.YtmcbnpeihedcaaaStQuit
namespace Go.Proofs.Ytmcbnpeihedcaaa
set_option linter.unusedSimpArgs false
open Go Go.RowKit
set_option linter.unusedVariables false
set_option maxRecDepth 100000

section
variable {w0 w w' : World} {r : Nat} {φ : Nat → Nat} {a : Ad} {m : Mm} {pw pm : Int} {pv : Value}

set_option maxHeartbeats 4000000 in
theorem tick_any {k : Nat} {t : Tx} (h : RunW w0 w r φ a m pw pm pv (k : Int)) (hk : m.T[k]? = some t) (hmay : mayL m.now m.mx m.L = true) (hk4 : k < 4) (hH : m.H.length ≤ 1000) (hR : t.R.length ≤ 1000) (hW : t.W.length ≤ 1000) (htx : 0 ≤ t.tx ∧ t.tx ≤ 1000) :
    Calls Try.prog 45 #[.pointer (some ⟨r, 0, none⟩)] w (DonePost w0 r a (tickM m k t) k pw pm pv) := by
  have hb := may_iff.1 hmay
  obtain ⟨nw, vr, er, hq⟩ : ∃ x y z, tickL m.now m.mx m.L = (x, y, z) := ⟨_, _, _, rfl⟩
  have HTC := Lib.hid (hq ▸ Tick_any _ m.now m.mx m.L w h.locks (by omega))
  have r1 : w.cell? ⟨r, 1, none⟩ = some (.int .i64 m.now) := h.rcells 1
  have r2 : w.cell? ⟨r, 2, none⟩ = some (.int .i64 m.mx) := h.rcells 2
  have r3 : w.cell? ⟨r, 3, none⟩ = some (.slice a.lA m.L.length a.lc) := h.rcells 3
  have HH := Lib.hid h
  have HK := Lib.hid hk
  have hrl := h.run.lt
  have HQT := Lib.hid (fun W (hb : Below w.heap.size w W) => quit_any (h.keep hb) hk 2 hmay hk4 hH hR hW htx)
  have HQ := Lib.hid hq
  clear h hk hmay hb hq
  go_enter Try.func45, Try.ntmps45
  go_wp2_with fail
  refine HTC.out.mono ?_
  rintro e w1 ⟨v1, rfl, ⟨sv, rfl, hrow⟩, hb1⟩
  dsimp only at hrow ⊢
  obtain ⟨A1, c1, rfl, _, _⟩ := (Sl.of_own hrow).form
  have HB1 := Lib.hid hb1
  have HROW := Lib.hid hrow
  have hz1 := hb1.size
  clear hrow hb1 HTC
  by_cases her : er = 0
  · subst her
    obtain ⟨w2, hw2⟩ : ∃ x, w1.alloc (.cells #[.int .i64 nw, .int .i64 m.mx, .slice A1 m.L.length c1] 43) = x := ⟨_, rfl⟩
    have HB2 := Lib.hid (show Below w1.heap.size w1 w2 from hw2 ▸ (Below.refl _ _).alloc (Nat.le_refl _) _)
    have hbx : Blk w2 w1.heap.size 43 #[.int .i64 nw, .int .i64 m.mx, .slice A1 m.L.length c1] := hw2 ▸ Blk.new _ _ _
    have H2 := Lib.hid (HH.out.keep (HB1.out.trans (HB2.out.mono HB1.out.size)))
    have b0 : w2.cell? ⟨w1.heap.size, 0, none⟩ = some (.int .i64 nw) := by rw [hbx.cell]; rfl
    have b1 : w2.cell? ⟨w1.heap.size, 1, none⟩ = some (.int .i64 m.mx) := by rw [hbx.cell]; rfl
    have b2 : w2.cell? ⟨w1.heap.size, 2, none⟩ = some (.slice A1 m.L.length c1) := by rw [hbx.cell]; rfl
    have q1 : w2.cell? ⟨r, 1, none⟩ = some (.int .i64 m.now) := H2.out.rcells 1
    have q2 : w2.cell? ⟨r, 2, none⟩ = some (.int .i64 m.mx) := H2.out.rcells 2
    have q3 : w2.cell? ⟨r, 3, none⟩ = some (.slice a.lA m.L.length a.lc) := H2.out.rcells 3
    have qf1 := H2.out.run.free 1
    have qf2 := H2.out.run.free 2
    have qf3 := H2.out.run.free 3
    have hR3 := H2.out.setC (now := nw) (mx := m.mx) (L := m.L) (A := A1) (c := c1) (ownsRow_mono (own_below HROW.out HB2.out) (by have := HH.out.base.size; omega))
    have HME := Lib.hid (me_any hR3 (t := t) HK.out)
    have HR3 := Lib.hid hR3
    clear hbx r1 r2 r3 hR3
    go_upto_region 1 with fail
    clear hw2
    go_wp2_with fail
    refine HME.out.mono ?_
    rintro e w4 ⟨rfl, hb4⟩
    have H4 := Lib.hid (HR3.out.keep hb4)
    have d0 := H4.out.tcells (t := t) HK.out (j := 0) rfl
    have d5 := H4.out.tcells (t := t) HK.out (j := 5) rfl
    have d9 := H4.out.tcells (t := t) HK.out (j := 9) rfl
    have f0 := H4.out.tfree (k * 11)
    have f5 := H4.out.tfree (k * 11 + 5)
    have f9 := H4.out.tfree (k * 11 + 9)
    simp only [Nat.add_zero] at d0
    clear hb4 q1 q2 q3 qf1 qf2 qf3 b0 b1 b2 HME
    go_wp2
    go_end0
    have hlt := HH.out.tlt HK.out
    refine ⟨rfl, _, _, _, ((((H4.out.tc0 (t := t) HK.out).tc hlt { t with wv := vr } (j := 5) (by omega) rfl ⟨rfl, rfl, rfl, rfl, rfl, rfl⟩).tc hlt { t with wv := vr, st := 4 } (j := 0) (by omega) rfl ⟨rfl, rfl, rfl, rfl, rfl, rfl⟩).tc hlt { t with wv := vr, st := 4, i := 0 } (j := 9) (by omega) rfl ⟨rfl, rfl, rfl, rfl, rfl, rfl⟩), ?_⟩
    unfold tickM
    rw [HQ.out]
    rfl
  · have herb : (er != 0) = true := by simpa using her
    have HE := Lib.hid (show tickM m k t = quitM m k t 2 from by unfold tickM; rw [HQ.out]; exact if_neg her)
    clear her
    have HBX := Lib.hid (HB1.out.trans (((Below.refl w1.heap.size w1).alloc (Nat.le_refl _) (.cells #[.int .i64 nw, .int .i64 m.mx, .slice A1 m.L.length c1] 43)).mono HB1.out.size))
    go_wp2_with fail
    refine (HQT.out _ HBX.out).mono ?_
    rintro e w3 ⟨rfl, hP⟩
    have HP := Lib.hid hP
    clear hP
    go_wp2
    refine bodyPost_ret (results_none rfl _ _ _) rfl ?_
    exact ⟨rfl, by rw [HE.out]; exact HP.out⟩
end
end Go.Proofs.Ytmcbnpeihedcaaa
