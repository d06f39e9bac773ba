/- Several texts in one: StQuit, StTick. -/
import Derived.Test.YtngimbfojccikaaStmTellsE
namespace Go.Proofs.Ytngimbfojccikaa
set_option linter.unusedSimpArgs false
open Go Go.RowKit
set_option linter.unusedVariables false
set_option maxRecDepth 100000

section
variable {w0 w w' : World} {r : Nat} {φ : Nat → Nat} {a : Ad} {m : Mm} {pw pm : Int} {pv : Value}
/-- quit, between two rounds. -/
def QuI (w0 w : World) (r : Nat) (φ : Nat → Nat) (a : Ad) (m : Mm) (pw pm : Int) (pv : Value) (k : Nat) (i : Nat) (wr : World) : Prop :=
  ∃ A c, RunW w0 wr r φ { a with lA := A, lc := c } { m with L := dropN m.L (k : Int) i } pw pm pv (k : Int) ∧ RowL wr w0.heap.size (.slice a.lA m.L.length a.lc) m.L

set_option maxHeartbeats 4000000 in
theorem quit_any {k : Nat} {t : Tx} (h : RunW w0 w r φ a m pw pm pv (k : Int)) (hk : m.T[k]? = some t) (how : Int) (hmay : mayL m.now m.mx m.L = true) (hk4 : k < 4) (hH : m.H.length ≤ 1000) (hR : t.R.length ≤ 1000) (hW : t.W.length ≤ 1000) (htx : 0 ≤ t.tx ∧ t.tx ≤ 1000) :
    Calls Try.prog 65 #[.pointer (some ⟨r, 0, none⟩), .int .i64 how] w (DonePost w0 r a (quitM m k t how) k pw pm pv) := by
  have HMAY := Lib.hid hmay
  have hb := may_iff.1 hmay
  have hl0 := hb.2.2.2.1
  have hl8 := hb.2.2.2.2.1
  have HI0 := Lib.hid (show QuI w0 w r φ a m pw pm pv k 0 w from ⟨_, _, by simpa [dropN] using h, h.lrow⟩)
  have r3 : w.cell? ⟨r, 3, none⟩ = some (.slice a.lA m.L.length a.lc) := h.rcells 3
  have HE := Lib.hid (fun (w : World) A c (h : RunW w0 w r φ { a with lA := A, lc := c } { m with L := dropN m.L (k : Int) m.L.length } pw pm pv (k : Int)) => end_any h (m := { m with L := dropN m.L (k : Int) m.L.length }) (t := t) hk how hH hR hW htx)
  have HQ := Lib.hid (show dropN m.L (k : Int) m.L.length = m.L.map (dropO (k : Int)) from by unfold dropN; simp)
  have HK := Lib.hid hk
  obtain ⟨n, hn⟩ : ∃ n, n = m.L.length := ⟨_, rfl⟩
  rw [← hn] at hl0 hl8 r3
  obtain ⟨lA, hlA⟩ : ∃ x, x = a.lA := ⟨_, rfl⟩
  rw [← hlA] at r3
  have HLA := Lib.hid hlA
  clear hlA
  have HN := Lib.hid hn
  clear h hk hmay hb hn
  go_enter Try.func65, Try.ntmps65
  go_wp2_with fail
  clear r3
  go_loopg [13] n (fun gg s13 wr => ∃ i : Nat, s13 = .int .i64 i ∧ i ≤ n ∧ n - i ≤ gg ∧ Hid (QuI w0 w r φ a m pw pm pv k i wr))
  case atStart => exact ⟨0, by go_num, by omega, by omega, HI0.out⟩
  case round =>
    obtain ⟨i, rfl, hin, hg, HI⟩ := hrel
    by_cases hlt : i < n
    · have hltz : (i : Int) < (n : Int) := by omega
      have hi0 : (0 : Int) ≤ (i : Int) := by omega
      have hil : i < m.L.length := by rw [← HN.out]; exact hlt
      obtain ⟨A, c, hR1, hrow⟩ := HI.out
      have hrow' := hrow
      rw [← HLA.out] at hrow'
      obtain ⟨b, o, hA, hbl, hel⟩ := Sl.pos encL encL_len (Sl.of_own hrow') (by omega)
      clear hrow'
      subst hA
      have e0 := hel wr (Below.refl _ _) i hil 0 _ rfl
      have e1 := hel wr (Below.refl _ _) i hil 1 _ rfl
      simp only [Nat.add_zero] at e0
      obtain ⟨L, hL⟩ : ∃ L, L = dropN m.L (k : Int) i := ⟨_, rfl⟩
      have hL2 := dropN_len m.L (k : Int) i (by omega)
      have hat := dropN_at m.L (k : Int) i hil
      have hsu := dropN_succ m.L (k : Int) i hil
      have hmy := dropN_may HMAY.out (k : Int) i (by omega)
      rw [← hL] at hL2 hat hsu hmy hR1
      have hLi : i < L.length := by omega
      have HAT := Lib.hid (show L[i] = m.L[i] from by rw [List.getElem?_eq_getElem hLi] at hat; exact Option.some.inj hat)
      have HSU := Lib.hid hsu
      have HMY := Lib.hid hmy
      have HR1 := Lib.hid hR1
      have HROW := Lib.hid hrow
      have HLL := Lib.hid (show L.length = n from by rw [hL2, HN.out])
      have q1 : wr.cell? ⟨r, 1, none⟩ = some (.int .i64 m.now) := hR1.rcells 1
      have q2 : wr.cell? ⟨r, 2, none⟩ = some (.int .i64 m.mx) := hR1.rcells 2
      have q3 : wr.cell? ⟨r, 3, none⟩ = some (.slice A L.length c) := hR1.rcells 3
      have q10 : wr.cell? ⟨r, 10, none⟩ = some (.int .i64 (k : Int)) := hR1.rcells 10
      have qf1 := hR1.run.free 1
      have qf2 := hR1.run.free 2
      have qf3 := hR1.run.free 3
      have hrl : r < wr.heap.size := hR1.run.lt
      generalize m.L[i] = l at *
      clear hel hat hsu hmy hR1 hrow hL hL2
      obtain ⟨wb, hwb⟩ : ∃ x, wr.alloc (.cells #[.int .i64 l.v, .int .i64 l.o] 43) = x := ⟨_, rfl⟩
      have HWB := Lib.hid (show Below wr.heap.size wr wb from hwb ▸ (Below.refl _ _).alloc (Nat.le_refl _) _)
      have hbx : Blk wb wr.heap.size 43 #[.int .i64 l.v, .int .i64 l.o] := hwb ▸ Blk.new _ _ _
      have p1 : wb.cell? ⟨wr.heap.size, 1, none⟩ = some (.int .i64 l.o) := by rw [hbx.cell]; rfl
      have p10 : wb.cell? ⟨r, 10, none⟩ = some (.int .i64 (k : Int)) := (HWB.out.cell (p := ⟨r, 10, none⟩) hrl).trans q10
      have HBX := Lib.hid hbx
      clear hbx
      go_upto_region 3 with fail
      clear hwb e0 e1
      by_cases ho : l.o = (k : Int)
      · have hob : (l.o == (k : Int)) = true := by simpa using ho
        have HGV := Lib.hid (show giveL m.now m.mx L (i : Int) (k : Int) (-1) = (0, L.set i (dropO (k : Int) l)) from by
          have := give_drop HMY.out k hk4 i hLi (by rw [HAT.out]; exact ho)
          rw [HAT.out] at this; exact this)
        have HGC := Lib.hid (fun (W : World) (hb : Below wb.heap.size wb W) => HGV.out ▸ Give_any _ m.now m.mx (i : Int) (k : Int) (-1) L W ((HR1.out.keep HWB.out).keep hb).locks (by rw [HLL.out]; omega))
        have HCC := Lib.hid (fun (W : World) (hb : Below wb.heap.size wb W) => (show W.cell? ⟨r, 1, none⟩ = some (.int .i64 m.now) ∧ W.cell? ⟨r, 2, none⟩ = some (.int .i64 m.mx) ∧ W.cell? ⟨r, 3, none⟩ = some (.slice A L.length c) ∧ W.cell? ⟨r, 10, none⟩ = some (.int .i64 (k : Int)) from
          ⟨((HR1.out.keep HWB.out).keep hb).rcells 1, ((HR1.out.keep HWB.out).keep hb).rcells 2, ((HR1.out.keep HWB.out).keep hb).rcells 3, ((HR1.out.keep HWB.out).keep hb).rcells 10⟩))
        have HNX := Lib.hid (show dropO (k : Int) l = ⟨l.v, -1⟩ from by unfold dropO; rw [if_pos ho])
        clear ho
        refine wp_region_held_drew (S := fun W => W.cell? ⟨wr.heap.size, 1, none⟩ = some (.int .i64 l.o) ∧ W.cell? ⟨r, 10, none⟩ = some (.int .i64 (k : Int))) (by kernel_rfl) ?_ (fun hbr => ?_)
        · exact ⟨p1, p10⟩
        refine tkA 0 ?_
        refine tkA 1 ?_
        refine tkA 2 ?_
        refine tkA 3 ?_
        refine tkA 4 ?_
        refine tkA 5 ?_
        refine tkA 6 ?_
        refine wpAnyH_done (by kernel_rfl) ?_ _
        have u1 : wb.cell? ⟨r, 1, none⟩ = some (.int .i64 m.now) := (HCC.out _ (Below.refl _ _)).1
        have u2 : wb.cell? ⟨r, 2, none⟩ = some (.int .i64 m.mx) := (HCC.out _ (Below.refl _ _)).2.1
        have u3 : wb.cell? ⟨r, 3, none⟩ = some (.slice A L.length c) := (HCC.out _ (Below.refl _ _)).2.2.1
        have hrb : r < wb.heap.size := Nat.lt_of_lt_of_le hrl HWB.out.size
        clear p1 q1 q2 q3 q10 qf1 qf2 qf3
        go_wp2_with fail
        refine wp_region_held_drew (S := fun W => W.cell? ⟨r, 10, none⟩ = some (.int .i64 (k : Int))) (by kernel_rfl) ?_ (fun hcr => ?_)
        · exact p10
        refine tkA 0 ?_
        refine tkA 1 ?_
        refine tkA 2 ?_
        refine tkA 3 ?_
        refine tkA 4 ?_
        refine tkA 6 ?_
        refine tkA 7 ?_
        refine tkA 8 ?_
        refine tkA 9 ?_
        refine tkA 10 ?_
        refine stA 5 (fun K hK => ?_)
        go_simp
        refine hK.out _ _ ?_ (fun hcr5b11 => ?_)
        · exact p10
        clear hK K hcr
        try simp only [Act.put, List.setIfInBounds_toArray, List.set_cons_zero, List.set_cons_succ]
        refine stA 11 (fun K hK => ?_)
        go_simp
        refine (HGC.out _ (Below.refl _ _).drew.drew).mono ?_
        rintro e w3 ⟨v3, rfl, ⟨sv3, rfl, hrow3⟩, hb3⟩
        dsimp only at hrow3
        obtain ⟨A3, c3, rfl, _, _⟩ := (Sl.of_own hrow3).form
        have hX : Below wb.heap.size wb w3 := (Below.refl _ _).drew.drew.trans hb3
        have z1 := (hX.cell (p := ⟨r, 1, none⟩) hrb).trans u1
        have z2 := (hX.cell (p := ⟨r, 2, none⟩) hrb).trans u2
        have z3 := (hX.cell (p := ⟨r, 3, none⟩) hrb).trans u3
        have z10 := (hX.cell (p := ⟨r, 10, none⟩) hrb).trans p10
        have HX := Lib.hid hX
        have H3 := Lib.hid ((HR1.out.keep HWB.out).keep hX)
        have zf1 := H3.out.run.free 1
        have zf2 := H3.out.run.free 2
        have zf3 := H3.out.run.free 3
        have HROW3 := Lib.hid hrow3
        clear hX hrow3 hb3
        try go_wp2_with fail
        refine hK.out _ _ ?_ (fun hcr11b12 => ?_)
        · exact z10
        clear hK K hcr5b11
        try simp only [Act.put, List.setIfInBounds_toArray, List.set_cons_zero, List.set_cons_succ]
        refine tkA 12 ?_
        refine tkA 13 ?_
        refine tkA 14 ?_
        refine tkA 15 ?_
        refine tkA 16 ?_
        refine tkA 17 ?_
        refine stA 18 (fun K hK => ?_)
        go_simp
        refine hK.out _ _ ?_ (fun hcr18b19 => ?_)
        · go_simp
        clear hK K hcr11b12
        try simp only [Act.put, List.setIfInBounds_toArray, List.set_cons_zero, List.set_cons_succ]
        refine wpAnyH_done (by kernel_rfl) ?_ _
        go_wp2
        go_roundg (n - (i + 1))
        case measure => omega
        case rel => exact ⟨i + 1, by go_num, by omega, by omega, (show Hid _ from ⟨A3, c3, by (have e := H3.out.setC (now := m.now) (mx := m.mx) (ownsRow_mono HROW3.out (by have h1 := HR1.out.base.size; have h2 := HWB.out.size; simp; omega))); rw [HSU.out]; rw [List.length_set] at e; exact e, own_ty (own_below (own_below HROW.out HWB.out) HX.out) (grown_trans (grown_trans (grown_setCell _ ⟨r, 1, none⟩ _) (grown_setCell _ ⟨r, 2, none⟩ _)) (grown_setCell _ ⟨r, 3, none⟩ _)) H3.out.run (by decide)⟩)⟩
      · have hob : (l.o == (k : Int)) = false := by simpa using ho
        have HNX := Lib.hid (show dropO (k : Int) l = l from by unfold dropO; rw [if_neg ho])
        clear ho
        refine wp_region_held_drew (S := fun W => W.cell? ⟨wr.heap.size, 1, none⟩ = some (.int .i64 l.o) ∧ W.cell? ⟨r, 10, none⟩ = some (.int .i64 (k : Int))) (by kernel_rfl) ?_ (fun hdr => ?_)
        · exact ⟨p1, p10⟩
        refine tkA 0 ?_
        refine tkA 1 ?_
        refine tkA 2 ?_
        refine tkA 3 ?_
        refine tkA 4 ?_
        refine tkA 5 ?_
        refine tkA 6 ?_
        refine wpAnyH_done (by kernel_rfl) ?_ _
        clear p1 p10 q1 q2 q3 q10 qf1 qf2 qf3
        go_wp2
        go_roundg (n - (i + 1))
        case measure => omega
        case rel =>
          refine ⟨i + 1, by go_num, by omega, by omega, (show Hid _ from ⟨A, c, ?_, ?_⟩)⟩
          · have e : L.set i (dropO (k : Int) l) = L := by rw [HNX.out, ← HAT.out, List.set_getElem_self]
            rw [HSU.out, e]
            exact (HR1.out.keep HWB.out).keep (Below.refl _ _).drew
          · exact own_below (own_below HROW.out HWB.out) (Below.refl _ _).drew
    · obtain rfl : n = i := by omega
      obtain ⟨A, c, hR1, hrow⟩ := HI.out
      rw [HN.out] at hR1
      have HR1 := Lib.hid hR1
      clear hR1 hrow
      go_wp2_with fail
      refine (HE.out _ _ _ HR1.out).mono ?_
      rintro e w3 ⟨rfl, φ', a', m2, h2, he⟩
      have HP := Lib.hid (And.intro h2 he)
      clear h2 he
      go_wp2
      go_end0
      exact ⟨rfl, φ', a', m2, HP.out.1, HP.out.2.trans (by unfold quitM; rw [HQ.out])⟩
end
end Go.Proofs.Ytngimbfojccikaa
namespace Go.Proofs.Ytngimbfojccikaa
set_option linter.unusedSimpArgs false
open Go Go.RowKit
set_option linter.unusedVariables false
set_option maxRecDepth 100000

section
variable {w0 w w' : World} {r : Nat} {φ : Nat → Nat} {a : Ad} {m : Mm} {pw pm : Int} {pv : Value}

set_option maxHeartbeats 4000000 in
theorem tick_any {k : Nat} {t : Tx} (h : RunW w0 w r φ a m pw pm pv (k : Int)) (hk : m.T[k]? = some t) (hmay : mayL m.now m.mx m.L = true) (hk4 : k < 4) (hH : m.H.length ≤ 1000) (hR : t.R.length ≤ 1000) (hW : t.W.length ≤ 1000) (htx : 0 ≤ t.tx ∧ t.tx ≤ 1000) :
    Calls Try.prog 47 #[.pointer (some ⟨r, 0, none⟩)] w (DonePost w0 r a (tickM m k t) k pw pm pv) := by
  have hb := may_iff.1 hmay
  obtain ⟨nw, vr, er, hq⟩ : ∃ x y z, tickL m.now m.mx m.L = (x, y, z) := ⟨_, _, _, rfl⟩
  have HTC := Lib.hid (hq ▸ Tick_any _ m.now m.mx m.L w h.locks (by omega))
  have r1 : w.cell? ⟨r, 1, none⟩ = some (.int .i64 m.now) := h.rcells 1
  have r2 : w.cell? ⟨r, 2, none⟩ = some (.int .i64 m.mx) := h.rcells 2
  have r3 : w.cell? ⟨r, 3, none⟩ = some (.slice a.lA m.L.length a.lc) := h.rcells 3
  have HH := Lib.hid h
  have HK := Lib.hid hk
  have hrl := h.run.lt
  have HQT := Lib.hid (fun W (hb : Below w.heap.size w W) => quit_any (h.keep hb) hk 2 hmay hk4 hH hR hW htx)
  have HQ := Lib.hid hq
  clear h hk hmay hb hq
  go_enter Try.func47, Try.ntmps47
  go_wp2_with fail
  refine HTC.out.mono ?_
  rintro e w1 ⟨v1, rfl, ⟨sv, rfl, hrow⟩, hb1⟩
  dsimp only at hrow ⊢
  obtain ⟨A1, c1, rfl, _, _⟩ := (Sl.of_own hrow).form
  have HB1 := Lib.hid hb1
  have HROW := Lib.hid hrow
  have hz1 := hb1.size
  clear hrow hb1 HTC
  by_cases her : er = 0
  · subst her
    obtain ⟨w2, hw2⟩ : ∃ x, w1.alloc (.cells #[.int .i64 nw, .int .i64 m.mx, .slice A1 m.L.length c1] 30) = x := ⟨_, rfl⟩
    have HB2 := Lib.hid (show Below w1.heap.size w1 w2 from hw2 ▸ (Below.refl _ _).alloc (Nat.le_refl _) _)
    have hbx : Blk w2 w1.heap.size 30 #[.int .i64 nw, .int .i64 m.mx, .slice A1 m.L.length c1] := hw2 ▸ Blk.new _ _ _
    have H2 := Lib.hid (HH.out.keep (HB1.out.trans (HB2.out.mono HB1.out.size)))
    have b0 : w2.cell? ⟨w1.heap.size, 0, none⟩ = some (.int .i64 nw) := by rw [hbx.cell]; rfl
    have b1 : w2.cell? ⟨w1.heap.size, 1, none⟩ = some (.int .i64 m.mx) := by rw [hbx.cell]; rfl
    have b2 : w2.cell? ⟨w1.heap.size, 2, none⟩ = some (.slice A1 m.L.length c1) := by rw [hbx.cell]; rfl
    have q1 : w2.cell? ⟨r, 1, none⟩ = some (.int .i64 m.now) := H2.out.rcells 1
    have q2 : w2.cell? ⟨r, 2, none⟩ = some (.int .i64 m.mx) := H2.out.rcells 2
    have q3 : w2.cell? ⟨r, 3, none⟩ = some (.slice a.lA m.L.length a.lc) := H2.out.rcells 3
    have qf1 := H2.out.run.free 1
    have qf2 := H2.out.run.free 2
    have qf3 := H2.out.run.free 3
    have hR3 := H2.out.setC (now := nw) (mx := m.mx) (L := m.L) (A := A1) (c := c1) (ownsRow_mono (own_below HROW.out HB2.out) (by have := HH.out.base.size; omega))
    have HME := Lib.hid (me_any hR3 (t := t) HK.out)
    have HR3 := Lib.hid hR3
    clear hbx r1 r2 r3 hR3
    go_upto_region 1 with fail
    clear hw2
    go_wp2_with fail
    refine HME.out.mono ?_
    rintro e w4 ⟨rfl, hb4⟩
    have H4 := Lib.hid (HR3.out.keep hb4)
    have d0 := H4.out.tcells (t := t) HK.out (j := 0) rfl
    have d5 := H4.out.tcells (t := t) HK.out (j := 5) rfl
    have d9 := H4.out.tcells (t := t) HK.out (j := 9) rfl
    have f0 := H4.out.tfree (k * 11)
    have f5 := H4.out.tfree (k * 11 + 5)
    have f9 := H4.out.tfree (k * 11 + 9)
    simp only [Nat.add_zero] at d0
    clear hb4 q1 q2 q3 qf1 qf2 qf3 b0 b1 b2 HME
    go_wp2
    go_end0
    have hlt := HH.out.tlt HK.out
    refine ⟨rfl, _, _, _, ((((H4.out.tc0 (t := t) HK.out).tc hlt { t with wv := vr } (j := 5) (by omega) rfl ⟨rfl, rfl, rfl, rfl, rfl, rfl⟩).tc hlt { t with wv := vr, st := 4 } (j := 0) (by omega) rfl ⟨rfl, rfl, rfl, rfl, rfl, rfl⟩).tc hlt { t with wv := vr, st := 4, i := 0 } (j := 9) (by omega) rfl ⟨rfl, rfl, rfl, rfl, rfl, rfl⟩), ?_⟩
    unfold tickM
    rw [HQ.out]
    rfl
  · have herb : (er != 0) = true := by simpa using her
    have HE := Lib.hid (show tickM m k t = quitM m k t 2 from by unfold tickM; rw [HQ.out]; exact if_neg her)
    clear her
    have HBX := Lib.hid (HB1.out.trans (((Below.refl w1.heap.size w1).alloc (Nat.le_refl _) (.cells #[.int .i64 nw, .int .i64 m.mx, .slice A1 m.L.length c1] 30)).mono HB1.out.size))
    go_wp2_with fail
    refine (HQT.out _ HBX.out).mono ?_
    rintro e w3 ⟨rfl, hP⟩
    have HP := Lib.hid hP
    clear hP
    go_wp2
    refine bodyPost_ret (results_none rfl _ _ _) rfl ?_
    exact ⟨rfl, by rw [HE.out]; exact HP.out⟩
end
end Go.Proofs.Ytngimbfojccikaa
