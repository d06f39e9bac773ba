/- tell: a try is told; end: told, and over. -/
import Derived.Test.YtngimbfojccikaaStmTellsD
namespace Go.Proofs.Ytngimbfojccikaa
set_option linter.unusedSimpArgs false
open Go Go.RowKit
set_option linter.unusedVariables false
set_option maxRecDepth 100000

theorem rec_info : (Try.prog.info? 50).map (fun i => (i.zero, i.size, i.bytes)) = some (some (.agg #[.int .i64 0, .int .i64 0, .int .i64 0, .int .i64 0, .int .i64 0, .int .i64 0, .slice none 0 0, .slice none 0 0, .int .i64 0, .int .i64 0]), 10, 112) := by kernel_rfl

section
variable {w0 w w' : World} {r : Nat} {φ : Nat → Nat} {a : Ad} {m : Mm} {pw pm : Int} {pv : Value}

/-- A new row of pairs has the mark 0. -/
theorem new_tag {w5 : World} {A : Option Addr} {c B tag : Nat} {l : List Pr} (h : PRow w5 B A c l) : Tg (fun g => if g < B then φ g else tag) tag A := fun b hb => by
  show (if b.block < B then φ b.block else tag) = tag
  rw [if_neg (by have := (h.lt hb).2; omega)]
theorem PRow.mono {B B' : Nat} {A : Option Addr} {c : Nat} {l : List Pr} (h : PRow w B A c l) (hb : B' ≤ B) : PRow w B' A c l := ownsRow_mono h hb

theorem prow_len {B n : Nat} {A : Option Addr} {c : Nat} {l : List Pr} (h : w.ownsRow B 55 2 (.slice A n c) n (l.flatMap encPr)) (hn : l.length = n) : PRow w B A c l := by subst hn; exact h

/-- What tell leaves. -/
def TellPost (w0 : World) (r : Nat) (a : Ad) (m : Mm) (k : Nat) (t : Tx) (how : Int) (pw pm : Int) (pv : Value) (e : Ending) (w' : World) : Prop :=
  e = .returned (.tuple #[]) ∧ ∃ φ' A c x, RunW w0 w' r φ' { a with hA := A, hc := c } { m with H := m.H ++ [x] } pw pm pv (k : Int) ∧ erX x = tellR m k t how

theorem tell_end {w1 w5 w6 w7 : World} {k : Nat} {t : Tx} {how : Int} {A5 A6 A7 : Option Addr} {c5 c6 c7 : Nat} {wz : World} (h : RunW w0 w1 r φ a m pw pm pv (k : Int)) (hx5 : Below w1.heap.size w1 w5) (hx6 : Below w5.heap.size w5 w6) (ho5 : PRow w5 w1.heap.size A5 c5 t.R) (ho6 : PRow w6 w5.heap.size A6 c6 t.W)
    (hz : Below w6.heap.size w6 wz) (hg : wz.grownBy w7 (Value.slice a.hA m.H.length a.hc).ownBlock) {xx : Rx} (hxx : xx = { tellR m k t how with rA := A5, rc := c5, wA := A6, wc := c6 })
    (ho : w7.ownsRow w0.heap.size 50 10 (.slice A7 (m.H.length + 1) c7) (m.H.length + 1) (m.H.flatMap encRx ++ encRx xx)) :
    TellPost w0 r a m k t how pw pm pv (.returned (.tuple #[])) (w7.setCell ⟨r, 5, none⟩ (.slice A7 (m.H.length + 1) c7)) := by
  have hx1z : Below w1.heap.size w1 wz := (hx5.trans (hx6.mono hx5.size)).trans (hz.mono (Nat.le_trans hx5.size hx6.size))
  have hR := (h.keep hx1z).retag (φ' := fun g => if g < w1.heap.size then φ g else 0)
  have h1 := (h.retag (φ' := fun g => if g < w1.heap.size then φ g else 0) (fun g hg => if_pos hg)).keep hx1z
  have h5z := (hx6.trans (hz.mono hx6.size))
  have p5 : PRow wz w1.heap.size A5 c5 t.R := ho5.keep h5z
  have p6 : PRow wz w1.heap.size A6 c6 t.W := (ho6.keep hz).mono hx5.size
  have hx : HxOk wz w0.heap.size (fun g => if g < w1.heap.size then φ g else 0) xx := by
    subst hxx
    exact ⟨p5.mono h.base.size, p6.mono h.base.size, new_tag p5, new_tag p6⟩
  refine ⟨rfl, _, _, _, xx, h1.addH hx hg ho, ?_⟩
  subst hxx
  rfl

/-- Behind an append to the tries told, the run and its threads are as they were. -/
theorem RunW.hfar {who : Int} (h : RunW w0 w r φ a m pw pm pv who) {w1 : World} (hg : w.grownBy w1 (Value.slice a.hA m.H.length a.hc).ownBlock) :
    (∀ o, w1.cell? ⟨a.gT, o, none⟩ = w.cell? ⟨a.gT, o, none⟩) ∧ ∀ o, w1.cell? ⟨r, o, none⟩ = w.cell? ⟨r, o, none⟩ ∧ w1.frozen? ⟨r, o, none⟩ = w.frozen? ⟨r, o, none⟩ := by
  obtain ⟨_, hlt, _, _, ct, hT⟩ := own_blk h.trow
  have n1 : some a.gT ≠ (Value.slice a.hA m.H.length a.hc).ownBlock := fun e => own_ne h.hrow hT (by decide) e.symm
  have n2 : some r ≠ (Value.slice a.hA m.H.length a.hc).ownBlock := fun e => own_ne h.hrow h.run (by decide) e.symm
  exact ⟨fun o => hg.cell_far ⟨a.gT, o, none⟩ hlt n1, fun o => ⟨hg.cell_far ⟨r, o, none⟩ h.run.lt n2, hg.frozen_far ⟨r, o, none⟩ h.run.lt n2⟩⟩

set_option maxHeartbeats 4000000 in
theorem tell_any {k : Nat} {t : Tx} (h : RunW w0 w r φ a m pw pm pv (k : Int)) (hk : m.T[k]? = some t) (how : Int) (hH : m.H.length ≤ 1000) (hR : t.R.length ≤ 1000) (hW : t.W.length ≤ 1000) :
    Calls Try.prog 67 #[.pointer (some ⟨r, 0, none⟩), .int .i64 how] w (TellPost w0 r a m k t how pw pm pv) := by
  have HME := Lib.hid (me_any h hk)
  have hT := h.apart.2.2.2.1
  have hRr := h.apart.2.2.2.2.2
  have HH := Lib.hid h
  have HK := Lib.hid hk
  obtain ⟨i0, hi0, hz0, hz1, hz2⟩ := info_parts rec_info
  clear h hk
  go_enter Try.func67, Try.ntmps67
  go_wp2_with fail
  refine HME.out.mono ?_
  rintro e w1 ⟨rfl, hb1⟩
  have H1 := Lib.hid (HH.out.keep hb1)
  have hzz1 := hb1.size
  have hT1 : a.gT < w1.heap.size := by omega
  have hR1 : r < w1.heap.size := by omega
  have d1 := H1.out.tcells HK.out (j := 1) rfl
  have d2 := H1.out.tcells HK.out (j := 2) rfl
  have d4 := H1.out.tcells HK.out (j := 4) rfl
  have d5 := H1.out.tcells HK.out (j := 5) rfl
  have d7 := H1.out.tcells HK.out (j := 7) rfl
  have d8 := H1.out.tcells HK.out (j := 8) rfl
  have d10 := H1.out.tcells HK.out (j := 10) rfl
  have r5 : w1.cell? ⟨r, 5, none⟩ = some (.slice a.hA m.H.length a.hc) := H1.out.rcells 5
  have r6 : w1.cell? ⟨r, 6, none⟩ = some (.int .i64 m.time) := H1.out.rcells 6
  have r10 : w1.cell? ⟨r, 10, none⟩ = some (.int .i64 (k : Int)) := H1.out.rcells 10
  have HSR := Lib.hid (fun W (hb : Below w1.heap.size w1 W) => clone_pair (.slice t.rA t.R.length t.rc) t.R.length _ W (Sl.of_own ((H1.out.keep hb).ts k t HK.out).R) (encPr_one _) (by omega))
  have HSW := Lib.hid (fun W (hb : Below w1.heap.size w1 W) => clone_pair (.slice t.wA t.W.length t.wc) t.W.length _ W (Sl.of_own ((H1.out.keep hb).ts k t HK.out).W) (encPr_one _) (by omega))
  have HC := Lib.hid (fun W (hb : Below w1.heap.size w1 W) => (show W.cell? ⟨a.gT, k * 11 + 1, none⟩ = some (.int .i64 t.tx) ∧ W.cell? ⟨a.gT, k * 11 + 2, none⟩ = some (.int .i64 t.try_) ∧ W.cell? ⟨a.gT, k * 11 + 4, none⟩ = some (.int .i64 t.rv) ∧ W.cell? ⟨a.gT, k * 11 + 5, none⟩ = some (.int .i64 t.wv) ∧ W.cell? ⟨a.gT, k * 11 + 7, none⟩ = some (.slice t.rA t.R.length t.rc) ∧ W.cell? ⟨a.gT, k * 11 + 8, none⟩ = some (.slice t.wA t.W.length t.wc) ∧ W.cell? ⟨a.gT, k * 11 + 10, none⟩ = some (.int .i64 t.fr) ∧ W.cell? ⟨r, 6, none⟩ = some (.int .i64 m.time) ∧ W.cell? ⟨r, 10, none⟩ = some (.int .i64 (k : Int)) from
    ⟨(H1.out.keep hb).tcells HK.out (j := 1) rfl, (H1.out.keep hb).tcells HK.out (j := 2) rfl, (H1.out.keep hb).tcells HK.out (j := 4) rfl, (H1.out.keep hb).tcells HK.out (j := 5) rfl, (H1.out.keep hb).tcells HK.out (j := 7) rfl, (H1.out.keep hb).tcells HK.out (j := 8) rfl, (H1.out.keep hb).tcells HK.out (j := 10) rfl, (H1.out.keep hb).rcells 6, (H1.out.keep hb).rcells 10⟩))
  have HRW := Lib.hid (fun W (hb : Below w1.heap.size w1 W) => H1.out.keep hb)
  have HBS := Lib.hid (H1.out.base.size)
  clear hb1 HH HME d1 d2 d4 d5 d7 d8 d10 r6 r10
  generalize hnR : t.R.length = nR at *
  generalize hnW : t.W.length = nW at *
  have HNR := Lib.hid hnR
  have HNW := Lib.hid hnW
  clear hnR hnW
  go_wp2_with fail
  refine wp_region_held_drew (S := fun W => W.cell? ⟨a.gT, k * 11 + 1, none⟩ = some (.int .i64 t.tx) ∧ W.cell? ⟨a.gT, k * 11 + 2, none⟩ = some (.int .i64 t.try_) ∧ W.cell? ⟨a.gT, k * 11 + 4, none⟩ = some (.int .i64 t.rv) ∧ W.cell? ⟨a.gT, k * 11 + 5, none⟩ = some (.int .i64 t.wv) ∧ W.cell? ⟨a.gT, k * 11 + 7, none⟩ = some (.slice t.rA nR t.rc) ∧ W.cell? ⟨a.gT, k * 11 + 8, none⟩ = some (.slice t.wA nW t.wc) ∧ W.cell? ⟨a.gT, k * 11 + 10, none⟩ = some (.int .i64 t.fr) ∧ W.cell? ⟨r, 6, none⟩ = some (.int .i64 m.time) ∧ W.cell? ⟨r, 10, none⟩ = some (.int .i64 (k : Int))) (by kernel_rfl) ?_ (fun hbr => ?_)
  · exact HC.out _ (Below.refl _ _).drew
  refine tkA 0 ?_
  refine tkA 1 ?_
  refine tkA 2 ?_
  refine tkA 3 ?_
  refine tkA 4 ?_
  refine tkA 6 ?_
  refine tkA 7 ?_
  refine tkA 8 ?_
  refine tkA 9 ?_
  refine tkA 10 ?_
  refine tkA 11 ?_
  refine tkA 12 ?_
  refine tkA 13 ?_
  refine tkA 14 ?_
  refine tkA 15 ?_
  refine tkA 16 ?_
  refine tkA 17 ?_
  refine tkA 18 ?_
  refine tkA 19 ?_
  refine tkA 20 ?_
  refine tkA 21 ?_
  refine tkA 22 ?_
  refine tkA 23 ?_
  refine tkA 24 ?_
  refine tkA 25 ?_
  refine tkA 26 ?_
  refine tkA 27 ?_
  refine tkA 28 ?_
  refine tkA 29 ?_
  refine tkA 30 ?_
  refine tkA 32 ?_
  refine tkA 33 ?_
  refine tkA 34 ?_
  refine tkA 35 ?_
  refine tkA 37 ?_
  refine tkA 38 ?_
  refine tkA 39 ?_
  refine tkA 40 ?_
  refine tkA 41 ?_
  refine tkA 42 ?_
  refine tkA 43 ?_
  refine tkA 44 ?_
  refine tkA 45 ?_
  refine wpAnyH_ready (rs := [5, 31]) (by kernel_rfl) (by simp) ?_
  refine conA (fun K hK => ?_) ?_
  · go_simp
    refine hK.out _ _ ?_ (fun hbr5b44 => ?_)
    · first | exact HC.out _ (HX6.out.alloc HX6.out.size _) | exact HC.out _ (Below.refl _ _).drew | exact HC.out _ HX6.out | exact HC.out _ HX5.out
    clear hK K hbr
    try simp only [Act.put, List.setIfInBounds_toArray, List.set_cons_zero, List.set_cons_succ]
    refine stA 31 (fun K hK => ?_)
    go_simp
    refine (HSR.out _ (Below.refl _ _).drew).mono ?_
    rintro e w5 ⟨v5, rfl, ho5, hb5⟩
    obtain ⟨A5, c5, rfl, _, _⟩ := (Sl.of_own ho5).form
    have hX5 : Below w1.heap.size w1 w5 := (Below.refl _ _).drew.trans hb5
    have y5 := (hX5.cell (p := ⟨r, 5, none⟩) hR1).trans r5
    have HX5 := Lib.hid hX5
    have HO5 := Lib.hid ho5
    clear hX5 ho5 hb5
    try go_wp2_with fail
    refine hK.out _ _ ?_ (fun hbr31b45 => ?_)
    · exact HC.out _ HX5.out
    clear hK K hbr5b44
    try simp only [Act.put, List.setIfInBounds_toArray, List.set_cons_zero, List.set_cons_succ]
    refine stA 36 (fun K hK => ?_)
    go_simp
    refine (HSW.out _ HX5.out).mono ?_
    rintro e w6 ⟨v6, rfl, ho6, hb6⟩
    obtain ⟨A6, c6, rfl, _, _⟩ := (Sl.of_own ho6).form
    have HX6 := Lib.hid (HX5.out.trans (hb6.mono HX5.out.size))
    have y6 := (HX6.out.cell (p := ⟨r, 5, none⟩) hR1).trans r5
    have HB6 := Lib.hid hb6
    have HO6 := Lib.hid ho6
    have z6 : r < w6.heap.size := Nat.lt_of_lt_of_le hR1 HX6.out.size
    clear ho6 hb6
    try go_wp2_with fail
    refine hK.out _ _ ?_ (fun hbr36b46 => ?_)
    · exact HC.out _ HX6.out
    clear hK K hbr31b45
    try simp only [Act.put, List.setIfInBounds_toArray, List.set_cons_zero, List.set_cons_succ]
    refine tkA 46 ?_
    refine stA 47 (fun K hK => ?_)
    go_simp
    refine hK.out _ _ ?_ (fun hbr47b48 => ?_)
    · exact HC.out _ (HX6.out.alloc HX6.out.size _)
    clear hK K hbr36b46
    try simp only [Act.put, List.setIfInBounds_toArray, List.set_cons_zero, List.set_cons_succ]
    refine stA 48 (fun K hK => ?_)
    refine step_append_lies _ rfl (.tmp 12) (.tmp 54) _ rfl w0.heap.size 50 i0 _ 10 112 Try.underlying32 hi0 hz0 hz1 hz2 rfl (by omega) (.slice a.hA m.H.length a.hc) m.H.length (m.H.flatMap encRx) rfl (HRW.out _ (HX6.out.alloc HX6.out.size _)).hrow ⟨w6.heap.size, 0, none⟩ 1 1 [.int .i64 (k : Int), .int .i64 t.tx, .int .i64 t.try_, .int .i64 how, .int .i64 t.rv, .int .i64 t.wv, .slice A5 nR c5, .slice A6 nW c6, .int .i64 t.fr, .int .i64 m.time] rfl rfl (by intro j u hu; rw [add_none, Nat.zero_add, (Blk.new w6 _ _).cell]; simpa using hu) (by simp [Value.oneCell']) (by omega) (by unfold maxLen; omega) (by omega) (by have := HX6.out.size; have := HBS.out; simp; omega) _ rfl ?_
    intro g cap w7 hown7 hgrow7 hor hg7
    have hfar := (HRW.out _ (HX6.out.alloc HX6.out.size (.cells #[.int .i64 (k : Int), .int .i64 t.tx, .int .i64 t.try_, .int .i64 how, .int .i64 t.rv, .int .i64 t.wv, .slice A5 nR c5, .slice A6 nW c6, .int .i64 t.fr, .int .i64 m.time] 50))).hfar hgrow7
    have HEND := Lib.hid (tell_end (how := how) H1.out HX5.out HB6.out (prow_len HO5.out HNR.out) (prow_len HO6.out HNW.out) ((Below.refl w6.heap.size w6).alloc (Nat.le_refl _) _) hgrow7 (xx := { tellR m k t how with rA := A5, rc := c5, wA := A6, wc := c6 }) rfl (by have e : encRx { tellR m k t how with rA := A5, rc := c5, wA := A6, wc := c6 } = [.int .i64 (k : Int), .int .i64 t.tx, .int .i64 t.try_, .int .i64 how, .int .i64 t.rv, .int .i64 t.wv, .slice A5 nR c5, .slice A6 nW c6, .int .i64 t.fr, .int .i64 m.time] := (by simp only [encRx, tellR]; rw [HNR.out, HNW.out]); rw [e]; exact hown7))
    have y7 : w7.cell? ⟨r, 5, none⟩ = some (.slice a.hA m.H.length a.hc) := (hfar.2 5).1.trans ((HRW.out _ (HX6.out.alloc HX6.out.size (.cells #[.int .i64 (k : Int), .int .i64 t.tx, .int .i64 t.try_, .int .i64 how, .int .i64 t.rv, .int .i64 t.wv, .slice A5 nR c5, .slice A6 nW c6, .int .i64 t.fr, .int .i64 m.time] 50))).rcells 5)
    have f7 : w7.frozen? ⟨r, 5, none⟩ = false := (hfar.2 5).2.trans ((HRW.out _ (HX6.out.alloc HX6.out.size (.cells #[.int .i64 (k : Int), .int .i64 t.tx, .int .i64 t.try_, .int .i64 how, .int .i64 t.rv, .int .i64 t.wv, .slice A5 nR c5, .slice A6 nW c6, .int .i64 t.fr, .int .i64 m.time] 50))).run.free 5)
    have HS7 := Lib.hid (fun (hrun : RunW w0 (w6.alloc (.cells #[.int .i64 (k : Int), .int .i64 t.tx, .int .i64 t.try_, .int .i64 how, .int .i64 t.rv, .int .i64 t.wv, .slice A5 nR c5, .slice A6 nW c6, .int .i64 t.fr, .int .i64 m.time] 50)) r φ a m pw pm pv (k : Int)) => (show w7.cell? ⟨a.gT, k * 11 + 1, none⟩ = some (.int .i64 t.tx) ∧ w7.cell? ⟨a.gT, k * 11 + 2, none⟩ = some (.int .i64 t.try_) ∧ w7.cell? ⟨a.gT, k * 11 + 4, none⟩ = some (.int .i64 t.rv) ∧ w7.cell? ⟨a.gT, k * 11 + 5, none⟩ = some (.int .i64 t.wv) ∧ w7.cell? ⟨a.gT, k * 11 + 7, none⟩ = some (.slice t.rA nR t.rc) ∧ w7.cell? ⟨a.gT, k * 11 + 8, none⟩ = some (.slice t.wA nW t.wc) ∧ w7.cell? ⟨a.gT, k * 11 + 10, none⟩ = some (.int .i64 t.fr) ∧ w7.cell? ⟨r, 6, none⟩ = some (.int .i64 m.time) ∧ w7.cell? ⟨r, 10, none⟩ = some (.int .i64 (k : Int)) from ⟨(hfar.1 _).trans (hrun.tcells HK.out (j := 1) rfl), (hfar.1 _).trans (hrun.tcells HK.out (j := 2) rfl), (hfar.1 _).trans (hrun.tcells HK.out (j := 4) rfl), (hfar.1 _).trans (hrun.tcells HK.out (j := 5) rfl), (hfar.1 _).trans (HNR.out ▸ hrun.tcells HK.out (j := 7) rfl), (hfar.1 _).trans (HNW.out ▸ hrun.tcells HK.out (j := 8) rfl), (hfar.1 _).trans (hrun.tcells HK.out (j := 10) rfl), (hfar.2 6).1.trans (hrun.rcells 6), (hfar.2 10).1.trans (hrun.rcells 10)⟩) )
    clear hown7 hgrow7 hor hg7 hfar
    refine hK.out _ _ ?_ (fun hbr48b49 => ?_)
    · exact HS7.out (HRW.out _ (HX6.out.alloc HX6.out.size _))
    clear hK K hbr47b48
    try simp only [Act.put, List.setIfInBounds_toArray, List.set_cons_zero, List.set_cons_succ]
    refine tkA 49 ?_
    refine tkA 50 ?_
    refine tkA 51 ?_
    refine stA 52 (fun K hK => ?_)
    go_simp
    refine hK.out _ _ ?_ (fun hbr52b53 => ?_)
    · (obtain ⟨_, φ', A', c', x', hrun, _⟩ := HEND.out; exact ⟨hrun.tcells HK.out (j := 1) rfl, hrun.tcells HK.out (j := 2) rfl, hrun.tcells HK.out (j := 4) rfl, hrun.tcells HK.out (j := 5) rfl, (by have h7 := hrun.tcells HK.out (j := 7) rfl; rw [HNR.out] at h7; exact h7), (by have h8 := hrun.tcells HK.out (j := 8) rfl; rw [HNW.out] at h8; exact h8), hrun.tcells HK.out (j := 10) rfl, hrun.rcells 6, hrun.rcells 10⟩)
    clear hK K hbr48b49
    try simp only [Act.put, List.setIfInBounds_toArray, List.set_cons_zero, List.set_cons_succ]
    refine wpAnyH_done (by kernel_rfl) ?_ _
    go_wp2
    go_end0
    exact HEND.out
  refine conA (fun K hK => ?_) ?_
  · go_simp
    refine (HSR.out _ (Below.refl _ _).drew).mono ?_
    rintro e w5 ⟨v5, rfl, ho5, hb5⟩
    obtain ⟨A5, c5, rfl, _, _⟩ := (Sl.of_own ho5).form
    have hX5 : Below w1.heap.size w1 w5 := (Below.refl _ _).drew.trans hb5
    have y5 := (hX5.cell (p := ⟨r, 5, none⟩) hR1).trans r5
    have HX5 := Lib.hid hX5
    have HO5 := Lib.hid ho5
    clear hX5 ho5 hb5
    try go_wp2_with fail
    refine hK.out _ _ ?_ (fun hbr31b54 => ?_)
    · exact HC.out _ HX5.out
    clear hK K hbr
    try simp only [Act.put, List.setIfInBounds_toArray, List.set_cons_zero, List.set_cons_succ]
    refine wpAnyH_ready (rs := [5, 36]) (by kernel_rfl) (by simp) ?_
    refine conA (fun K hK => ?_) ?_
    · go_simp
      refine hK.out _ _ ?_ (fun hbr5b55 => ?_)
      · first | exact HC.out _ (HX6.out.alloc HX6.out.size _) | exact HC.out _ (Below.refl _ _).drew | exact HC.out _ HX6.out | exact HC.out _ HX5.out
      clear hK K hbr31b54
      try simp only [Act.put, List.setIfInBounds_toArray, List.set_cons_zero, List.set_cons_succ]
      refine stA 36 (fun K hK => ?_)
      go_simp
      refine (HSW.out _ HX5.out).mono ?_
      rintro e w6 ⟨v6, rfl, ho6, hb6⟩
      obtain ⟨A6, c6, rfl, _, _⟩ := (Sl.of_own ho6).form
      have HX6 := Lib.hid (HX5.out.trans (hb6.mono HX5.out.size))
      have y6 := (HX6.out.cell (p := ⟨r, 5, none⟩) hR1).trans r5
      have HB6 := Lib.hid hb6
      have HO6 := Lib.hid ho6
      have z6 : r < w6.heap.size := Nat.lt_of_lt_of_le hR1 HX6.out.size
      clear ho6 hb6
      try go_wp2_with fail
      refine hK.out _ _ ?_ (fun hbr36b56 => ?_)
      · exact HC.out _ HX6.out
      clear hK K hbr5b55
      try simp only [Act.put, List.setIfInBounds_toArray, List.set_cons_zero, List.set_cons_succ]
      refine tkA 46 ?_
      refine stA 47 (fun K hK => ?_)
      go_simp
      refine hK.out _ _ ?_ (fun hbr47b58 => ?_)
      · exact HC.out _ (HX6.out.alloc HX6.out.size _)
      clear hK K hbr36b56
      try simp only [Act.put, List.setIfInBounds_toArray, List.set_cons_zero, List.set_cons_succ]
      refine stA 48 (fun K hK => ?_)
      refine step_append_lies _ rfl (.tmp 12) (.tmp 54) _ rfl w0.heap.size 50 i0 _ 10 112 Try.underlying32 hi0 hz0 hz1 hz2 rfl (by omega) (.slice a.hA m.H.length a.hc) m.H.length (m.H.flatMap encRx) rfl (HRW.out _ (HX6.out.alloc HX6.out.size _)).hrow ⟨w6.heap.size, 0, none⟩ 1 1 [.int .i64 (k : Int), .int .i64 t.tx, .int .i64 t.try_, .int .i64 how, .int .i64 t.rv, .int .i64 t.wv, .slice A5 nR c5, .slice A6 nW c6, .int .i64 t.fr, .int .i64 m.time] rfl rfl (by intro j u hu; rw [add_none, Nat.zero_add, (Blk.new w6 _ _).cell]; simpa using hu) (by simp [Value.oneCell']) (by omega) (by unfold maxLen; omega) (by omega) (by have := HX6.out.size; have := HBS.out; simp; omega) _ rfl ?_
      intro g cap w7 hown7 hgrow7 hor hg7
      have hfar := (HRW.out _ (HX6.out.alloc HX6.out.size (.cells #[.int .i64 (k : Int), .int .i64 t.tx, .int .i64 t.try_, .int .i64 how, .int .i64 t.rv, .int .i64 t.wv, .slice A5 nR c5, .slice A6 nW c6, .int .i64 t.fr, .int .i64 m.time] 50))).hfar hgrow7
      have HEND := Lib.hid (tell_end (how := how) H1.out HX5.out HB6.out (prow_len HO5.out HNR.out) (prow_len HO6.out HNW.out) ((Below.refl w6.heap.size w6).alloc (Nat.le_refl _) _) hgrow7 (xx := { tellR m k t how with rA := A5, rc := c5, wA := A6, wc := c6 }) rfl (by have e : encRx { tellR m k t how with rA := A5, rc := c5, wA := A6, wc := c6 } = [.int .i64 (k : Int), .int .i64 t.tx, .int .i64 t.try_, .int .i64 how, .int .i64 t.rv, .int .i64 t.wv, .slice A5 nR c5, .slice A6 nW c6, .int .i64 t.fr, .int .i64 m.time] := (by simp only [encRx, tellR]; rw [HNR.out, HNW.out]); rw [e]; exact hown7))
      have y7 : w7.cell? ⟨r, 5, none⟩ = some (.slice a.hA m.H.length a.hc) := (hfar.2 5).1.trans ((HRW.out _ (HX6.out.alloc HX6.out.size (.cells #[.int .i64 (k : Int), .int .i64 t.tx, .int .i64 t.try_, .int .i64 how, .int .i64 t.rv, .int .i64 t.wv, .slice A5 nR c5, .slice A6 nW c6, .int .i64 t.fr, .int .i64 m.time] 50))).rcells 5)
      have f7 : w7.frozen? ⟨r, 5, none⟩ = false := (hfar.2 5).2.trans ((HRW.out _ (HX6.out.alloc HX6.out.size (.cells #[.int .i64 (k : Int), .int .i64 t.tx, .int .i64 t.try_, .int .i64 how, .int .i64 t.rv, .int .i64 t.wv, .slice A5 nR c5, .slice A6 nW c6, .int .i64 t.fr, .int .i64 m.time] 50))).run.free 5)
      have HS7 := Lib.hid (fun (hrun : RunW w0 (w6.alloc (.cells #[.int .i64 (k : Int), .int .i64 t.tx, .int .i64 t.try_, .int .i64 how, .int .i64 t.rv, .int .i64 t.wv, .slice A5 nR c5, .slice A6 nW c6, .int .i64 t.fr, .int .i64 m.time] 50)) r φ a m pw pm pv (k : Int)) => (show w7.cell? ⟨a.gT, k * 11 + 1, none⟩ = some (.int .i64 t.tx) ∧ w7.cell? ⟨a.gT, k * 11 + 2, none⟩ = some (.int .i64 t.try_) ∧ w7.cell? ⟨a.gT, k * 11 + 4, none⟩ = some (.int .i64 t.rv) ∧ w7.cell? ⟨a.gT, k * 11 + 5, none⟩ = some (.int .i64 t.wv) ∧ w7.cell? ⟨a.gT, k * 11 + 7, none⟩ = some (.slice t.rA nR t.rc) ∧ w7.cell? ⟨a.gT, k * 11 + 8, none⟩ = some (.slice t.wA nW t.wc) ∧ w7.cell? ⟨a.gT, k * 11 + 10, none⟩ = some (.int .i64 t.fr) ∧ w7.cell? ⟨r, 6, none⟩ = some (.int .i64 m.time) ∧ w7.cell? ⟨r, 10, none⟩ = some (.int .i64 (k : Int)) from ⟨(hfar.1 _).trans (hrun.tcells HK.out (j := 1) rfl), (hfar.1 _).trans (hrun.tcells HK.out (j := 2) rfl), (hfar.1 _).trans (hrun.tcells HK.out (j := 4) rfl), (hfar.1 _).trans (hrun.tcells HK.out (j := 5) rfl), (hfar.1 _).trans (HNR.out ▸ hrun.tcells HK.out (j := 7) rfl), (hfar.1 _).trans (HNW.out ▸ hrun.tcells HK.out (j := 8) rfl), (hfar.1 _).trans (hrun.tcells HK.out (j := 10) rfl), (hfar.2 6).1.trans (hrun.rcells 6), (hfar.2 10).1.trans (hrun.rcells 10)⟩) )
      clear hown7 hgrow7 hor hg7 hfar
      refine hK.out _ _ ?_ (fun hbr48b59 => ?_)
      · exact HS7.out (HRW.out _ (HX6.out.alloc HX6.out.size _))
      clear hK K hbr47b58
      try simp only [Act.put, List.setIfInBounds_toArray, List.set_cons_zero, List.set_cons_succ]
      refine tkA 49 ?_
      refine tkA 50 ?_
      refine tkA 51 ?_
      refine stA 52 (fun K hK => ?_)
      go_simp
      refine hK.out _ _ ?_ (fun hbr52b63 => ?_)
      · (obtain ⟨_, φ', A', c', x', hrun, _⟩ := HEND.out; exact ⟨hrun.tcells HK.out (j := 1) rfl, hrun.tcells HK.out (j := 2) rfl, hrun.tcells HK.out (j := 4) rfl, hrun.tcells HK.out (j := 5) rfl, (by have h7 := hrun.tcells HK.out (j := 7) rfl; rw [HNR.out] at h7; exact h7), (by have h8 := hrun.tcells HK.out (j := 8) rfl; rw [HNW.out] at h8; exact h8), hrun.tcells HK.out (j := 10) rfl, hrun.rcells 6, hrun.rcells 10⟩)
      clear hK K hbr48b59
      try simp only [Act.put, List.setIfInBounds_toArray, List.set_cons_zero, List.set_cons_succ]
      refine wpAnyH_done (by kernel_rfl) ?_ _
      go_wp2
      go_end0
      exact HEND.out
    refine conA (fun K hK => ?_) ?_
    · go_simp
      refine (HSW.out _ HX5.out).mono ?_
      rintro e w6 ⟨v6, rfl, ho6, hb6⟩
      obtain ⟨A6, c6, rfl, _, _⟩ := (Sl.of_own ho6).form
      have HX6 := Lib.hid (HX5.out.trans (hb6.mono HX5.out.size))
      have y6 := (HX6.out.cell (p := ⟨r, 5, none⟩) hR1).trans r5
      have HB6 := Lib.hid hb6
      have HO6 := Lib.hid ho6
      have z6 : r < w6.heap.size := Nat.lt_of_lt_of_le hR1 HX6.out.size
      clear ho6 hb6
      try go_wp2_with fail
      refine hK.out _ _ ?_ (fun hbr36b64 => ?_)
      · exact HC.out _ HX6.out
      clear hK K hbr31b54
      try simp only [Act.put, List.setIfInBounds_toArray, List.set_cons_zero, List.set_cons_succ]
      refine tkA 46 ?_
      refine wpAnyH_ready (rs := [5, 47]) (by kernel_rfl) (by simp) ?_
      refine conA (fun K hK => ?_) ?_
      · go_simp
        refine hK.out _ _ ?_ (fun hbr5b66 => ?_)
        · first | exact HC.out _ (HX6.out.alloc HX6.out.size _) | exact HC.out _ (Below.refl _ _).drew | exact HC.out _ HX6.out | exact HC.out _ HX5.out
        clear hK K hbr36b64
        try simp only [Act.put, List.setIfInBounds_toArray, List.set_cons_zero, List.set_cons_succ]
        refine stA 47 (fun K hK => ?_)
        go_simp
        refine hK.out _ _ ?_ (fun hbr47b67 => ?_)
        · exact HC.out _ (HX6.out.alloc HX6.out.size _)
        clear hK K hbr5b66
        try simp only [Act.put, List.setIfInBounds_toArray, List.set_cons_zero, List.set_cons_succ]
        refine stA 48 (fun K hK => ?_)
        refine step_append_lies _ rfl (.tmp 12) (.tmp 54) _ rfl w0.heap.size 50 i0 _ 10 112 Try.underlying32 hi0 hz0 hz1 hz2 rfl (by omega) (.slice a.hA m.H.length a.hc) m.H.length (m.H.flatMap encRx) rfl (HRW.out _ (HX6.out.alloc HX6.out.size _)).hrow ⟨w6.heap.size, 0, none⟩ 1 1 [.int .i64 (k : Int), .int .i64 t.tx, .int .i64 t.try_, .int .i64 how, .int .i64 t.rv, .int .i64 t.wv, .slice A5 nR c5, .slice A6 nW c6, .int .i64 t.fr, .int .i64 m.time] rfl rfl (by intro j u hu; rw [add_none, Nat.zero_add, (Blk.new w6 _ _).cell]; simpa using hu) (by simp [Value.oneCell']) (by omega) (by unfold maxLen; omega) (by omega) (by have := HX6.out.size; have := HBS.out; simp; omega) _ rfl ?_
        intro g cap w7 hown7 hgrow7 hor hg7
        have hfar := (HRW.out _ (HX6.out.alloc HX6.out.size (.cells #[.int .i64 (k : Int), .int .i64 t.tx, .int .i64 t.try_, .int .i64 how, .int .i64 t.rv, .int .i64 t.wv, .slice A5 nR c5, .slice A6 nW c6, .int .i64 t.fr, .int .i64 m.time] 50))).hfar hgrow7
        have HEND := Lib.hid (tell_end (how := how) H1.out HX5.out HB6.out (prow_len HO5.out HNR.out) (prow_len HO6.out HNW.out) ((Below.refl w6.heap.size w6).alloc (Nat.le_refl _) _) hgrow7 (xx := { tellR m k t how with rA := A5, rc := c5, wA := A6, wc := c6 }) rfl (by have e : encRx { tellR m k t how with rA := A5, rc := c5, wA := A6, wc := c6 } = [.int .i64 (k : Int), .int .i64 t.tx, .int .i64 t.try_, .int .i64 how, .int .i64 t.rv, .int .i64 t.wv, .slice A5 nR c5, .slice A6 nW c6, .int .i64 t.fr, .int .i64 m.time] := (by simp only [encRx, tellR]; rw [HNR.out, HNW.out]); rw [e]; exact hown7))
        have y7 : w7.cell? ⟨r, 5, none⟩ = some (.slice a.hA m.H.length a.hc) := (hfar.2 5).1.trans ((HRW.out _ (HX6.out.alloc HX6.out.size (.cells #[.int .i64 (k : Int), .int .i64 t.tx, .int .i64 t.try_, .int .i64 how, .int .i64 t.rv, .int .i64 t.wv, .slice A5 nR c5, .slice A6 nW c6, .int .i64 t.fr, .int .i64 m.time] 50))).rcells 5)
        have f7 : w7.frozen? ⟨r, 5, none⟩ = false := (hfar.2 5).2.trans ((HRW.out _ (HX6.out.alloc HX6.out.size (.cells #[.int .i64 (k : Int), .int .i64 t.tx, .int .i64 t.try_, .int .i64 how, .int .i64 t.rv, .int .i64 t.wv, .slice A5 nR c5, .slice A6 nW c6, .int .i64 t.fr, .int .i64 m.time] 50))).run.free 5)
        have HS7 := Lib.hid (fun (hrun : RunW w0 (w6.alloc (.cells #[.int .i64 (k : Int), .int .i64 t.tx, .int .i64 t.try_, .int .i64 how, .int .i64 t.rv, .int .i64 t.wv, .slice A5 nR c5, .slice A6 nW c6, .int .i64 t.fr, .int .i64 m.time] 50)) r φ a m pw pm pv (k : Int)) => (show w7.cell? ⟨a.gT, k * 11 + 1, none⟩ = some (.int .i64 t.tx) ∧ w7.cell? ⟨a.gT, k * 11 + 2, none⟩ = some (.int .i64 t.try_) ∧ w7.cell? ⟨a.gT, k * 11 + 4, none⟩ = some (.int .i64 t.rv) ∧ w7.cell? ⟨a.gT, k * 11 + 5, none⟩ = some (.int .i64 t.wv) ∧ w7.cell? ⟨a.gT, k * 11 + 7, none⟩ = some (.slice t.rA nR t.rc) ∧ w7.cell? ⟨a.gT, k * 11 + 8, none⟩ = some (.slice t.wA nW t.wc) ∧ w7.cell? ⟨a.gT, k * 11 + 10, none⟩ = some (.int .i64 t.fr) ∧ w7.cell? ⟨r, 6, none⟩ = some (.int .i64 m.time) ∧ w7.cell? ⟨r, 10, none⟩ = some (.int .i64 (k : Int)) from ⟨(hfar.1 _).trans (hrun.tcells HK.out (j := 1) rfl), (hfar.1 _).trans (hrun.tcells HK.out (j := 2) rfl), (hfar.1 _).trans (hrun.tcells HK.out (j := 4) rfl), (hfar.1 _).trans (hrun.tcells HK.out (j := 5) rfl), (hfar.1 _).trans (HNR.out ▸ hrun.tcells HK.out (j := 7) rfl), (hfar.1 _).trans (HNW.out ▸ hrun.tcells HK.out (j := 8) rfl), (hfar.1 _).trans (hrun.tcells HK.out (j := 10) rfl), (hfar.2 6).1.trans (hrun.rcells 6), (hfar.2 10).1.trans (hrun.rcells 10)⟩) )
        clear hown7 hgrow7 hor hg7 hfar
        refine hK.out _ _ ?_ (fun hbr48b68 => ?_)
        · exact HS7.out (HRW.out _ (HX6.out.alloc HX6.out.size _))
        clear hK K hbr47b67
        try simp only [Act.put, List.setIfInBounds_toArray, List.set_cons_zero, List.set_cons_succ]
        refine tkA 49 ?_
        refine tkA 50 ?_
        refine tkA 51 ?_
        refine stA 52 (fun K hK => ?_)
        go_simp
        refine hK.out _ _ ?_ (fun hbr52b72 => ?_)
        · (obtain ⟨_, φ', A', c', x', hrun, _⟩ := HEND.out; exact ⟨hrun.tcells HK.out (j := 1) rfl, hrun.tcells HK.out (j := 2) rfl, hrun.tcells HK.out (j := 4) rfl, hrun.tcells HK.out (j := 5) rfl, (by have h7 := hrun.tcells HK.out (j := 7) rfl; rw [HNR.out] at h7; exact h7), (by have h8 := hrun.tcells HK.out (j := 8) rfl; rw [HNW.out] at h8; exact h8), hrun.tcells HK.out (j := 10) rfl, hrun.rcells 6, hrun.rcells 10⟩)
        clear hK K hbr48b68
        try simp only [Act.put, List.setIfInBounds_toArray, List.set_cons_zero, List.set_cons_succ]
        refine wpAnyH_done (by kernel_rfl) ?_ _
        go_wp2
        go_end0
        exact HEND.out
      refine conA (fun K hK => ?_) ?_
      · go_simp
        refine hK.out _ _ ?_ (fun hbr47b73 => ?_)
        · exact HC.out _ (HX6.out.alloc HX6.out.size _)
        clear hK K hbr36b64
        try simp only [Act.put, List.setIfInBounds_toArray, List.set_cons_zero, List.set_cons_succ]
        refine stA 5 (fun K hK => ?_)
        go_simp
        refine hK.out _ _ ?_ (fun hbr5b74 => ?_)
        · first | exact HC.out _ (HX6.out.alloc HX6.out.size _) | exact HC.out _ (Below.refl _ _).drew | exact HC.out _ HX6.out | exact HC.out _ HX5.out
        clear hK K hbr47b73
        try simp only [Act.put, List.setIfInBounds_toArray, List.set_cons_zero, List.set_cons_succ]
        refine stA 48 (fun K hK => ?_)
        refine step_append_lies _ rfl (.tmp 12) (.tmp 54) _ rfl w0.heap.size 50 i0 _ 10 112 Try.underlying32 hi0 hz0 hz1 hz2 rfl (by omega) (.slice a.hA m.H.length a.hc) m.H.length (m.H.flatMap encRx) rfl (HRW.out _ (HX6.out.alloc HX6.out.size _)).hrow ⟨w6.heap.size, 0, none⟩ 1 1 [.int .i64 (k : Int), .int .i64 t.tx, .int .i64 t.try_, .int .i64 how, .int .i64 t.rv, .int .i64 t.wv, .slice A5 nR c5, .slice A6 nW c6, .int .i64 t.fr, .int .i64 m.time] rfl rfl (by intro j u hu; rw [add_none, Nat.zero_add, (Blk.new w6 _ _).cell]; simpa using hu) (by simp [Value.oneCell']) (by omega) (by unfold maxLen; omega) (by omega) (by have := HX6.out.size; have := HBS.out; simp; omega) _ rfl ?_
        intro g cap w7 hown7 hgrow7 hor hg7
        have hfar := (HRW.out _ (HX6.out.alloc HX6.out.size (.cells #[.int .i64 (k : Int), .int .i64 t.tx, .int .i64 t.try_, .int .i64 how, .int .i64 t.rv, .int .i64 t.wv, .slice A5 nR c5, .slice A6 nW c6, .int .i64 t.fr, .int .i64 m.time] 50))).hfar hgrow7
        have HEND := Lib.hid (tell_end (how := how) H1.out HX5.out HB6.out (prow_len HO5.out HNR.out) (prow_len HO6.out HNW.out) ((Below.refl w6.heap.size w6).alloc (Nat.le_refl _) _) hgrow7 (xx := { tellR m k t how with rA := A5, rc := c5, wA := A6, wc := c6 }) rfl (by have e : encRx { tellR m k t how with rA := A5, rc := c5, wA := A6, wc := c6 } = [.int .i64 (k : Int), .int .i64 t.tx, .int .i64 t.try_, .int .i64 how, .int .i64 t.rv, .int .i64 t.wv, .slice A5 nR c5, .slice A6 nW c6, .int .i64 t.fr, .int .i64 m.time] := (by simp only [encRx, tellR]; rw [HNR.out, HNW.out]); rw [e]; exact hown7))
        have y7 : w7.cell? ⟨r, 5, none⟩ = some (.slice a.hA m.H.length a.hc) := (hfar.2 5).1.trans ((HRW.out _ (HX6.out.alloc HX6.out.size (.cells #[.int .i64 (k : Int), .int .i64 t.tx, .int .i64 t.try_, .int .i64 how, .int .i64 t.rv, .int .i64 t.wv, .slice A5 nR c5, .slice A6 nW c6, .int .i64 t.fr, .int .i64 m.time] 50))).rcells 5)
        have f7 : w7.frozen? ⟨r, 5, none⟩ = false := (hfar.2 5).2.trans ((HRW.out _ (HX6.out.alloc HX6.out.size (.cells #[.int .i64 (k : Int), .int .i64 t.tx, .int .i64 t.try_, .int .i64 how, .int .i64 t.rv, .int .i64 t.wv, .slice A5 nR c5, .slice A6 nW c6, .int .i64 t.fr, .int .i64 m.time] 50))).run.free 5)
        have HS7 := Lib.hid (fun (hrun : RunW w0 (w6.alloc (.cells #[.int .i64 (k : Int), .int .i64 t.tx, .int .i64 t.try_, .int .i64 how, .int .i64 t.rv, .int .i64 t.wv, .slice A5 nR c5, .slice A6 nW c6, .int .i64 t.fr, .int .i64 m.time] 50)) r φ a m pw pm pv (k : Int)) => (show w7.cell? ⟨a.gT, k * 11 + 1, none⟩ = some (.int .i64 t.tx) ∧ w7.cell? ⟨a.gT, k * 11 + 2, none⟩ = some (.int .i64 t.try_) ∧ w7.cell? ⟨a.gT, k * 11 + 4, none⟩ = some (.int .i64 t.rv) ∧ w7.cell? ⟨a.gT, k * 11 + 5, none⟩ = some (.int .i64 t.wv) ∧ w7.cell? ⟨a.gT, k * 11 + 7, none⟩ = some (.slice t.rA nR t.rc) ∧ w7.cell? ⟨a.gT, k * 11 + 8, none⟩ = some (.slice t.wA nW t.wc) ∧ w7.cell? ⟨a.gT, k * 11 + 10, none⟩ = some (.int .i64 t.fr) ∧ w7.cell? ⟨r, 6, none⟩ = some (.int .i64 m.time) ∧ w7.cell? ⟨r, 10, none⟩ = some (.int .i64 (k : Int)) from ⟨(hfar.1 _).trans (hrun.tcells HK.out (j := 1) rfl), (hfar.1 _).trans (hrun.tcells HK.out (j := 2) rfl), (hfar.1 _).trans (hrun.tcells HK.out (j := 4) rfl), (hfar.1 _).trans (hrun.tcells HK.out (j := 5) rfl), (hfar.1 _).trans (HNR.out ▸ hrun.tcells HK.out (j := 7) rfl), (hfar.1 _).trans (HNW.out ▸ hrun.tcells HK.out (j := 8) rfl), (hfar.1 _).trans (hrun.tcells HK.out (j := 10) rfl), (hfar.2 6).1.trans (hrun.rcells 6), (hfar.2 10).1.trans (hrun.rcells 10)⟩) )
        clear hown7 hgrow7 hor hg7 hfar
        refine hK.out _ _ ?_ (fun hbr48b75 => ?_)
        · exact HS7.out (HRW.out _ (HX6.out.alloc HX6.out.size _))
        clear hK K hbr5b74
        try simp only [Act.put, List.setIfInBounds_toArray, List.set_cons_zero, List.set_cons_succ]
        refine tkA 49 ?_
        refine tkA 50 ?_
        refine tkA 51 ?_
        refine stA 52 (fun K hK => ?_)
        go_simp
        refine hK.out _ _ ?_ (fun hbr52b79 => ?_)
        · (obtain ⟨_, φ', A', c', x', hrun, _⟩ := HEND.out; exact ⟨hrun.tcells HK.out (j := 1) rfl, hrun.tcells HK.out (j := 2) rfl, hrun.tcells HK.out (j := 4) rfl, hrun.tcells HK.out (j := 5) rfl, (by have h7 := hrun.tcells HK.out (j := 7) rfl; rw [HNR.out] at h7; exact h7), (by have h8 := hrun.tcells HK.out (j := 8) rfl; rw [HNW.out] at h8; exact h8), hrun.tcells HK.out (j := 10) rfl, hrun.rcells 6, hrun.rcells 10⟩)
        clear hK K hbr48b75
        try simp only [Act.put, List.setIfInBounds_toArray, List.set_cons_zero, List.set_cons_succ]
        refine wpAnyH_done (by kernel_rfl) ?_ _
        go_wp2
        go_end0
        exact HEND.out
      exact AllReadyH.nil
    exact AllReadyH.nil
  exact AllReadyH.nil

/-- What end leaves. -/
def DonePost (w0 : World) (r : Nat) (a : Ad) (m' : Mm) (k : Nat) (pw pm : Int) (pv : Value) (e : Ending) (w' : World) : Prop :=
  e = .returned (.tuple #[]) ∧ ∃ φ' a' m2, RunW w0 w' r φ' a' m2 pw pm pv (k : Int) ∧ m2.er = m'.er

set_option maxHeartbeats 4000000 in
theorem end_any {k : Nat} {t : Tx} (h : RunW w0 w r φ a m pw pm pv (k : Int)) (hk : m.T[k]? = some t) (how : Int) (hH : m.H.length ≤ 1000) (hR : t.R.length ≤ 1000) (hW : t.W.length ≤ 1000) (htx : 0 ≤ t.tx ∧ t.tx ≤ 1000) :
    Calls Try.prog 61 #[.pointer (some ⟨r, 0, none⟩), .int .i64 how] w (DonePost w0 r a (endM m k t how) k pw pm pv) := by
  have HT := Lib.hid (tell_any h hk how hH hR hW)
  have HO := Lib.hid (fun (w : World) φ' A c x (h : RunW w0 w r φ' { a with hA := A, hc := c } { m with H := m.H ++ [x] } pw pm pv (k : Int)) => over_any h (m := { m with H := m.H ++ [x] }) (t := t) hk how htx)
  clear h hk
  go_enter Try.func61, Try.ntmps61
  go_wp2_with fail
  refine HT.out.mono ?_
  rintro e w1 ⟨rfl, φ1, A1, c1, x1, h1, hx1⟩
  have H1 := Lib.hid h1
  have HX1 := Lib.hid hx1
  clear h1 hx1
  go_wp2_with fail
  refine (HO.out _ _ _ _ _ H1.out).mono ?_
  rintro e w2 ⟨rfl, h2⟩
  have H2 := Lib.hid h2
  clear h2
  go_wp2
  go_end0
  refine ⟨rfl, _, _, _, H2.out, ?_⟩
  unfold endM overM tellM Mm.er
  simp only [List.map_append, List.map_cons, List.map_nil, HX1.out]
  rfl
end
end Go.Proofs.Ytngimbfojccikaa
