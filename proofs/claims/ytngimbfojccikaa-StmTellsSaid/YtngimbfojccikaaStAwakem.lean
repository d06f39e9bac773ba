/- awake of foliatelaw19. -/
import Derived.Test.YtngimbfojccikaaStmTellsL
namespace Go.Proofs.Ytngimbfojccikaa
set_option linter.unusedSimpArgs false
open Go Go.RowKit
set_option linter.unusedVariables false

theorem sl_of_cells {W : World} {g k n c : Nat} {vs : List Value} (hl : vs.length = n * k) (hc : n ≤ c) (hm : c ≤ maxLen) (hg : g < W.heap.size) (h : ∀ j u, vs[j]? = some u → W.cell? ⟨g, j, none⟩ = some u) : Sl W k (.slice (some ⟨g, 0, none⟩) n c) n vs :=
  ⟨hl, .inr ⟨_, c, rfl, hc, hm, fun _ => ⟨rfl, hg, fun j u hu => by rw [Nat.zero_add]; exact h j u hu⟩⟩⟩

theorem aMem {m : Mm} (h : m.er = aM.er) : ∃ t x, m = ⟨[7], 1, 5, [⟨1, -1⟩], [t], [x], 8⟩ ∧ x.wv = 1 := by
  obtain ⟨W, now, mx, L, T, H, time⟩ := m
  unfold Mm.er aM at h
  rw [Mm.mk.injEq] at h
  obtain ⟨rfl, rfl, rfl, rfl, h5, h6, rfl⟩ := h
  obtain ⟨t, rfl⟩ : ∃ t, T = [t] := by
    have h8 := congrArg List.length h5
    simp at h8
    exact List.length_eq_one_iff.1 h8
  obtain ⟨x, rfl⟩ : ∃ t, H = [t] := by
    have h8 := congrArg List.length h6
    simp at h8
    exact List.length_eq_one_iff.1 h8
  refine ⟨t, x, rfl, ?_⟩
  have h7 := congrArg (fun l => (l.map Rx.wv)) h6
  simp at h7
  exact h7

set_option maxRecDepth 100000 in
set_option maxHeartbeats 4000000 in
theorem awake_any (w : World) : Calls Try.prog 10 #[] w fun e w' => e = .returned (.bool true) ∧ Below w.heap.size w w' := by
  obtain ⟨w1, hw1⟩ : ∃ x, (((w.alloc (.cells #[.int .i64 1, .int .i64 0, .int .i64 7] 53)).alloc (.cells #[.slice (some ⟨w.heap.size, 0, none⟩) 1 1] 51)).alloc (.cells #[.slice (some ⟨w.heap.size + 1, 0, none⟩) 1 1] 47)).alloc (.cells #[.int .i64 1, .int .i64 5, .slice (some ⟨w.heap.size + 1 + 1, 0, none⟩) 1 1] 24) = x := ⟨_, rfl⟩
  have HB := Lib.hid (show Below w.heap.size w w1 from hw1 ▸ ((((Below.refl _ w).alloc (Nat.le_refl _) _).alloc (by simp) _).alloc (by simp; omega) _).alloc (by simp; omega) _)
  have k1 : Blk w1 w.heap.size 53 #[.int .i64 1, .int .i64 0, .int .i64 7] := hw1 ▸ (((Blk.new_ w _ _ _ rfl).alloc _).alloc _).alloc _
  have k2 : Blk w1 (w.heap.size + 1) 51 #[.slice (some ⟨w.heap.size, 0, none⟩) 1 1] := hw1 ▸ ((Blk.new_ _ _ _ _ (by simp)).alloc _).alloc _
  have k3 : Blk w1 (w.heap.size + 1 + 1) 47 #[.slice (some ⟨w.heap.size + 1, 0, none⟩) 1 1] := hw1 ▸ (Blk.new_ _ _ _ _ (by simp)).alloc _
  have k4 : Blk w1 (w.heap.size + 1 + 1 + 1) 24 #[.int .i64 1, .int .i64 5, .slice (some ⟨w.heap.size + 1 + 1, 0, none⟩) 1 1] := hw1 ▸ Blk.new_ _ _ _ _ (by simp)
  have sA : AcV w1 (.slice (some ⟨w.heap.size, 0, none⟩) 1 1) [⟨1, 0, 7⟩] := sl_of_cells rfl (Nat.le_refl _) (by simp [maxLen]) k1.lt (fun j u hu => by rw [k1.cell]; simpa [encAc] using hu)
  have sT : TxV w1 (.slice (some ⟨w.heap.size + 1, 0, none⟩) 1 1) [[⟨1, 0, 7⟩]] := ⟨[.slice (some ⟨w.heap.size, 0, none⟩) 1 1], sl_of_cells rfl (Nat.le_refl _) (by simp [maxLen]) k2.lt (fun j u hu => by rw [k2.cell]; simpa using hu), fun i av l e1 e2 => by
    match i, e1, e2 with
    | 0, e1, e2 => simp at e1 e2; subst e1 e2; exact sA⟩
  have sP : PlV w1 (.slice (some ⟨w.heap.size + 1 + 1, 0, none⟩) 1 1) aP := ⟨[.slice (some ⟨w.heap.size + 1, 0, none⟩) 1 1], sl_of_cells rfl (Nat.le_refl _) (by simp [maxLen]) k3.lt (fun j u hu => by rw [k3.cell]; simpa using hu), fun i av l e1 e2 => by
    match i, e1, e2 with
    | 0, e1, e2 => simp [aP] at e1 e2; subst e1 e2; exact sT⟩
  have HSP := Lib.hid sP
  have HK4 := Lib.hid k4
  clear k1 k2 k3 sA sT sP
  go_enter Try.func10, Try.ntmps10
  go_upto_region 2 with fail
  clear hw1
  have p0 : w1.cell? ⟨w.heap.size + 1 + 1 + 1, 0, none⟩ = some (.int .i64 1) := by rw [k4.cell]; rfl
  have p1 : w1.cell? ⟨w.heap.size + 1 + 1 + 1, 1, none⟩ = some (.int .i64 5) := by rw [k4.cell]; rfl
  have p2 : w1.cell? ⟨w.heap.size + 1 + 1 + 1, 2, none⟩ = some (.slice (some ⟨w.heap.size + 1 + 1, 0, none⟩) 1 1) := by rw [k4.cell]; rfl
  have HK5 := Lib.hid (fun W (hb : Below w1.heap.size w1 W) => (show W.cell? ⟨w.heap.size + 1 + 1 + 1, 0, none⟩ = some (.int .i64 1) ∧ W.cell? ⟨w.heap.size + 1 + 1 + 1, 1, none⟩ = some (.int .i64 5) ∧ W.cell? ⟨w.heap.size + 1 + 1 + 1, 2, none⟩ = some (.slice (some ⟨w.heap.size + 1 + 1, 0, none⟩) 1 1) from ⟨by rw [(k4.keep hb).cell]; rfl, by rw [(k4.keep hb).cell]; rfl, by rw [(k4.keep hb).cell]; rfl⟩))
  have HB1 := Lib.hid ((Below.refl w1.heap.size w1).alloc (Nat.le_refl _) (.cells #[.int .i64 0, .int .i64 0, .int .i64 0, .int .i64 0, .int .i64 0, .int .i64 0, .int .i64 0, .int .i64 0] 3))
  have kz := Blk.new_ w1 3 #[.int .i64 0, .int .i64 0, .int .i64 0, .int .i64 0, .int .i64 0, .int .i64 0, .int .i64 0, .int .i64 0] _ rfl
  have HR := Lib.hid (run_yes 1 5 aP (.slice (some ⟨w.heap.size + 1 + 1, 0, none⟩) 1 1) (.slice (some ⟨w1.heap.size, 0, none⟩) 8 8) aK (w1.alloc (.cells #[.int .i64 0, .int .i64 0, .int .i64 0, .int .i64 0, .int .i64 0, .int .i64 0, .int .i64 0, .int .i64 0] 3)) (HSP.out.below HB1.out) (sl_of_cells rfl (Nat.le_refl _) (by simp [maxLen]) kz.lt (fun j u hu => by rw [kz.cell]; simpa [aK, encI] using hu)) aMay (by simp [aK]))
  rw [aRun] at HR
  clear kz k4
  go_wp2_with fail
  refine HR.out.mono ?_
  rintro e w2 ⟨a, m, rfl, hm, her, hb2⟩
  obtain ⟨t, x, rfl, hwv⟩ := aMem her
  have HB2 := Lib.hid (HB1.out.trans (hb2.mono HB1.out.size))
  have HM := Lib.hid hm
  have HER := Lib.hid her
  clear HR HB1 hb2 p0 p1 p2 her
  obtain ⟨M, hM⟩ : ∃ M, M = memCells a ⟨[7], 1, 5, [⟨1, -1⟩], [t], [x], 8⟩ := ⟨_, rfl⟩
  have HB3 := Lib.hid (HB2.out.alloc HB2.out.size (.cells (memCells a ⟨[7], 1, 5, [⟨1, -1⟩], [t], [x], 8⟩).toArray 34))
  have kM := Blk.new_ w2 34 (memCells a ⟨[7], 1, 5, [⟨1, -1⟩], [t], [x], 8⟩).toArray _ rfl
  obtain ⟨w3, hw3⟩ : ∃ z, w2.alloc (.cells (memCells a ⟨[7], 1, 5, [⟨1, -1⟩], [t], [x], 8⟩).toArray 34) = z := ⟨_, rfl⟩
  rw [hw3] at HB3 kM
  have HM3 := Lib.hid (hm.below (show Below w2.heap.size w2 w3 from hw3 ▸ (Below.refl _ _).alloc (Nat.le_refl _) _))
  have HG := Lib.hid (fun W (hb : Below w3.heap.size w3 W) => (show W.cell? ⟨w2.heap.size, 0, none⟩ = some (.slice (some ⟨a.gW, 0, none⟩) 1 a.cW) ∧ W.cell? ⟨w2.heap.size, 1, none⟩ = some (.int .i64 1) ∧ W.cell? ⟨w2.heap.size, 2, none⟩ = some (.int .i64 5) ∧ W.cell? ⟨w2.heap.size, 3, none⟩ = some (.slice a.lA 1 a.lc) ∧ W.cell? ⟨w2.heap.size, 4, none⟩ = some (.slice (some ⟨a.gT, 0, none⟩) 1 a.cT) ∧ W.cell? ⟨w2.heap.size, 5, none⟩ = some (.slice a.hA 1 a.hc) ∧ W.cell? ⟨w2.heap.size, 6, none⟩ = some (.int .i64 8) from
    ⟨by rw [(kM.keep hb).cell]; rfl, by rw [(kM.keep hb).cell]; rfl, by rw [(kM.keep hb).cell]; rfl, by rw [(kM.keep hb).cell]; rfl, by rw [(kM.keep hb).cell]; rfl, by rw [(kM.keep hb).cell]; rfl, by rw [(kM.keep hb).cell]; rfl⟩))
  have HW3 := Lib.hid hw3
  clear hm hM kM hw3
  simp only [memCells, List.length_cons, List.length_nil, Nat.zero_add] at HW3 ⊢
  go_upto_region 3 with fail
  rw [HW3.out]
  obtain ⟨bw, ow, ew, hbw, hcw⟩ := Sl.pos (xs := [(7 : Int)]) encI encI_len HM3.out.W (by simp)
  obtain ⟨bh, oh, eh, hbh, hch⟩ := Sl.pos (xs := [x]) encRx encRx_len HM3.out.H (by simp)
  injection ew with ew
  injection ew with ew1 ew2 _
  subst ew1 ew2
  have HX := Lib.hid (fun W (hb : Below w3.heap.size w3 W) => (show W.cell? ⟨a.gW, 0, none⟩ = some (.int .i64 7) ∧ W.cell? ⟨bh, oh + 5, none⟩ = some (.int .i64 1) from
    ⟨by have := hcw W hb 0 (by simp) 0 _ rfl; simpa using this, by have := hch W hb 0 (by simp) 5 _ rfl; simp only [List.getElem_cons_zero, hwv] at this; simpa using this⟩))
  clear hcw hch hbw hbh
  rw [eh] at HG ⊢
  obtain ⟨p0, p1, p2⟩ := HK5.out _ HB3.out
  obtain ⟨m0, m1, m2, m3, m4, m5, m6⟩ := HG.out _ (Below.refl _ _)
  obtain ⟨x0, x1⟩ := HX.out _ (Below.refl _ _)
  have HI := Lib.hid (fun W (hb : Below w3.heap.size w3 W) => Idle_any 1 5 aP _ a _ 0 W (HSP.out.below (HB3.out.trans (hb.mono HB3.out.size))) (HM3.out.below hb) rfl)
  rw [show idleL aP ⟨[7], 1, 5, [⟨1, -1⟩], [t], [x], 8⟩ 0 = true from by rw [← idleL_er, HER.out]; rfl] at HI
  have HMA := Lib.hid (fun W (hb : Below w3.heap.size w3 W) => may_any 1 5 aP _ W (HSP.out.below (HB3.out.trans (hb.mono HB3.out.size))))
  rw [aMay] at HMA
  have HS := Lib.hid (fun W (hb : Below w3.heap.size w3 W) => Same_any a a _ _ W (HM3.out.below hb) (HM3.out.below hb))
  rw [show memEq ⟨[7], 1, 5, [⟨1, -1⟩], [t], [x], 8⟩ ⟨[7], 1, 5, [⟨1, -1⟩], [t], [x], 8⟩ = true from (memEq_iff _ _).2 rfl] at HS
  have HBD := Lib.hid (fun W (hb : Below w3.heap.size w3 W) => Bound_any 1 5 aP _ 0 W (HSP.out.below (HB3.out.trans (hb.mono HB3.out.size))))
  rw [aBound] at HBD
  simp only [memCells, planV, eh] at HI HS HMA HBD
  go_wp2_with fail
  refine (HI.out _ (Below.refl _ _)).mono ?_
  rintro e w4 ⟨rfl, hb4⟩
  clear p0 p1 p2 m0 m1 m2 m3 m4 m5 m6 x0 x1
  obtain ⟨p0, p1, p2⟩ := HK5.out _ (HB3.out.trans (hb4.mono HB3.out.size))
  obtain ⟨m0, m1, m2, m3, m4, m5, m6⟩ := HG.out _ hb4
  obtain ⟨x0, x1⟩ := HX.out _ hb4
  go_wp2_with fail
  refine (HMA.out _ hb4).mono ?_
  rintro e w5 ⟨rfl, hb5⟩
  have hb5 := hb4.trans (hb5.mono hb4.size)
  clear p0 p1 p2 m0 m1 m2 m3 m4 m5 m6 x0 x1
  obtain ⟨p0, p1, p2⟩ := HK5.out _ (HB3.out.trans (hb5.mono HB3.out.size))
  obtain ⟨m0, m1, m2, m3, m4, m5, m6⟩ := HG.out _ hb5
  go_wp2_with fail
  refine (HS.out _ hb5).mono ?_
  rintro e w6 ⟨rfl, hb6⟩
  have hb6 := hb5.trans (hb6.mono hb5.size)
  clear p0 p1 p2 m0 m1 m2 m3 m4 m5 m6
  obtain ⟨p0, p1, p2⟩ := HK5.out _ (HB3.out.trans (hb6.mono HB3.out.size))
  go_wp2_with fail
  refine (HBD.out _ hb6).mono ?_
  rintro e w7 ⟨rfl, hb7⟩
  have hb7 := hb6.trans (hb7.mono hb6.size)
  go_wp2_with fail
  go_ret
  exact ⟨rfl, HB.out.trans ((HB3.out.trans (hb7.mono HB3.out.size)).mono HB.out.size)⟩
end Go.Proofs.Ytngimbfojccikaa
