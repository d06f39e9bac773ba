/- StmTells: printed by st_tells.py. -/
import Derived.Test.YtngimbfojccikaaStmTellsP
import Derived.Test.YtngimbfojccikaaRsSame3m
import Derived.Test.YtngimbfojccikaaRsMaym
import Derived.Test.YtngimbfojccikaaStmTellsQ
import Derived.Test.YtngimbfojccikaaStmTellsQ
import Derived.Test.YtngimbfojccikaaStAwakem
namespace Go.Proofs.Ytngimbfojccikaa
set_option linter.unusedSimpArgs false
open Go Go.RowKit
set_option linter.unusedVariables false

theorem plan_size3 : (Try.prog.info? 24).map (·.size) = some 3 := by kernel_rfl
theorem memEq_of {m n s : Mm} (h1 : m.er = s.er) (h2 : n.er = s.er) : memEq m n = true := (memEq_iff m n).2 (h1.trans h2.symm)

set_option maxRecDepth 100000 in
set_option maxHeartbeats 16000000 in
theorem stmTells_walk (w : World) (words mx : Int) (pv : Value) (pl : List (List (List Ac))) (hpl : PlV w pv pl) (ww : okI words) (wm : okI mx) (kv : Value) (picks : List Int) (hkv : Sl w 1 kv picks.length (picks.flatMap encI)) (hok : ∀ q ∈ picks, okI q) (who : Int) (hwho : okI who) :
    Calls Try.prog 3 #[planV words mx pv, kv, .int .i64 who] w fun e w' => e = .returned (.bool true) ∧ Below w.heap.size w w' := by
  obtain ⟨A, c, rfl, _, _⟩ := hpl.form
  obtain ⟨kA, kc, rfl, _, _⟩ := hkv.form
  have kP := Blk.new_ w 24 #[.int .i64 words, .int .i64 mx, .slice A pl.length c] _ rfl
  have bP : Below w.heap.size w (w.alloc (.cells #[.int .i64 words, .int .i64 mx, .slice A pl.length c] 24)) := (Below.refl _ w).alloc (Nat.le_refl _) _
  obtain ⟨w1, hw1⟩ : ∃ z, w.alloc (.cells #[.int .i64 words, .int .i64 mx, .slice A pl.length c] 24) = z := ⟨_, rfl⟩
  rw [hw1] at kP bP
  have HB1 := Lib.hid bP
  have HP := Lib.hid (fun W (hb : Below w1.heap.size w1 W) => (show W.cell? ⟨w.heap.size, 0, none⟩ = some (.int .i64 words) ∧ W.cell? ⟨w.heap.size, 1, none⟩ = some (.int .i64 mx) ∧ W.cell? ⟨w.heap.size, 2, none⟩ = some (.slice A pl.length c) from ⟨by rw [(kP.keep hb).cell]; rfl, by rw [(kP.keep hb).cell]; rfl, by rw [(kP.keep hb).cell]; rfl⟩))
  have HPV := Lib.hid (fun W (hb : Below w1.heap.size w1 W) => (hpl.below bP).below hb)
  have HKV := Lib.hid (fun W (hb : Below w1.heap.size w1 W) => (hkv.below bP).below hb)
  have HF := Lib.hid (fun W (hb : Below w1.heap.size w1 W) => few19_any words mx pl _ kA picks.length kc W (HPV.out W hb))
  have HR1 := Lib.hid (fun W (hb : Below w1.heap.size w1 W) (hl : picks.length ≤ 900) => run_gen words mx pl _ (.slice kA picks.length kc) who picks W (HPV.out W hb) (HKV.out W hb) hl)
  have HR2 := Lib.hid (fun W (hb : Below w1.heap.size w1 W) (hl : picks.length ≤ 900) => rrun_gen words mx pl _ (.slice kA picks.length kc) picks W (HPV.out W hb) (HKV.out W hb) hl)
  have HR3 := Lib.hid (fun W (hb : Below w1.heap.size w1 W) => run_gen words mx pl _ (.slice none 0 0) who [] W (HPV.out W hb) (Sl.nil W 1) (by simp))
  have HMY := Lib.hid (fun W (hb : Below w1.heap.size w1 W) => may_any words mx pl _ W (HPV.out W hb))
  have HRM := Lib.hid (fun W (hb : Below w1.heap.size w1 W) => rpmay_any words mx pl _ W (HPV.out W hb))
  have HBD := Lib.hid (fun W (hb : Below w1.heap.size w1 W) => Bound_any words mx pl _ who W (HPV.out W hb))
  have HRB := Lib.hid (fun W (hb : Below w1.heap.size w1 W) => rBound_any words mx pl _ who W (HPV.out W hb))
  have HW1 := Lib.hid hw1
  obtain ⟨n, hn⟩ : ∃ n, n = pl.length := ⟨_, rfl⟩
  obtain ⟨np, hnp⟩ : ∃ n, n = picks.length := ⟨_, rfl⟩
  have HN := Lib.hid hn
  have HNP := Lib.hid hnp
  have HOK := Lib.hid hok
  have HWW := Lib.hid (And.intro ww wm)
  rw [← hn] at HP HR1 HR2 HR3 HMY HRM HBD HRB HW1 HF HPV
  rw [← hnp] at HF HR1 HR2
  rw [← hn, ← hnp]
  clear kP bP hw1 hpl hkv hn hnp hok ww wm
  simp only [planV] at HF HMY HRM HBD HRB ⊢
  go_enter Try.func3, Try.ntmps3
  go_upto_region 1 with fail
  rw [HW1.out]
  go_wp2_with fail
  refine (awake_any _).mono ?_
  rintro e w2 ⟨rfl, hb2⟩
  have HB2 := Lib.hid hb2
  obtain ⟨p0, p1, p2⟩ := HP.out _ hb2
  clear hb2
  go_wp2_with fail
  refine (HF.out _ HB2.out).mono ?_
  rintro e w3 ⟨fb, rfl, hfew, hb3⟩
  have HB3 := Lib.hid (HB2.out.trans (hb3.mono HB2.out.size))
  clear p0 p1 p2 hb3
  cases fb with
  | false =>
    clear hfew
    go_wp2_with fail
    go_ret
    exact ⟨rfl, HB1.out.trans (HB3.out.mono HB1.out.size)⟩
  | true =>
  have hf := hfew rfl
  have HFW := Lib.hid hf
  clear hfew hf
  obtain ⟨p0, p1, p2⟩ := HP.out _ HB3.out
  have HL := Lib.hid (show np ≤ 900 by have := HFW.out.2; omega)
  obtain ⟨may, hmay⟩ : ∃ z, z = mayP words mx pl := ⟨_, rfl⟩
  obtain ⟨sA, hsA⟩ : ∃ z, z = specG words mx pl picks := ⟨_, rfl⟩
  obtain ⟨sB, hsB⟩ : ∃ z, z = specG words mx pl [] := ⟨_, rfl⟩
  obtain ⟨bnd, hbnd⟩ : ∃ z, z = boundL words mx pl who := ⟨_, rfl⟩
  rw [← hmay] at HR1 HR2 HR3 HMY HRM
  rw [← hsA] at HR1 HR2
  rw [← hsB] at HR3
  rw [← hbnd] at HBD HRB
  clear hmay hsA hsB hbnd
  go_wp2_with fail
  refine (HR1.out _ HB3.out HL.out).mono ?_
  rintro e w6a ⟨p, m, rfl, hm, her, hid, hb4⟩
  have HB4 := Lib.hid (HB3.out.trans (hb4.mono HB3.out.size))
  have HERm := Lib.hid her
  clear p0 p1 p2 her
  have kM := Blk.new_ w6a 34 (p.cells m).toArray _ rfl
  obtain ⟨w6b, hw5⟩ : ∃ z, w6a.alloc (.cells (p.cells m).toArray 34) = z := ⟨_, rfl⟩
  have HMm := Lib.hid (fun W (hb : Below w6b.heap.size w6b W) => (show MemG W p m from (hm.below (show Below w6a.heap.size w6a w6b from hw5 ▸ (Below.refl _ _).alloc (Nat.le_refl _) _)).below hb))
  obtain ⟨id, hid⟩ := hid
  simp only [planV] at hid
  have HID := Lib.hid (fun W (hb : Below w6b.heap.size w6b W) (h1 : Below w1.heap.size w1 W) => hid W ((show Below w6a.heap.size w6a w6b from hw5 ▸ (Below.refl _ _).alloc (Nat.le_refl _) _).trans (hb.mono (by rw [← hw5]; simp))) (HPV.out W h1))
  clear hid
  have HB6b := Lib.hid (show Below w1.heap.size w1 w6b from hw5 ▸ HB4.out.alloc HB4.out.size _)
  rw [hw5] at kM
  obtain ⟨m0, mc0, m3, mc3, m4, mc4, m5, mc5⟩ := p
  have HKm := Lib.hid (fun W (hb : Below w6b.heap.size w6b W) => (show W.rangeAt w6a.heap.size 0 [.slice m0 m.W.length mc0, .int .i64 m.now, .int .i64 m.mx, .slice m3 m.L.length mc3, .slice m4 m.T.length mc4, .slice m5 m.H.length mc5, .int .i64 m.time] from fun j v hv => by rw [Nat.zero_add, (kM.keep hb).cell, List.getElem?_toArray]; exact hv))
  have HGm := Lib.hid (fun W (hb : Below w6b.heap.size w6b W) => (show W.cell? ⟨w6a.heap.size, 0, none⟩ = some (.slice m0 m.W.length mc0) ∧ W.cell? ⟨w6a.heap.size, 1, none⟩ = some (.int .i64 m.now) ∧ W.cell? ⟨w6a.heap.size, 2, none⟩ = some (.int .i64 m.mx) ∧ W.cell? ⟨w6a.heap.size, 3, none⟩ = some (.slice m3 m.L.length mc3) ∧ W.cell? ⟨w6a.heap.size, 4, none⟩ = some (.slice m4 m.T.length mc4) ∧ W.cell? ⟨w6a.heap.size, 5, none⟩ = some (.slice m5 m.H.length mc5) ∧ W.cell? ⟨w6a.heap.size, 6, none⟩ = some (.int .i64 m.time) from ⟨by rw [(kM.keep hb).cell]; rfl, by rw [(kM.keep hb).cell]; rfl, by rw [(kM.keep hb).cell]; rfl, by rw [(kM.keep hb).cell]; rfl, by rw [(kM.keep hb).cell]; rfl, by rw [(kM.keep hb).cell]; rfl, by rw [(kM.keep hb).cell]; rfl⟩))
  have HW5 := Lib.hid hw5
  have HS6 := Lib.hid (show Below w3.heap.size w3 w6b from hw5 ▸ hb4.alloc hb4.size _)
  clear hm kM hw5 HB4 hb4
  simp only [Mv.cells] at HW5 HID ⊢
  go_upto_region 6 with fail
  rw [HW5.out]
  clear HW5
  obtain ⟨p0, p1, p2⟩ := HP.out _ HB6b.out
  go_wp2_with fail
  refine (HR2.out _ HB6b.out HL.out).mono ?_
  rintro e w7a ⟨p, r, rfl, hm, her, hb4⟩
  have HB4 := Lib.hid (HB6b.out.trans (hb4.mono HB6b.out.size))
  have HERr := Lib.hid her
  clear p0 p1 p2 her
  have kM := Blk.new_ w7a 34 (p.cells r).toArray _ rfl
  obtain ⟨w7b, hw5⟩ : ∃ z, w7a.alloc (.cells (p.cells r).toArray 34) = z := ⟨_, rfl⟩
  have HMr := Lib.hid (fun W (hb : Below w7b.heap.size w7b W) => (show MemG W p r from (hm.below (show Below w7a.heap.size w7a w7b from hw5 ▸ (Below.refl _ _).alloc (Nat.le_refl _) _)).below hb))
  have HB7b := Lib.hid (show Below w1.heap.size w1 w7b from hw5 ▸ HB4.out.alloc HB4.out.size _)
  rw [hw5] at kM
  obtain ⟨r0, rc0, r3, rc3, r4, rc4, r5, rc5⟩ := p
  have HKr := Lib.hid (fun W (hb : Below w7b.heap.size w7b W) => (show W.rangeAt w7a.heap.size 0 [.slice r0 r.W.length rc0, .int .i64 r.now, .int .i64 r.mx, .slice r3 r.L.length rc3, .slice r4 r.T.length rc4, .slice r5 r.H.length rc5, .int .i64 r.time] from fun j v hv => by rw [Nat.zero_add, (kM.keep hb).cell, List.getElem?_toArray]; exact hv))
  have HGr := Lib.hid (fun W (hb : Below w7b.heap.size w7b W) => (show W.cell? ⟨w7a.heap.size, 0, none⟩ = some (.slice r0 r.W.length rc0) ∧ W.cell? ⟨w7a.heap.size, 1, none⟩ = some (.int .i64 r.now) ∧ W.cell? ⟨w7a.heap.size, 2, none⟩ = some (.int .i64 r.mx) ∧ W.cell? ⟨w7a.heap.size, 3, none⟩ = some (.slice r3 r.L.length rc3) ∧ W.cell? ⟨w7a.heap.size, 4, none⟩ = some (.slice r4 r.T.length rc4) ∧ W.cell? ⟨w7a.heap.size, 5, none⟩ = some (.slice r5 r.H.length rc5) ∧ W.cell? ⟨w7a.heap.size, 6, none⟩ = some (.int .i64 r.time) from ⟨by rw [(kM.keep hb).cell]; rfl, by rw [(kM.keep hb).cell]; rfl, by rw [(kM.keep hb).cell]; rfl, by rw [(kM.keep hb).cell]; rfl, by rw [(kM.keep hb).cell]; rfl, by rw [(kM.keep hb).cell]; rfl, by rw [(kM.keep hb).cell]; rfl⟩))
  have HW5 := Lib.hid hw5
  have HS7 := Lib.hid (show Below w6b.heap.size w6b w7b from hw5 ▸ hb4.alloc hb4.size _)
  clear hm kM hw5 HB4 hb4
  simp only [Mv.cells] at HW5 ⊢
  go_upto_region 7 with fail
  rw [HW5.out]
  clear HW5
  obtain ⟨p0, p1, p2⟩ := HP.out _ HB7b.out
  go_wp2_with fail
  refine (HR3.out _ HB7b.out).mono ?_
  rintro e w8a ⟨p, o, rfl, hm, her, -, hb4⟩
  have HB4 := Lib.hid (HB7b.out.trans (hb4.mono HB7b.out.size))
  have HERo := Lib.hid her
  clear p0 p1 p2 her
  have kM := Blk.new_ w8a 34 (p.cells o).toArray _ rfl
  obtain ⟨w8b, hw5⟩ : ∃ z, w8a.alloc (.cells (p.cells o).toArray 34) = z := ⟨_, rfl⟩
  have HMo := Lib.hid (fun W (hb : Below w8b.heap.size w8b W) => (show MemG W p o from (hm.below (show Below w8a.heap.size w8a w8b from hw5 ▸ (Below.refl _ _).alloc (Nat.le_refl _) _)).below hb))
  have HB8b := Lib.hid (show Below w1.heap.size w1 w8b from hw5 ▸ HB4.out.alloc HB4.out.size _)
  rw [hw5] at kM
  obtain ⟨o0, oc0, o3, oc3, o4, oc4, o5, oc5⟩ := p
  have HKo := Lib.hid (fun W (hb : Below w8b.heap.size w8b W) => (show W.rangeAt w8a.heap.size 0 [.slice o0 o.W.length oc0, .int .i64 o.now, .int .i64 o.mx, .slice o3 o.L.length oc3, .slice o4 o.T.length oc4, .slice o5 o.H.length oc5, .int .i64 o.time] from fun j v hv => by rw [Nat.zero_add, (kM.keep hb).cell, List.getElem?_toArray]; exact hv))
  have HGo := Lib.hid (fun W (hb : Below w8b.heap.size w8b W) => (show W.cell? ⟨w8a.heap.size, 0, none⟩ = some (.slice o0 o.W.length oc0) ∧ W.cell? ⟨w8a.heap.size, 1, none⟩ = some (.int .i64 o.now) ∧ W.cell? ⟨w8a.heap.size, 2, none⟩ = some (.int .i64 o.mx) ∧ W.cell? ⟨w8a.heap.size, 3, none⟩ = some (.slice o3 o.L.length oc3) ∧ W.cell? ⟨w8a.heap.size, 4, none⟩ = some (.slice o4 o.T.length oc4) ∧ W.cell? ⟨w8a.heap.size, 5, none⟩ = some (.slice o5 o.H.length oc5) ∧ W.cell? ⟨w8a.heap.size, 6, none⟩ = some (.int .i64 o.time) from ⟨by rw [(kM.keep hb).cell]; rfl, by rw [(kM.keep hb).cell]; rfl, by rw [(kM.keep hb).cell]; rfl, by rw [(kM.keep hb).cell]; rfl, by rw [(kM.keep hb).cell]; rfl, by rw [(kM.keep hb).cell]; rfl, by rw [(kM.keep hb).cell]; rfl⟩))
  have HW5 := Lib.hid hw5
  have HS8 := Lib.hid (show Below w7b.heap.size w7b w8b from hw5 ▸ hb4.alloc hb4.size _)
  clear hm kM hw5 HB4 hb4
  simp only [Mv.cells] at HW5 ⊢
  go_upto_region 8 with fail
  rw [HW5.out]
  clear HW5
  obtain ⟨p0, p1, p2⟩ := HP.out _ HB8b.out
  clear p0 p1 p2
  have HX8 := HS8
  have HX7 := Lib.hid (HS7.out.trans (HX8.out.mono HS7.out.size))
  have HALL := Lib.hid (fun W (hb : Below w8b.heap.size w8b W) => (show (W.cell? ⟨w6a.heap.size, 0, none⟩ = some (.slice m0 m.W.length mc0) ∧ W.cell? ⟨w6a.heap.size, 1, none⟩ = some (.int .i64 m.now) ∧ W.cell? ⟨w6a.heap.size, 2, none⟩ = some (.int .i64 m.mx) ∧ W.cell? ⟨w6a.heap.size, 3, none⟩ = some (.slice m3 m.L.length mc3) ∧ W.cell? ⟨w6a.heap.size, 4, none⟩ = some (.slice m4 m.T.length mc4) ∧ W.cell? ⟨w6a.heap.size, 5, none⟩ = some (.slice m5 m.H.length mc5) ∧ W.cell? ⟨w6a.heap.size, 6, none⟩ = some (.int .i64 m.time)) ∧ (W.cell? ⟨w7a.heap.size, 0, none⟩ = some (.slice r0 r.W.length rc0) ∧ W.cell? ⟨w7a.heap.size, 1, none⟩ = some (.int .i64 r.now) ∧ W.cell? ⟨w7a.heap.size, 2, none⟩ = some (.int .i64 r.mx) ∧ W.cell? ⟨w7a.heap.size, 3, none⟩ = some (.slice r3 r.L.length rc3) ∧ W.cell? ⟨w7a.heap.size, 4, none⟩ = some (.slice r4 r.T.length rc4) ∧ W.cell? ⟨w7a.heap.size, 5, none⟩ = some (.slice r5 r.H.length rc5) ∧ W.cell? ⟨w7a.heap.size, 6, none⟩ = some (.int .i64 r.time)) ∧ (W.cell? ⟨w8a.heap.size, 0, none⟩ = some (.slice o0 o.W.length oc0) ∧ W.cell? ⟨w8a.heap.size, 1, none⟩ = some (.int .i64 o.now) ∧ W.cell? ⟨w8a.heap.size, 2, none⟩ = some (.int .i64 o.mx) ∧ W.cell? ⟨w8a.heap.size, 3, none⟩ = some (.slice o3 o.L.length oc3) ∧ W.cell? ⟨w8a.heap.size, 4, none⟩ = some (.slice o4 o.T.length oc4) ∧ W.cell? ⟨w8a.heap.size, 5, none⟩ = some (.slice o5 o.H.length oc5) ∧ W.cell? ⟨w8a.heap.size, 6, none⟩ = some (.int .i64 o.time)) ∧ (W.cell? ⟨w.heap.size, 0, none⟩ = some (.int .i64 words) ∧ W.cell? ⟨w.heap.size, 1, none⟩ = some (.int .i64 mx) ∧ W.cell? ⟨w.heap.size, 2, none⟩ = some (.slice A n c)) from ⟨HGm.out W (HX7.out.trans (hb.mono HX7.out.size)), HGr.out W (HX8.out.trans (hb.mono HX8.out.size)), HGo.out W hb, HP.out W (HB8b.out.trans (hb.mono HB8b.out.size))⟩))
  have HSmn := Lib.hid (fun W (hb : Below w8b.heap.size w8b W) => rSame_any ⟨m0, mc0, m3, mc3, m4, mc4, m5, mc5⟩ ⟨r0, rc0, r3, rc3, r4, rc4, r5, rc5⟩ m r W (HMm.out W (HX7.out.trans (hb.mono HX7.out.size))) (HMr.out W (HX8.out.trans (hb.mono HX8.out.size))))
  have HSmo := Lib.hid (fun W (hb : Below w8b.heap.size w8b W) => rSame_any ⟨m0, mc0, m3, mc3, m4, mc4, m5, mc5⟩ ⟨o0, oc0, o3, oc3, o4, oc4, o5, oc5⟩ m o W (HMm.out W (HX7.out.trans (hb.mono HX7.out.size))) (HMo.out W hb))
  have HTmo := Lib.hid (fun W (hb : Below w8b.heap.size w8b W) => SameG_any ⟨m0, mc0, m3, mc3, m4, mc4, m5, mc5⟩ ⟨o0, oc0, o3, oc3, o4, oc4, o5, oc5⟩ m o W (HMm.out W (HX7.out.trans (hb.mono HX7.out.size))) (HMo.out W hb))
  have HI := Lib.hid (fun W (hb : Below w8b.heap.size w8b W) => HID.out W (HX7.out.trans (hb.mono HX7.out.size)) (HB8b.out.trans (hb.mono HB8b.out.size)))
  have HMY' := Lib.hid (fun W (hb : Below w8b.heap.size w8b W) => HMY.out W (HB8b.out.trans (hb.mono HB8b.out.size)))
  have HRM' := Lib.hid (fun W (hb : Below w8b.heap.size w8b W) => HRM.out W (HB8b.out.trans (hb.mono HB8b.out.size)))
  have HBD' := Lib.hid (fun W (hb : Below w8b.heap.size w8b W) => HBD.out W (HB8b.out.trans (hb.mono HB8b.out.size)))
  have HRB' := Lib.hid (fun W (hb : Below w8b.heap.size w8b W) => HRB.out W (HB8b.out.trans (hb.mono HB8b.out.size)))
  simp only [Mv.cells, memEq_of HERm.out HERr.out] at HSmn
  simp only [Mv.cells] at HSmo HTmo
  obtain ⟨sm, hsm⟩ : ∃ z, z = memEq m o := ⟨_, rfl⟩
  rw [← hsm] at HSmo HTmo
  have HR := Lib.hid (fun W (hb : Below w8b.heap.size w8b W) => (show W.rangeAt w6a.heap.size 0 [.slice m0 m.W.length mc0, .int .i64 m.now, .int .i64 m.mx, .slice m3 m.L.length mc3, .slice m4 m.T.length mc4, .slice m5 m.H.length mc5, .int .i64 m.time] ∧ W.rangeAt w8a.heap.size 0 [.slice o0 o.W.length oc0, .int .i64 o.now, .int .i64 o.mx, .slice o3 o.L.length oc3, .slice o4 o.T.length oc4, .slice o5 o.H.length oc5, .int .i64 o.time] ∧ W.rangeAt w.heap.size 0 [.int .i64 words, .int .i64 mx, .slice A n c] from ⟨HKm.out W (HX7.out.trans (hb.mono HX7.out.size)), HKo.out W hb, fun j v hv => by
    obtain ⟨q0, q1, q2⟩ := HP.out W (HB8b.out.trans (hb.mono HB8b.out.size))
    rcases j with _ | _ | _ | j
    · simp at hv; rw [← hv]; exact q0
    · simp at hv; rw [← hv]; exact q1
    · simp at hv; rw [← hv]; exact q2
    · simp at hv⟩))
  clear HKm HKr HKo hsm HGm HGr HGo HMm HMr HMo HID HMY HRM HBD HRB HERm HERr HERo
  have HBW := Lib.hid (Below.refl w8b.heap.size w8b)
  obtain ⟨⟨mx0, mx1, mx2, mx3, mx4, mx5, mx6⟩, ⟨nx0, nx1, nx2, nx3, nx4, nx5, nx6⟩, -, p0, p1, p2⟩ := HALL.out _ HBW.out
  go_wp2_with fail
  refine (HSmn.out _ HBW.out).mono ?_
  rintro e w9z ⟨rfl, hbz⟩
  replace HBW := Lib.hid (HBW.out.trans (hbz.mono HBW.out.size))
  clear mx0 mx1 mx2 mx3 mx4 mx5 mx6 nx0 nx1 nx2 nx3 nx4 nx5 nx6 p0 p1 p2 hbz
  obtain ⟨-, -, -, p0, p1, p2⟩ := HALL.out _ HBW.out
  go_wp2_with fail
  refine (HRM'.out _ HBW.out).mono ?_
  rintro e w10z ⟨rfl, hbz⟩
  replace HBW := Lib.hid (HBW.out.trans (hbz.mono HBW.out.size))
  clear p0 p1 p2 hbz
  obtain ⟨⟨mx0, mx1, mx2, mx3, mx4, mx5, mx6⟩, -, -, p0, p1, p2⟩ := HALL.out _ HBW.out
  go_wp2_with fail
  refine ((HI.out _ HBW.out).2).mono ?_
  rintro e w11z ⟨rfl, hbz⟩
  replace HBW := Lib.hid (HBW.out.trans (hbz.mono HBW.out.size))
  clear mx0 mx1 mx2 mx3 mx4 mx5 mx6 p0 p1 p2 hbz
  obtain ⟨⟨mx0, mx1, mx2, mx3, mx4, mx5, mx6⟩, -, ⟨ox0, ox1, ox2, ox3, ox4, ox5, ox6⟩, p0, p1, p2⟩ := HALL.out _ HBW.out
  go_wp2_with fail
  refine (HSmo.out _ HBW.out).mono ?_
  rintro e w12z ⟨rfl, hbz⟩
  replace HBW := Lib.hid (HBW.out.trans (hbz.mono HBW.out.size))
  clear mx0 mx1 mx2 mx3 mx4 mx5 mx6 ox0 ox1 ox2 ox3 ox4 ox5 ox6 p0 p1 p2 hbz
  have kmm : (may == may) = true := by simp
  have kii : (id == id) = true := by simp
  have kss : (sm == sm) = true := by simp
  have kbb : (bnd == bnd) = true := by simp
  have HBD1 := Lib.hid HBW.out.drew
  go_upto_region 12 with fail
  refine wp_region_held_drew (S := fun W => W.rangeAt w6a.heap.size 0 [.slice m0 m.W.length mc0, .int .i64 m.now, .int .i64 m.mx, .slice m3 m.L.length mc3, .slice m4 m.T.length mc4, .slice m5 m.H.length mc5, .int .i64 m.time] ∧ W.rangeAt w8a.heap.size 0 [.slice o0 o.W.length oc0, .int .i64 o.now, .int .i64 o.mx, .slice o3 o.L.length oc3, .slice o4 o.T.length oc4, .slice o5 o.H.length oc5, .int .i64 o.time] ∧ W.rangeAt w.heap.size 0 [.int .i64 words, .int .i64 mx, .slice A n c]) (by kernel_rfl) ?_ (fun hbr => ?_)
  · exact HR.out _ HBW.out.drew
  refine tkA 0 ?_
  refine tkA 1 ?_
  refine tkA 2 ?_
  refine tkA 3 ?_
  refine tkA 4 (v := .bool true) ?_ (hy := by (intro w hSw; (try dsimp only at hSw); go_simp <;> first | done | with_reducible rfl | omega | (simp; done) | (simp; omega) | (simp [*]; done) | (simp [*]; omega) | exact decide_eq_false (by omega) | exact decide_eq_true (by omega)))
  refine tkA 5 ?_
  refine tkA 6 ?_
  refine tkA 7 (v := .agg #[.int .i64 words, .int .i64 mx, .slice A n c]) ?_ (hy := by (intro w hSw; (try dsimp only at hSw); exact rload_mid rfl rfl hSw.2.2 Try.underlying24 rfl plan_size3))
  refine tkA 9 ?_
  refine stA 8 (fun K hK => ?_)
  go_simp
  refine (HMY'.out _ HBD1.out).mono ?_
  rintro e wz ⟨rfl, hr⟩
  replace HBD1 := Lib.hid (HBD1.out.trans (hr.mono HBD1.out.size))
  clear hr
  try go_wp2_with fail
  refine hK.out _ _ ?_ (fun hbr8b10 => ?_)
  · exact HR.out _ HBD1.out
  clear hK K hbr
  try simp only [Act.put, List.setIfInBounds_toArray, List.set_cons_zero, List.set_cons_succ]
  refine tkA 10 (v := .bool true) ?_ (hy := by (intro w hSw; (try dsimp only at hSw); go_simp <;> first | done | with_reducible rfl | omega | (simp; done) | (simp; omega) | (simp [*]; done) | (simp [*]; omega) | exact decide_eq_false (by omega) | exact decide_eq_true (by omega)))
  refine tkA 11 ?_
  refine tkA 12 ?_
  refine tkA 13 (v := .agg #[.int .i64 words, .int .i64 mx, .slice A n c]) ?_ (hy := by (intro w hSw; (try dsimp only at hSw); exact rload_mid rfl rfl hSw.2.2 Try.underlying24 rfl plan_size3))
  refine tkA 14 (v := .agg #[.slice m0 m.W.length mc0, .int .i64 m.now, .int .i64 m.mx, .slice m3 m.L.length mc3, .slice m4 m.T.length mc4, .slice m5 m.H.length mc5, .int .i64 m.time]) ?_ (hy := by (intro w hSw; (try dsimp only at hSw); exact rload_mid rfl rfl hSw.1 Try.underlying34 rfl mem_size7))
  refine tkA 15 ?_
  refine tkA 17 ?_
  refine stA 16 (fun K hK => ?_)
  go_simp
  refine (HI.out _ HBD1.out).1.mono ?_
  rintro e wz ⟨rfl, hr⟩
  replace HBD1 := Lib.hid (HBD1.out.trans (hr.mono HBD1.out.size))
  clear hr
  try go_wp2_with fail
  refine hK.out _ _ ?_ (fun hbr16b18 => ?_)
  · exact HR.out _ HBD1.out
  clear hK K hbr8b10
  try simp only [Act.put, List.setIfInBounds_toArray, List.set_cons_zero, List.set_cons_succ]
  refine tkA 18 (v := .bool true) ?_ (hy := by (intro w hSw; (try dsimp only at hSw); go_simp <;> first | done | with_reducible rfl | omega | (simp; done) | (simp; omega) | (simp [*]; done) | (simp [*]; omega) | exact decide_eq_false (by omega) | exact decide_eq_true (by omega)))
  refine tkA 19 ?_
  refine tkA 20 ?_
  refine tkA 21 (v := .agg #[.int .i64 words, .int .i64 mx, .slice A n c]) ?_ (hy := by (intro w hSw; (try dsimp only at hSw); exact rload_mid rfl rfl hSw.2.2 Try.underlying24 rfl plan_size3))
  refine tkA 22 ?_
  refine tkA 24 (v := .agg #[.int .i64 words, .int .i64 mx, .slice A n c]) ?_ (hy := by (intro w hSw; (try dsimp only at hSw); exact rload_mid rfl rfl hSw.2.2 Try.underlying24 rfl plan_size3))
  refine tkA 25 ?_
  refine stA 23 (fun K hK => ?_)
  go_simp
  refine (HBD'.out _ HBD1.out).mono ?_
  rintro e wz ⟨rfl, hr⟩
  replace HBD1 := Lib.hid (HBD1.out.trans (hr.mono HBD1.out.size))
  clear hr
  try go_wp2_with fail
  refine hK.out _ _ ?_ (fun hbr23b26 => ?_)
  · exact HR.out _ HBD1.out
  clear hK K hbr16b18
  try simp only [Act.put, List.setIfInBounds_toArray, List.set_cons_zero, List.set_cons_succ]
  refine stA 26 (fun K hK => ?_)
  go_simp
  refine (HRB'.out _ HBD1.out).mono ?_
  rintro e wz ⟨rfl, hr⟩
  replace HBD1 := Lib.hid (HBD1.out.trans (hr.mono HBD1.out.size))
  clear hr
  try go_wp2_with fail
  refine hK.out _ _ ?_ (fun hbr26b27 => ?_)
  · exact HR.out _ HBD1.out
  clear hK K hbr23b26
  try simp only [Act.put, List.setIfInBounds_toArray, List.set_cons_zero, List.set_cons_succ]
  refine tkA 27 (v := .bool true) ?_ (hy := by (intro w hSw; (try dsimp only at hSw); go_simp <;> first | done | with_reducible rfl | omega | (simp; done) | (simp; omega) | (simp [*]; done) | (simp [*]; omega) | exact decide_eq_false (by omega) | exact decide_eq_true (by omega)))
  refine tkA 28 ?_
  refine tkA 29 ?_
  refine tkA 30 (v := .agg #[.slice m0 m.W.length mc0, .int .i64 m.now, .int .i64 m.mx, .slice m3 m.L.length mc3, .slice m4 m.T.length mc4, .slice m5 m.H.length mc5, .int .i64 m.time]) ?_ (hy := by (intro w hSw; (try dsimp only at hSw); exact rload_mid rfl rfl hSw.1 Try.underlying34 rfl mem_size7))
  refine tkA 31 (v := .agg #[.slice o0 o.W.length oc0, .int .i64 o.now, .int .i64 o.mx, .slice o3 o.L.length oc3, .slice o4 o.T.length oc4, .slice o5 o.H.length oc5, .int .i64 o.time]) ?_ (hy := by (intro w hSw; (try dsimp only at hSw); exact rload_mid rfl rfl hSw.2.1 Try.underlying34 rfl mem_size7))
  refine tkA 33 ?_
  refine stA 32 (fun K hK => ?_)
  go_simp
  refine (HTmo.out _ HBD1.out).mono ?_
  rintro e wz ⟨rfl, hr⟩
  replace HBD1 := Lib.hid (HBD1.out.trans (hr.mono HBD1.out.size))
  clear hr
  try go_wp2_with fail
  refine hK.out _ _ ?_ (fun hbr32b34 => ?_)
  · exact HR.out _ HBD1.out
  clear hK K hbr26b27
  try simp only [Act.put, List.setIfInBounds_toArray, List.set_cons_zero, List.set_cons_succ]
  refine tkA 34 (v := .bool true) ?_ (hy := by (intro w hSw; (try dsimp only at hSw); go_simp <;> first | done | with_reducible rfl | omega | (simp; done) | (simp; omega) | (simp [*]; done) | (simp [*]; omega) | exact decide_eq_false (by omega) | exact decide_eq_true (by omega)))
  refine tkA 35 ?_
  refine stA 36 (fun K hK => ?_)
  go_simp
  refine hK.out _ _ ?_ (fun hbr36b37 => ?_)
  · exact HR.out _ HBD1.out
  clear hK K hbr32b34
  try simp only [Act.put, List.setIfInBounds_toArray, List.set_cons_zero, List.set_cons_succ]
  refine wpAnyH_done (by kernel_rfl) ?_ _
  go_wp2_with fail
  go_ret
  exact ⟨rfl, HB1.out.trans ((HB8b.out.trans (HBD1.out.mono HB8b.out.size)).mono HB1.out.size)⟩
end Go.Proofs.Ytngimbfojccikaa

