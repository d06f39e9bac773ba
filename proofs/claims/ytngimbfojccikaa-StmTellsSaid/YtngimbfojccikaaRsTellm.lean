/- foliateref19: tell, over, end, quit: printed by rs_tell.py. -/
import Derived.Test.YtngimbfojccikaaRsWordsm
import Derived.Test.YtngimbfojccikaaStTellm
import Derived.Laws.AppendOwnNone
namespace Go.Proofs.Ytngimbfojccikaa
set_option linter.unusedSimpArgs false
open Go Go.RowKit
set_option linter.unusedVariables false
set_option maxRecDepth 100000

/-- What the reference's steps leave. -/
def RefP (w0 : World) (r : Nat) (m' : Mm) (e : Ending) (w' : World) : Prop := e = .returned (.tuple #[]) ∧ ∃ a' m2, RefW w0 w' r a' m2 ∧ m2.er = m'.er

section
variable {w0 w w' : World} {r : Nat} {a : Ad} {m : Mm}
/-- Behind an append to the tries told, the state's block and the threads are as they were. -/
theorem RefW.hfar (h : RefW w0 w r a m) {w1 : World} (hg : w.grownBy w1 (Value.slice a.hA m.H.length a.hc).ownBlock) {g : Nat} {t : TypeId} {cs : Array Value} (hb : Blk w g t cs) (hne : 50 ≠ t) : Blk w1 g t cs :=
  hb.grown hg (fun e => own_ne h.o.H hb hne e.symm)
def TellR (w0 : World) (r : Nat) (a : Ad) (m : Mm) (k : Nat) (t : Tx) (how : Int) (e : Ending) (w' : World) : Prop :=
  e = .returned (.tuple #[]) ∧ ∃ A c x, RefW w0 w' r { a with hA := A, hc := c } { m with H := m.H ++ [x] } ∧ erX x = tellR m k t how

set_option maxHeartbeats 16000000 in
theorem rtell_any {k : Nat} {t : Tx} (h : RefW w0 w r a m) (hk : m.T[k]? = some t) (how : Int) (hH : m.H.length ≤ 1000) :
    Calls Try.prog 78 #[.pointer (some ⟨r, 0, none⟩), .int .i64 (k : Int), .int .i64 how] w (TellR w0 r a m k t how) := by
  obtain ⟨i0, hi0, hz0, hz1, hz2⟩ := info_parts rec_info
  have hkl := (List.getElem?_eq_some_iff.1 hk).1
  obtain ⟨n, hn⟩ : ∃ n, n = m.T.length := ⟨_, rfl⟩
  have hk0 : (0 : Int) ≤ (k : Int) := by omega
  have hk1 : (k : Int) < (n : Int) := by omega
  have r4 : w.cell? ⟨r, 4, none⟩ = some (.slice (some ⟨a.gT, 0, none⟩) n a.cT) := by rw [hn]; exact h.rcells 4
  have t0_ := h.tcells hk (j := 0) rfl
  have t1_ := h.tcells hk (j := 1) rfl
  have t2_ := h.tcells hk (j := 2) rfl
  have t3_ := h.tcells hk (j := 3) rfl
  have t4_ := h.tcells hk (j := 4) rfl
  have t5_ := h.tcells hk (j := 5) rfl
  have t6_ := h.tcells hk (j := 6) rfl
  have t7_ := h.tcells hk (j := 7) rfl
  have t8_ := h.tcells hk (j := 8) rfl
  have t9_ := h.tcells hk (j := 9) rfl
  have t10_ := h.tcells hk (j := 10) rfl
  simp only [Nat.add_zero] at t0_
  have hap := h.apart
  have HAP := Lib.hid hap
  have HH := Lib.hid h
  have HK := Lib.hid hk
  have HN := Lib.hid hn
  have kX := Blk.new_ w 46 #[.int .i64 t.st, .int .i64 t.tx, .int .i64 t.try_, .int .i64 t.pc, .int .i64 t.rv, .int .i64 t.wv, .int .i64 t.sum, .slice t.rA t.R.length t.rc, .slice t.wA t.W.length t.wc, .int .i64 t.i, .int .i64 t.fr] _ rfl
  have hbX := Below.alloc (Below.refl w.heap.size w) (Nat.le_refl _) (.cells #[.int .i64 t.st, .int .i64 t.tx, .int .i64 t.try_, .int .i64 t.pc, .int .i64 t.rv, .int .i64 t.wv, .int .i64 t.sum, .slice t.rA t.R.length t.rc, .slice t.wA t.W.length t.wc, .int .i64 t.i, .int .i64 t.fr] 46)
  obtain ⟨wx, hwx⟩ : ∃ z, w.alloc (.cells #[.int .i64 t.st, .int .i64 t.tx, .int .i64 t.try_, .int .i64 t.pc, .int .i64 t.rv, .int .i64 t.wv, .int .i64 t.sum, .slice t.rA t.R.length t.rc, .slice t.wA t.W.length t.wc, .int .i64 t.i, .int .i64 t.fr] 46) = z := ⟨_, rfl⟩
  rw [hwx] at kX hbX
  have HX := Lib.hid (h.keep hbX)
  have HWX := Lib.hid hwx
  have HBX := Lib.hid hbX
  obtain ⟨gx, hgx⟩ : ∃ z, w.heap.size = z := ⟨_, rfl⟩
  rw [hgx] at kX
  have HGX := Lib.hid hgx
  have HKX := Lib.hid kX
  clear kX hbX hwx hgx hap h hk hn hkl
  go_enter Try.func78, Try.ntmps78
  go_upto_region 1 with fail
  rw [HWX.out, HGX.out]
  clear r4 t0_ t1_ t2_ t3_ t4_ t5_ t6_ t7_ t8_ t9_ t10_
  have HC := Lib.hid (fun W (hb : Below wx.heap.size wx W) => (show W.cell? ⟨gx, 1, none⟩ = some (.int .i64 t.tx) ∧ W.cell? ⟨gx, 2, none⟩ = some (.int .i64 t.try_) ∧ W.cell? ⟨gx, 4, none⟩ = some (.int .i64 t.rv) ∧ W.cell? ⟨gx, 5, none⟩ = some (.int .i64 t.wv) ∧ W.cell? ⟨gx, 7, none⟩ = some (.slice t.rA t.R.length t.rc) ∧ W.cell? ⟨gx, 8, none⟩ = some (.slice t.wA t.W.length t.wc) ∧ W.cell? ⟨gx, 10, none⟩ = some (.int .i64 t.fr) ∧ W.cell? ⟨r, 6, none⟩ = some (.int .i64 m.time) from ⟨by rw [(HKX.out.keep hb).cell]; rfl, by rw [(HKX.out.keep hb).cell]; rfl, by rw [(HKX.out.keep hb).cell]; rfl, by rw [(HKX.out.keep hb).cell]; rfl, by rw [(HKX.out.keep hb).cell]; rfl, by rw [(HKX.out.keep hb).cell]; rfl, by rw [(HKX.out.keep hb).cell]; rfl, (HX.out.keep hb).rcells 6⟩))
  have r5 : wx.cell? ⟨r, 5, none⟩ = some (.slice a.hA m.H.length a.hc) := HX.out.rcells 5
  have hrl : r < wx.heap.size := HX.out.run.lt
  have rf : wx.frozen? ⟨r, 5, none⟩ = false := HX.out.run.free 5
  have HRX := Lib.hid (fun W (hb : Below wx.heap.size wx W) => (show RefW w0 W r a m from HX.out.keep hb))
  have hzb := HX.out.base.size
  obtain ⟨wz, hwz⟩ : ∃ z, wx.drew = z := ⟨_, rfl⟩
  have hbz : Below wx.heap.size wx wz := hwz ▸ (Below.refl _ _).drew
  have r5z : wz.cell? ⟨r, 5, none⟩ = some (.slice a.hA m.H.length a.hc) := (hbz.cell (p := ⟨r, 5, none⟩) hrl).trans r5
  have HWZ := Lib.hid hwz
  have HBZ := Lib.hid hbz
  clear hwz hbz
  have HNE := Lib.hid (show gx ≠ r from fun e => by have h1 := HX.out.run; rw [← e] at h1; exact absurd (blk_ne HKX.out h1) (by decide))
  refine wp_region_held_drew (S := fun W => W.cell? ⟨gx, 1, none⟩ = some (.int .i64 t.tx) ∧ W.cell? ⟨gx, 2, none⟩ = some (.int .i64 t.try_) ∧ W.cell? ⟨gx, 4, none⟩ = some (.int .i64 t.rv) ∧ W.cell? ⟨gx, 5, none⟩ = some (.int .i64 t.wv) ∧ W.cell? ⟨gx, 7, none⟩ = some (.slice t.rA t.R.length t.rc) ∧ W.cell? ⟨gx, 8, none⟩ = some (.slice t.wA t.W.length t.wc) ∧ W.cell? ⟨gx, 10, none⟩ = some (.int .i64 t.fr) ∧ W.cell? ⟨r, 6, none⟩ = some (.int .i64 m.time)) (by kernel_rfl) ?_ (fun hbr => ?_)
  · exact HC.out _ (Below.refl _ _).drew
  refine tkA 0 ?_
  refine tkA 1 ?_
  refine tkA 2 ?_
  refine tkA 3 ?_
  refine tkA 5 ?_
  refine tkA 6 ?_
  refine tkA 7 ?_
  refine tkA 8 ?_
  refine tkA 9 ?_
  refine tkA 10 ?_
  refine tkA 11 ?_
  refine tkA 12 ?_
  refine tkA 13 ?_
  refine tkA 14 ?_
  refine tkA 15 ?_
  refine tkA 16 ?_
  refine tkA 17 ?_
  refine tkA 18 ?_
  refine tkA 19 ?_
  refine tkA 20 ?_
  refine tkA 21 ?_
  refine tkA 22 ?_
  refine tkA 23 ?_
  refine tkA 24 ?_
  refine tkA 25 ?_
  refine wpAnyH_ready (rs := [4, 26]) (by kernel_rfl) (by simp) ?_
  refine conA (fun K hK => ?_) ?_
  · (try rw [HWZ.out])
    go_simp
    refine hK.out _ _ ?_ (fun hbr4b26 => ?_)
    · first | exact HC.out _ HBZ.out | exact HC.out _ HB8.out
    clear hK K hbr
    try simp only [Act.put, List.setIfInBounds_toArray, List.set_cons_zero, List.set_cons_succ]
    refine stA 26 (fun K hK => ?_)
    (try rw [HWZ.out])
    go_simp
    have kN := Blk.new wz 50 #[.int .i64 (k : Int), .int .i64 t.tx, .int .i64 t.try_, .int .i64 how, .int .i64 t.rv, .int .i64 t.wv, .slice t.rA t.R.length t.rc, .slice t.wA t.W.length t.wc, .int .i64 t.fr, .int .i64 m.time]
    have HB8 := Lib.hid (HBZ.out.alloc HBZ.out.size (.cells #[.int .i64 (k : Int), .int .i64 t.tx, .int .i64 t.try_, .int .i64 how, .int .i64 t.rv, .int .i64 t.wv, .slice t.rA t.R.length t.rc, .slice t.wA t.W.length t.wc, .int .i64 t.fr, .int .i64 m.time] 50))
    obtain ⟨gn, hgn⟩ : ∃ z, wz.heap.size = z := ⟨_, rfl⟩
    obtain ⟨w8, hw8⟩ : ∃ z, wz.alloc (.cells #[.int .i64 (k : Int), .int .i64 t.tx, .int .i64 t.try_, .int .i64 how, .int .i64 t.rv, .int .i64 t.wv, .slice t.rA t.R.length t.rc, .slice t.wA t.W.length t.wc, .int .i64 t.fr, .int .i64 m.time] 50) = z := ⟨_, rfl⟩
    rw [hw8] at kN HB8 ⊢
    rw [hgn] at kN ⊢
    have r58 : w8.cell? ⟨r, 5, none⟩ = some (.slice a.hA m.H.length a.hc) := (HB8.out.cell (p := ⟨r, 5, none⟩) hrl).trans r5
    have HKN := Lib.hid kN
    clear kN hw8 hgn
    refine hK.out _ _ ?_ (fun hbr26b27 => ?_)
    · exact HC.out _ HB8.out
    clear hK K hbr4b26
    try simp only [Act.put, List.setIfInBounds_toArray, List.set_cons_zero, List.set_cons_succ]
    refine stA 27 (fun K hK => ?_)
    refine step_append_lies _ rfl (.tmp 18) (.tmp 40) _ rfl w0.heap.size 50 i0 _ 10 112 Try.underlying32 hi0 hz0 hz1 hz2 rfl (by omega) (.slice a.hA m.H.length a.hc) m.H.length (m.H.flatMap encRx) rfl (HRX.out _ HB8.out).o.H ⟨gn, 0, none⟩ 1 1 [.int .i64 (k : Int), .int .i64 t.tx, .int .i64 t.try_, .int .i64 how, .int .i64 t.rv, .int .i64 t.wv, .slice t.rA t.R.length t.rc, .slice t.wA t.W.length t.wc, .int .i64 t.fr, .int .i64 m.time] rfl rfl (by intro j u hu; rw [add_none, Nat.zero_add, HKN.out.cell]; simpa using hu) (by simp [Value.oneCell']) (by omega) (by unfold maxLen; omega) (by omega) (by have := HB8.out.size; omega) _ rfl ?_
    intro g cap w7 hown7 hgrow7 hor hg7
    have HG7 := Lib.hid hgrow7
    have HO7 := Lib.hid hown7
    have HX7 := Lib.hid ((HRX.out _ HB8.out).hfar hgrow7 (HKX.out.keep HB8.out) (by decide))
    have HR7 := Lib.hid ((HRX.out _ HB8.out).hfar hgrow7 (HRX.out _ HB8.out).run (by decide))
    have q5 : w7.cell? ⟨r, 5, none⟩ = some (.slice a.hA m.H.length a.hc) := by (rw [HR7.out.cell]; rfl)
    have qf := HR7.out.free 5
    have ql := HR7.out.lt
    clear hown7 hgrow7 hor
    refine hK.out _ _ ?_ (fun hbr27b28 => ?_)
    · exact ⟨by rw [(HX7.out).cell]; rfl, by rw [(HX7.out).cell]; rfl, by rw [(HX7.out).cell]; rfl, by rw [(HX7.out).cell]; rfl, by rw [(HX7.out).cell]; rfl, by rw [(HX7.out).cell]; rfl, by rw [(HX7.out).cell]; rfl, by rw [HR7.out.cell]; rfl⟩
    clear hK K hbr26b27
    try simp only [Act.put, List.setIfInBounds_toArray, List.set_cons_zero, List.set_cons_succ]
    refine tkA 28 ?_
    refine tkA 29 ?_
    refine stA 30 (fun K hK => ?_)
    go_simp
    refine hK.out _ _ ?_ (fun hbr30b31 => ?_)
    · exact ⟨by rw [(HX7.out.far (p := ⟨r, 5, none⟩) (fun e => HNE.out e) _).cell]; rfl, by rw [(HX7.out.far (p := ⟨r, 5, none⟩) (fun e => HNE.out e) _).cell]; rfl, by rw [(HX7.out.far (p := ⟨r, 5, none⟩) (fun e => HNE.out e) _).cell]; rfl, by rw [(HX7.out.far (p := ⟨r, 5, none⟩) (fun e => HNE.out e) _).cell]; rfl, by rw [(HX7.out.far (p := ⟨r, 5, none⟩) (fun e => HNE.out e) _).cell]; rfl, by rw [(HX7.out.far (p := ⟨r, 5, none⟩) (fun e => HNE.out e) _).cell]; rfl, by rw [(HX7.out.far (p := ⟨r, 5, none⟩) (fun e => HNE.out e) _).cell]; rfl, by rw [(HR7.out.set_ 5 _).cell]; rfl⟩
    clear hK K hbr27b28
    try simp only [Act.put, List.setIfInBounds_toArray, List.set_cons_zero, List.set_cons_succ]
    refine wpAnyH_done (by kernel_rfl) ?_ _
    go_wp2
    first | go_end0 | refine bodyPost_ret (results_none rfl _ _ _) rfl ?_
    exact ⟨rfl, some ⟨g, 0, none⟩, cap, { tellR m k t how with rA := t.rA, rc := t.rc, wA := t.wA, wc := t.wc }, (HRX.out _ HB8.out).addH ((HRX.out _ HB8.out).ts HK.out) HG7.out HO7.out, rfl⟩
  refine conA (fun K hK => ?_) ?_
  · (try rw [HWZ.out])
    go_simp
    have kN := Blk.new wz 50 #[.int .i64 (k : Int), .int .i64 t.tx, .int .i64 t.try_, .int .i64 how, .int .i64 t.rv, .int .i64 t.wv, .slice t.rA t.R.length t.rc, .slice t.wA t.W.length t.wc, .int .i64 t.fr, .int .i64 m.time]
    have HB8 := Lib.hid (HBZ.out.alloc HBZ.out.size (.cells #[.int .i64 (k : Int), .int .i64 t.tx, .int .i64 t.try_, .int .i64 how, .int .i64 t.rv, .int .i64 t.wv, .slice t.rA t.R.length t.rc, .slice t.wA t.W.length t.wc, .int .i64 t.fr, .int .i64 m.time] 50))
    obtain ⟨gn, hgn⟩ : ∃ z, wz.heap.size = z := ⟨_, rfl⟩
    obtain ⟨w8, hw8⟩ : ∃ z, wz.alloc (.cells #[.int .i64 (k : Int), .int .i64 t.tx, .int .i64 t.try_, .int .i64 how, .int .i64 t.rv, .int .i64 t.wv, .slice t.rA t.R.length t.rc, .slice t.wA t.W.length t.wc, .int .i64 t.fr, .int .i64 m.time] 50) = z := ⟨_, rfl⟩
    rw [hw8] at kN HB8 ⊢
    rw [hgn] at kN ⊢
    have r58 : w8.cell? ⟨r, 5, none⟩ = some (.slice a.hA m.H.length a.hc) := (HB8.out.cell (p := ⟨r, 5, none⟩) hrl).trans r5
    have HKN := Lib.hid kN
    clear kN hw8 hgn
    refine hK.out _ _ ?_ (fun hbr26b32 => ?_)
    · exact HC.out _ HB8.out
    clear hK K hbr
    try simp only [Act.put, List.setIfInBounds_toArray, List.set_cons_zero, List.set_cons_succ]
    refine stA 4 (fun K hK => ?_)
    (try rw [HWZ.out])
    go_simp
    refine hK.out _ _ ?_ (fun hbr4b33 => ?_)
    · first | exact HC.out _ HBZ.out | exact HC.out _ HB8.out
    clear hK K hbr26b32
    try simp only [Act.put, List.setIfInBounds_toArray, List.set_cons_zero, List.set_cons_succ]
    refine stA 27 (fun K hK => ?_)
    refine step_append_lies _ rfl (.tmp 18) (.tmp 40) _ rfl w0.heap.size 50 i0 _ 10 112 Try.underlying32 hi0 hz0 hz1 hz2 rfl (by omega) (.slice a.hA m.H.length a.hc) m.H.length (m.H.flatMap encRx) rfl (HRX.out _ HB8.out).o.H ⟨gn, 0, none⟩ 1 1 [.int .i64 (k : Int), .int .i64 t.tx, .int .i64 t.try_, .int .i64 how, .int .i64 t.rv, .int .i64 t.wv, .slice t.rA t.R.length t.rc, .slice t.wA t.W.length t.wc, .int .i64 t.fr, .int .i64 m.time] rfl rfl (by intro j u hu; rw [add_none, Nat.zero_add, HKN.out.cell]; simpa using hu) (by simp [Value.oneCell']) (by omega) (by unfold maxLen; omega) (by omega) (by have := HB8.out.size; omega) _ rfl ?_
    intro g cap w7 hown7 hgrow7 hor hg7
    have HG7 := Lib.hid hgrow7
    have HO7 := Lib.hid hown7
    have HX7 := Lib.hid ((HRX.out _ HB8.out).hfar hgrow7 (HKX.out.keep HB8.out) (by decide))
    have HR7 := Lib.hid ((HRX.out _ HB8.out).hfar hgrow7 (HRX.out _ HB8.out).run (by decide))
    have q5 : w7.cell? ⟨r, 5, none⟩ = some (.slice a.hA m.H.length a.hc) := by (rw [HR7.out.cell]; rfl)
    have qf := HR7.out.free 5
    have ql := HR7.out.lt
    clear hown7 hgrow7 hor
    refine hK.out _ _ ?_ (fun hbr27b34 => ?_)
    · exact ⟨by rw [(HX7.out).cell]; rfl, by rw [(HX7.out).cell]; rfl, by rw [(HX7.out).cell]; rfl, by rw [(HX7.out).cell]; rfl, by rw [(HX7.out).cell]; rfl, by rw [(HX7.out).cell]; rfl, by rw [(HX7.out).cell]; rfl, by rw [HR7.out.cell]; rfl⟩
    clear hK K hbr4b33
    try simp only [Act.put, List.setIfInBounds_toArray, List.set_cons_zero, List.set_cons_succ]
    refine tkA 28 ?_
    refine tkA 29 ?_
    refine stA 30 (fun K hK => ?_)
    go_simp
    refine hK.out _ _ ?_ (fun hbr30b37 => ?_)
    · exact ⟨by rw [(HX7.out.far (p := ⟨r, 5, none⟩) (fun e => HNE.out e) _).cell]; rfl, by rw [(HX7.out.far (p := ⟨r, 5, none⟩) (fun e => HNE.out e) _).cell]; rfl, by rw [(HX7.out.far (p := ⟨r, 5, none⟩) (fun e => HNE.out e) _).cell]; rfl, by rw [(HX7.out.far (p := ⟨r, 5, none⟩) (fun e => HNE.out e) _).cell]; rfl, by rw [(HX7.out.far (p := ⟨r, 5, none⟩) (fun e => HNE.out e) _).cell]; rfl, by rw [(HX7.out.far (p := ⟨r, 5, none⟩) (fun e => HNE.out e) _).cell]; rfl, by rw [(HX7.out.far (p := ⟨r, 5, none⟩) (fun e => HNE.out e) _).cell]; rfl, by rw [(HR7.out.set_ 5 _).cell]; rfl⟩
    clear hK K hbr27b34
    try simp only [Act.put, List.setIfInBounds_toArray, List.set_cons_zero, List.set_cons_succ]
    refine wpAnyH_done (by kernel_rfl) ?_ _
    go_wp2
    first | go_end0 | refine bodyPost_ret (results_none rfl _ _ _) rfl ?_
    exact ⟨rfl, some ⟨g, 0, none⟩, cap, { tellR m k t how with rA := t.rA, rc := t.rc, wA := t.wA, wc := t.wc }, (HRX.out _ HB8.out).addH ((HRX.out _ HB8.out).ts HK.out) HG7.out HO7.out, rfl⟩
  exact AllReadyH.nil

theorem grown_none_of_below_box : True := trivial
/-- A thread is overwritten, whole: at a step of a drawn region, and in a list. -/
theorem wp_rstore_tx {o : Oper} {ac : Act} {K : Act → World → Prop} {Q : Exit → Act → World → Prop} (h : RefW w0 w r a m) {k : Nat} {t : Tx} (hk : m.T[k]? = some t) (t' : Tx) (hp : PRow w w0.heap.size t'.rA t'.rc t'.R ∧ PRow w w0.heap.size t'.wA t'.wc t'.W)
    (x y : Operand) (ho : o.op = .store 46 x y) (hx : ac.eval x = .pointer (some ⟨a.gT, k * 11, none⟩)) (hy : ac.eval y = .agg (encTx t').toArray)
    (kk : ∀ w', RefW w0 w' r a { m with T := m.T.set k t' } → w.grownBy w' (some a.gT) → K (ac.put o.dst undef) w') : Oper.wp Try.prog o ac w K Q := by
  refine wp_store_mid 46 x y ho a.gT (k * 11) (encTx t').toArray hx hy (fun j hj => ?_) tx_size (tx_one t') (kk _ (h.tall hk t' hp) (grown_setCells _ _ _ _ _ ⟨rfl, rfl, rfl, Nat.le_refl _, fun _ _ _ => rfl⟩))
  refine ⟨?_, h.tfree _⟩
  have hj2 : j < (encTx t).length := by rw [encTx_len]; exact hj
  rw [h.tcells hk (List.getElem?_eq_getElem hj2)]
  rfl
theorem step_rstore_tx {ops : Array Oper} {o : Oper} {ac : Act} {K : Act → World → Prop} {Q : Exit → Act → World → Prop} {E : Prop} (h : RefW w0 w r a m) {k : Nat} {t : Tx} (hk : m.T[k]? = some t) (t' : Tx) (hp : PRow w w0.heap.size t'.rA t'.rc t'.R ∧ PRow w w0.heap.size t'.wA t'.wc t'.W)
    (x y : Operand) (hw : Region.wanted o (yielded ops ac.tmps) = true) (ho : o.op = .store 46 x y) (hx : ac.eval x = .pointer (some ⟨a.gT, k * 11, none⟩)) (hy : ac.eval y = .agg (encTx t').toArray)
    (kk : ∀ w', RefW w0 w' r a { m with T := m.T.set k t' } → w.grownBy w' (some a.gT) → K (ac.put o.dst undef) w') : if Region.wanted o (yielded ops ac.tmps) = true then Oper.wp Try.prog o ac w K Q else E := by
  rw [if_pos hw]
  exact wp_rstore_tx h hk t' hp x y ho hx hy kk
theorem Tx.zero_rows (t : Tx) (how : Int) : PRow w w0.heap.size (overT t how).rA (overT t how).rc (overT t how).R ∧ PRow w w0.heap.size (overT t how).wA (overT t how).wc (overT t how).W := by
  unfold overT
  split <;> exact ⟨World.ownsRow_nil _ _ _ _, World.ownsRow_nil _ _ _ _⟩

set_option maxHeartbeats 16000000 in
theorem rover_again {k : Nat} {t : Tx} (h : RefW w0 w r a m) (hk : m.T[k]? = some t) (how : Int) (h1 : how = 1) (hn : t.try_ < 3) (htx : 0 ≤ t.tx ∧ t.tx ≤ 1000) :
    Calls Try.prog 80 #[.pointer (some ⟨r, 0, none⟩), .int .i64 (k : Int), .int .i64 how] w fun e w' => e = .returned (.tuple #[]) ∧ RefW w0 w' r a (overM m k t how) := by
  obtain ⟨nt, hnt⟩ : ∃ z, z = overT t how := ⟨_, rfl⟩
  have HNT := Lib.hid hnt
  have HNV := Lib.hid (show (encTx (overT t how)).toArray = #[.int .i64 0, .int .i64 t.tx, .int .i64 t.try_, .int .i64 0, .int .i64 0, .int .i64 0, .int .i64 0, .slice none 0 0, .slice none 0 0, .int .i64 0, .int .i64 0] from by unfold overT; rw [if_pos ⟨h1, hn⟩]; rfl)
  clear hnt
  have hwr : IntKind.i64.wrap (t.tx + 1) = t.tx + 1 := by rw [IntKind.wrap_i64]; omega
  clear htx
  have h1b : (how != 1) = false := by simp [h1]
  have h3 : ¬ 3 ≤ t.try_ := by omega
  clear h1 hn
  have hkl := (List.getElem?_eq_some_iff.1 hk).1
  obtain ⟨n, hn⟩ : ∃ n, n = m.T.length := ⟨_, rfl⟩
  have hk0 : (0 : Int) ≤ (k : Int) := by omega
  have hk1 : (k : Int) < (n : Int) := by omega
  have r4 : w.cell? ⟨r, 4, none⟩ = some (.slice (some ⟨a.gT, 0, none⟩) n a.cT) := by rw [hn]; exact h.rcells 4
  have t0_ := h.tcells hk (j := 0) rfl
  have t1_ := h.tcells hk (j := 1) rfl
  have t2_ := h.tcells hk (j := 2) rfl
  have t3_ := h.tcells hk (j := 3) rfl
  have t4_ := h.tcells hk (j := 4) rfl
  have t5_ := h.tcells hk (j := 5) rfl
  have t6_ := h.tcells hk (j := 6) rfl
  have t7_ := h.tcells hk (j := 7) rfl
  have t8_ := h.tcells hk (j := 8) rfl
  have t9_ := h.tcells hk (j := 9) rfl
  have t10_ := h.tcells hk (j := 10) rfl
  simp only [Nat.add_zero] at t0_
  have hap := h.apart
  have HAP := Lib.hid hap
  have HH := Lib.hid h
  have HK := Lib.hid hk
  have HN := Lib.hid hn
  have kX := Blk.new_ w 46 #[.int .i64 t.st, .int .i64 t.tx, .int .i64 t.try_, .int .i64 t.pc, .int .i64 t.rv, .int .i64 t.wv, .int .i64 t.sum, .slice t.rA t.R.length t.rc, .slice t.wA t.W.length t.wc, .int .i64 t.i, .int .i64 t.fr] _ rfl
  have hbX := Below.alloc (Below.refl w.heap.size w) (Nat.le_refl _) (.cells #[.int .i64 t.st, .int .i64 t.tx, .int .i64 t.try_, .int .i64 t.pc, .int .i64 t.rv, .int .i64 t.wv, .int .i64 t.sum, .slice t.rA t.R.length t.rc, .slice t.wA t.W.length t.wc, .int .i64 t.i, .int .i64 t.fr] 46)
  obtain ⟨wx, hwx⟩ : ∃ z, w.alloc (.cells #[.int .i64 t.st, .int .i64 t.tx, .int .i64 t.try_, .int .i64 t.pc, .int .i64 t.rv, .int .i64 t.wv, .int .i64 t.sum, .slice t.rA t.R.length t.rc, .slice t.wA t.W.length t.wc, .int .i64 t.i, .int .i64 t.fr] 46) = z := ⟨_, rfl⟩
  rw [hwx] at kX hbX
  have HX := Lib.hid (h.keep hbX)
  have HWX := Lib.hid hwx
  have HBX := Lib.hid hbX
  obtain ⟨gx, hgx⟩ : ∃ z, w.heap.size = z := ⟨_, rfl⟩
  rw [hgx] at kX
  have HGX := Lib.hid hgx
  have HKX := Lib.hid kX
  clear kX hbX hwx hgx hap h hk hn hkl
  go_enter Try.func80, Try.ntmps80
  go_upto_region 1 with fail
  rw [HWX.out, HGX.out]
  clear r4 t0_ t1_ t2_ t3_ t4_ t5_ t6_ t7_ t8_ t9_ t10_
  have b1 : wx.cell? ⟨gx, 1, none⟩ = some (.int .i64 t.tx) := by rw [HKX.out.cell]; rfl
  have b2 : wx.cell? ⟨gx, 2, none⟩ = some (.int .i64 t.try_) := by rw [HKX.out.cell]; rfl
  have kY := Blk.new_ wx 46 #[.int .i64 0, .int .i64 t.tx, .int .i64 t.try_, .int .i64 0, .int .i64 0, .int .i64 0, .int .i64 0, .slice none 0 0, .slice none 0 0, .int .i64 0, .int .i64 0] _ rfl
  have hbY := Below.alloc (Below.refl wx.heap.size wx) (Nat.le_refl _) (.cells #[.int .i64 0, .int .i64 t.tx, .int .i64 t.try_, .int .i64 0, .int .i64 0, .int .i64 0, .int .i64 0, .slice none 0 0, .slice none 0 0, .int .i64 0, .int .i64 0] 46)
  obtain ⟨wy, hwy⟩ : ∃ z, wx.alloc (.cells #[.int .i64 0, .int .i64 t.tx, .int .i64 t.try_, .int .i64 0, .int .i64 0, .int .i64 0, .int .i64 0, .slice none 0 0, .slice none 0 0, .int .i64 0, .int .i64 0] 46) = z := ⟨_, rfl⟩
  rw [hwy] at kY hbY
  have HY := Lib.hid (HX.out.keep hbY)
  have HWY := Lib.hid hwy
  obtain ⟨gy, hgy⟩ : ∃ z, wx.heap.size = z := ⟨_, rfl⟩
  have hgT : a.gT < gy := by have := HX.out.apart.2.2.2.1; omega
  have hgxl : gx < wx.heap.size := HKX.out.lt
  rw [hgy] at kY
  have HGY := Lib.hid hgy
  have HKY := Lib.hid kY
  clear kY hbY hwy hgy
  go_upto_region 4 with fail
  rw [HWY.out, HGY.out]
  clear b1 b2 hwr hgxl
  have r4 : wy.cell? ⟨r, 4, none⟩ = some (.slice (some ⟨a.gT, 0, none⟩) n a.cT) := by rw [HN.out]; exact HY.out.rcells 4
  have kY := HKY.out
  have y0 : wy.cell? ⟨gy, 0, none⟩ = some (.int .i64 0) := by rw [kY.cell]; rfl
  have y1 : wy.cell? ⟨gy, 1, none⟩ = some (.int .i64 t.tx) := by rw [kY.cell]; rfl
  have y2 : wy.cell? ⟨gy, 2, none⟩ = some (.int .i64 t.try_) := by rw [kY.cell]; rfl
  have y3 : wy.cell? ⟨gy, 3, none⟩ = some (.int .i64 0) := by rw [kY.cell]; rfl
  have y4 : wy.cell? ⟨gy, 4, none⟩ = some (.int .i64 0) := by rw [kY.cell]; rfl
  have y5 : wy.cell? ⟨gy, 5, none⟩ = some (.int .i64 0) := by rw [kY.cell]; rfl
  have y6 : wy.cell? ⟨gy, 6, none⟩ = some (.int .i64 0) := by rw [kY.cell]; rfl
  have y7 : wy.cell? ⟨gy, 7, none⟩ = some (.slice none 0 0) := by rw [kY.cell]; rfl
  have y8 : wy.cell? ⟨gy, 8, none⟩ = some (.slice none 0 0) := by rw [kY.cell]; rfl
  have y9 : wy.cell? ⟨gy, 9, none⟩ = some (.int .i64 0) := by rw [kY.cell]; rfl
  have y10 : wy.cell? ⟨gy, 10, none⟩ = some (.int .i64 0) := by rw [kY.cell]; rfl
  have HFR := Lib.hid (fun W (hb : wy.drew.grownBy W (some a.gT)) => (show Blk W gy 46 #[.int .i64 0, .int .i64 t.tx, .int .i64 t.try_, .int .i64 0, .int .i64 0, .int .i64 0, .int .i64 0, .slice none 0 0, .slice none 0 0, .int .i64 0, .int .i64 0] from (HKY.out.drew).grown hb (by intro e; injection e with e; omega)))
  clear kY
  refine wp_region_held_drew (S := fun W => W.cell? ⟨r, 4, none⟩ = some (.slice (some ⟨a.gT, 0, none⟩) n a.cT) ∧ W.cell? ⟨gy, 0, none⟩ = some (.int .i64 0) ∧ W.cell? ⟨gy, 1, none⟩ = some (.int .i64 t.tx) ∧ W.cell? ⟨gy, 2, none⟩ = some (.int .i64 t.try_) ∧ W.cell? ⟨gy, 3, none⟩ = some (.int .i64 0) ∧ W.cell? ⟨gy, 4, none⟩ = some (.int .i64 0) ∧ W.cell? ⟨gy, 5, none⟩ = some (.int .i64 0) ∧ W.cell? ⟨gy, 6, none⟩ = some (.int .i64 0) ∧ W.cell? ⟨gy, 7, none⟩ = some (.slice none 0 0) ∧ W.cell? ⟨gy, 8, none⟩ = some (.slice none 0 0) ∧ W.cell? ⟨gy, 9, none⟩ = some (.int .i64 0) ∧ W.cell? ⟨gy, 10, none⟩ = some (.int .i64 0)) (by kernel_rfl) ?_ (fun hcr => ?_)
  · exact ⟨r4, y0, y1, y2, y3, y4, y5, y6, y7, y8, y9, y10⟩
  refine tkA 0 ?_
  refine tkA 1 ?_
  refine tkA 2 ?_
  refine tkA 3 ?_
  refine tkA 4 ?_
  refine tkA 5 ?_
  refine tkA 6 ?_
  refine stA 7 (fun K hK => ?_)
  refine step_rstore_tx (HY.out.keep (Below.refl _ _).drew) HK.out nt (by rw [HNT.out]; exact Tx.zero_rows t how) _ _ (by rfl) rfl rfl (by rw [HNT.out, HNV.out]; rfl) ?_
  intro w2 hR2 hg2
  have HR2 := Lib.hid hR2
  have HF2 := Lib.hid (HFR.out _ hg2)
  clear hR2 hg2
  refine hK.out _ _ ?_ (fun hcr7 => ?_)
  · exact ⟨by rw [HN.out]; have := HR2.out.rcells 4; simpa [memCells] using this, by rw [HF2.out.cell]; rfl, by rw [HF2.out.cell]; rfl, by rw [HF2.out.cell]; rfl, by rw [HF2.out.cell]; rfl, by rw [HF2.out.cell]; rfl, by rw [HF2.out.cell]; rfl, by rw [HF2.out.cell]; rfl, by rw [HF2.out.cell]; rfl, by rw [HF2.out.cell]; rfl, by rw [HF2.out.cell]; rfl, by rw [HF2.out.cell]; rfl⟩
  clear hK K hcr
  try simp only [Act.put, List.setIfInBounds_toArray, List.set_cons_zero, List.set_cons_succ]
  refine wpAnyH_done (by kernel_rfl) ?_ _
  go_wp2
  first | go_end0 | refine bodyPost_ret (results_none rfl _ _ _) rfl ?_
  refine ⟨rfl, ?_⟩
  have := HR2.out
  rw [HNT.out] at this
  exact this

set_option maxHeartbeats 16000000 in
theorem rover_how {k : Nat} {t : Tx} (h : RefW w0 w r a m) (hk : m.T[k]? = some t) (how : Int) (h1 : how ≠ 1) (htx : 0 ≤ t.tx ∧ t.tx ≤ 1000) :
    Calls Try.prog 80 #[.pointer (some ⟨r, 0, none⟩), .int .i64 (k : Int), .int .i64 how] w fun e w' => e = .returned (.tuple #[]) ∧ RefW w0 w' r a (overM m k t how) := by
  obtain ⟨nt, hnt⟩ : ∃ z, z = overT t how := ⟨_, rfl⟩
  have HNT := Lib.hid hnt
  have HNV := Lib.hid (show (encTx (overT t how)).toArray = #[.int .i64 0, .int .i64 (t.tx + 1), .int .i64 0, .int .i64 0, .int .i64 0, .int .i64 0, .int .i64 0, .slice none 0 0, .slice none 0 0, .int .i64 0, .int .i64 0] from by unfold overT; rw [if_neg (fun e => h1 e.1)]; rfl)
  clear hnt
  have hwr : IntKind.i64.wrap (t.tx + 1) = t.tx + 1 := by rw [IntKind.wrap_i64]; omega
  clear htx
  have h1b : (how != 1) = true := by simpa using h1
  clear h1
  have hkl := (List.getElem?_eq_some_iff.1 hk).1
  obtain ⟨n, hn⟩ : ∃ n, n = m.T.length := ⟨_, rfl⟩
  have hk0 : (0 : Int) ≤ (k : Int) := by omega
  have hk1 : (k : Int) < (n : Int) := by omega
  have r4 : w.cell? ⟨r, 4, none⟩ = some (.slice (some ⟨a.gT, 0, none⟩) n a.cT) := by rw [hn]; exact h.rcells 4
  have t0_ := h.tcells hk (j := 0) rfl
  have t1_ := h.tcells hk (j := 1) rfl
  have t2_ := h.tcells hk (j := 2) rfl
  have t3_ := h.tcells hk (j := 3) rfl
  have t4_ := h.tcells hk (j := 4) rfl
  have t5_ := h.tcells hk (j := 5) rfl
  have t6_ := h.tcells hk (j := 6) rfl
  have t7_ := h.tcells hk (j := 7) rfl
  have t8_ := h.tcells hk (j := 8) rfl
  have t9_ := h.tcells hk (j := 9) rfl
  have t10_ := h.tcells hk (j := 10) rfl
  simp only [Nat.add_zero] at t0_
  have hap := h.apart
  have HAP := Lib.hid hap
  have HH := Lib.hid h
  have HK := Lib.hid hk
  have HN := Lib.hid hn
  have kX := Blk.new_ w 46 #[.int .i64 t.st, .int .i64 t.tx, .int .i64 t.try_, .int .i64 t.pc, .int .i64 t.rv, .int .i64 t.wv, .int .i64 t.sum, .slice t.rA t.R.length t.rc, .slice t.wA t.W.length t.wc, .int .i64 t.i, .int .i64 t.fr] _ rfl
  have hbX := Below.alloc (Below.refl w.heap.size w) (Nat.le_refl _) (.cells #[.int .i64 t.st, .int .i64 t.tx, .int .i64 t.try_, .int .i64 t.pc, .int .i64 t.rv, .int .i64 t.wv, .int .i64 t.sum, .slice t.rA t.R.length t.rc, .slice t.wA t.W.length t.wc, .int .i64 t.i, .int .i64 t.fr] 46)
  obtain ⟨wx, hwx⟩ : ∃ z, w.alloc (.cells #[.int .i64 t.st, .int .i64 t.tx, .int .i64 t.try_, .int .i64 t.pc, .int .i64 t.rv, .int .i64 t.wv, .int .i64 t.sum, .slice t.rA t.R.length t.rc, .slice t.wA t.W.length t.wc, .int .i64 t.i, .int .i64 t.fr] 46) = z := ⟨_, rfl⟩
  rw [hwx] at kX hbX
  have HX := Lib.hid (h.keep hbX)
  have HWX := Lib.hid hwx
  have HBX := Lib.hid hbX
  obtain ⟨gx, hgx⟩ : ∃ z, w.heap.size = z := ⟨_, rfl⟩
  rw [hgx] at kX
  have HGX := Lib.hid hgx
  have HKX := Lib.hid kX
  clear kX hbX hwx hgx hap h hk hn hkl
  go_enter Try.func80, Try.ntmps80
  go_upto_region 1 with fail
  rw [HWX.out, HGX.out]
  clear r4 t0_ t1_ t2_ t3_ t4_ t5_ t6_ t7_ t8_ t9_ t10_
  have b1 : wx.cell? ⟨gx, 1, none⟩ = some (.int .i64 t.tx) := by rw [HKX.out.cell]; rfl
  have b2 : wx.cell? ⟨gx, 2, none⟩ = some (.int .i64 t.try_) := by rw [HKX.out.cell]; rfl
  have kY := Blk.new_ wx 46 #[.int .i64 0, .int .i64 (t.tx + 1), .int .i64 0, .int .i64 0, .int .i64 0, .int .i64 0, .int .i64 0, .slice none 0 0, .slice none 0 0, .int .i64 0, .int .i64 0] _ rfl
  have hbY := Below.alloc (Below.refl wx.heap.size wx) (Nat.le_refl _) (.cells #[.int .i64 0, .int .i64 (t.tx + 1), .int .i64 0, .int .i64 0, .int .i64 0, .int .i64 0, .int .i64 0, .slice none 0 0, .slice none 0 0, .int .i64 0, .int .i64 0] 46)
  obtain ⟨wy, hwy⟩ : ∃ z, wx.alloc (.cells #[.int .i64 0, .int .i64 (t.tx + 1), .int .i64 0, .int .i64 0, .int .i64 0, .int .i64 0, .int .i64 0, .slice none 0 0, .slice none 0 0, .int .i64 0, .int .i64 0] 46) = z := ⟨_, rfl⟩
  rw [hwy] at kY hbY
  have HY := Lib.hid (HX.out.keep hbY)
  have HWY := Lib.hid hwy
  obtain ⟨gy, hgy⟩ : ∃ z, wx.heap.size = z := ⟨_, rfl⟩
  have hgT : a.gT < gy := by have := HX.out.apart.2.2.2.1; omega
  have hgxl : gx < wx.heap.size := HKX.out.lt
  rw [hgy] at kY
  have HGY := Lib.hid hgy
  have HKY := Lib.hid kY
  clear kY hbY hwy hgy
  go_upto_region 4 with fail
  rw [HWY.out, HGY.out]
  clear b1 b2 hwr hgxl
  have r4 : wy.cell? ⟨r, 4, none⟩ = some (.slice (some ⟨a.gT, 0, none⟩) n a.cT) := by rw [HN.out]; exact HY.out.rcells 4
  have kY := HKY.out
  have y0 : wy.cell? ⟨gy, 0, none⟩ = some (.int .i64 0) := by rw [kY.cell]; rfl
  have y1 : wy.cell? ⟨gy, 1, none⟩ = some (.int .i64 (t.tx + 1)) := by rw [kY.cell]; rfl
  have y2 : wy.cell? ⟨gy, 2, none⟩ = some (.int .i64 0) := by rw [kY.cell]; rfl
  have y3 : wy.cell? ⟨gy, 3, none⟩ = some (.int .i64 0) := by rw [kY.cell]; rfl
  have y4 : wy.cell? ⟨gy, 4, none⟩ = some (.int .i64 0) := by rw [kY.cell]; rfl
  have y5 : wy.cell? ⟨gy, 5, none⟩ = some (.int .i64 0) := by rw [kY.cell]; rfl
  have y6 : wy.cell? ⟨gy, 6, none⟩ = some (.int .i64 0) := by rw [kY.cell]; rfl
  have y7 : wy.cell? ⟨gy, 7, none⟩ = some (.slice none 0 0) := by rw [kY.cell]; rfl
  have y8 : wy.cell? ⟨gy, 8, none⟩ = some (.slice none 0 0) := by rw [kY.cell]; rfl
  have y9 : wy.cell? ⟨gy, 9, none⟩ = some (.int .i64 0) := by rw [kY.cell]; rfl
  have y10 : wy.cell? ⟨gy, 10, none⟩ = some (.int .i64 0) := by rw [kY.cell]; rfl
  have HFR := Lib.hid (fun W (hb : wy.drew.grownBy W (some a.gT)) => (show Blk W gy 46 #[.int .i64 0, .int .i64 (t.tx + 1), .int .i64 0, .int .i64 0, .int .i64 0, .int .i64 0, .int .i64 0, .slice none 0 0, .slice none 0 0, .int .i64 0, .int .i64 0] from (HKY.out.drew).grown hb (by intro e; injection e with e; omega)))
  clear kY
  refine wp_region_held_drew (S := fun W => W.cell? ⟨r, 4, none⟩ = some (.slice (some ⟨a.gT, 0, none⟩) n a.cT) ∧ W.cell? ⟨gy, 0, none⟩ = some (.int .i64 0) ∧ W.cell? ⟨gy, 1, none⟩ = some (.int .i64 (t.tx + 1)) ∧ W.cell? ⟨gy, 2, none⟩ = some (.int .i64 0) ∧ W.cell? ⟨gy, 3, none⟩ = some (.int .i64 0) ∧ W.cell? ⟨gy, 4, none⟩ = some (.int .i64 0) ∧ W.cell? ⟨gy, 5, none⟩ = some (.int .i64 0) ∧ W.cell? ⟨gy, 6, none⟩ = some (.int .i64 0) ∧ W.cell? ⟨gy, 7, none⟩ = some (.slice none 0 0) ∧ W.cell? ⟨gy, 8, none⟩ = some (.slice none 0 0) ∧ W.cell? ⟨gy, 9, none⟩ = some (.int .i64 0) ∧ W.cell? ⟨gy, 10, none⟩ = some (.int .i64 0)) (by kernel_rfl) ?_ (fun hdr => ?_)
  · exact ⟨r4, y0, y1, y2, y3, y4, y5, y6, y7, y8, y9, y10⟩
  refine tkA 0 ?_
  refine tkA 1 ?_
  refine tkA 2 ?_
  refine tkA 3 ?_
  refine tkA 4 ?_
  refine tkA 5 ?_
  refine tkA 6 ?_
  refine stA 7 (fun K hK => ?_)
  refine step_rstore_tx (HY.out.keep (Below.refl _ _).drew) HK.out nt (by rw [HNT.out]; exact Tx.zero_rows t how) _ _ (by rfl) rfl rfl (by rw [HNT.out, HNV.out]; rfl) ?_
  intro w2 hR2 hg2
  have HR2 := Lib.hid hR2
  have HF2 := Lib.hid (HFR.out _ hg2)
  clear hR2 hg2
  refine hK.out _ _ ?_ (fun hdr7 => ?_)
  · exact ⟨by rw [HN.out]; have := HR2.out.rcells 4; simpa [memCells] using this, by rw [HF2.out.cell]; rfl, by rw [HF2.out.cell]; rfl, by rw [HF2.out.cell]; rfl, by rw [HF2.out.cell]; rfl, by rw [HF2.out.cell]; rfl, by rw [HF2.out.cell]; rfl, by rw [HF2.out.cell]; rfl, by rw [HF2.out.cell]; rfl, by rw [HF2.out.cell]; rfl, by rw [HF2.out.cell]; rfl, by rw [HF2.out.cell]; rfl⟩
  clear hK K hdr
  try simp only [Act.put, List.setIfInBounds_toArray, List.set_cons_zero, List.set_cons_succ]
  refine wpAnyH_done (by kernel_rfl) ?_ _
  go_wp2
  first | go_end0 | refine bodyPost_ret (results_none rfl _ _ _) rfl ?_
  refine ⟨rfl, ?_⟩
  have := HR2.out
  rw [HNT.out] at this
  exact this

set_option maxHeartbeats 16000000 in
theorem rover_last {k : Nat} {t : Tx} (h : RefW w0 w r a m) (hk : m.T[k]? = some t) (how : Int) (h1 : how = 1) (hn : 3 ≤ t.try_) (htx : 0 ≤ t.tx ∧ t.tx ≤ 1000) :
    Calls Try.prog 80 #[.pointer (some ⟨r, 0, none⟩), .int .i64 (k : Int), .int .i64 how] w fun e w' => e = .returned (.tuple #[]) ∧ RefW w0 w' r a (overM m k t how) := by
  obtain ⟨nt, hnt⟩ : ∃ z, z = overT t how := ⟨_, rfl⟩
  have HNT := Lib.hid hnt
  have HNV := Lib.hid (show (encTx (overT t how)).toArray = #[.int .i64 0, .int .i64 (t.tx + 1), .int .i64 0, .int .i64 0, .int .i64 0, .int .i64 0, .int .i64 0, .slice none 0 0, .slice none 0 0, .int .i64 0, .int .i64 0] from by unfold overT; rw [if_neg (fun e => absurd e.2 (by omega))]; rfl)
  clear hnt
  have hwr : IntKind.i64.wrap (t.tx + 1) = t.tx + 1 := by rw [IntKind.wrap_i64]; omega
  clear htx
  have h1b : (how != 1) = false := by simp [h1]
  clear h1
  have hkl := (List.getElem?_eq_some_iff.1 hk).1
  obtain ⟨n, hn⟩ : ∃ n, n = m.T.length := ⟨_, rfl⟩
  have hk0 : (0 : Int) ≤ (k : Int) := by omega
  have hk1 : (k : Int) < (n : Int) := by omega
  have r4 : w.cell? ⟨r, 4, none⟩ = some (.slice (some ⟨a.gT, 0, none⟩) n a.cT) := by rw [hn]; exact h.rcells 4
  have t0_ := h.tcells hk (j := 0) rfl
  have t1_ := h.tcells hk (j := 1) rfl
  have t2_ := h.tcells hk (j := 2) rfl
  have t3_ := h.tcells hk (j := 3) rfl
  have t4_ := h.tcells hk (j := 4) rfl
  have t5_ := h.tcells hk (j := 5) rfl
  have t6_ := h.tcells hk (j := 6) rfl
  have t7_ := h.tcells hk (j := 7) rfl
  have t8_ := h.tcells hk (j := 8) rfl
  have t9_ := h.tcells hk (j := 9) rfl
  have t10_ := h.tcells hk (j := 10) rfl
  simp only [Nat.add_zero] at t0_
  have hap := h.apart
  have HAP := Lib.hid hap
  have HH := Lib.hid h
  have HK := Lib.hid hk
  have HN := Lib.hid hn
  have kX := Blk.new_ w 46 #[.int .i64 t.st, .int .i64 t.tx, .int .i64 t.try_, .int .i64 t.pc, .int .i64 t.rv, .int .i64 t.wv, .int .i64 t.sum, .slice t.rA t.R.length t.rc, .slice t.wA t.W.length t.wc, .int .i64 t.i, .int .i64 t.fr] _ rfl
  have hbX := Below.alloc (Below.refl w.heap.size w) (Nat.le_refl _) (.cells #[.int .i64 t.st, .int .i64 t.tx, .int .i64 t.try_, .int .i64 t.pc, .int .i64 t.rv, .int .i64 t.wv, .int .i64 t.sum, .slice t.rA t.R.length t.rc, .slice t.wA t.W.length t.wc, .int .i64 t.i, .int .i64 t.fr] 46)
  obtain ⟨wx, hwx⟩ : ∃ z, w.alloc (.cells #[.int .i64 t.st, .int .i64 t.tx, .int .i64 t.try_, .int .i64 t.pc, .int .i64 t.rv, .int .i64 t.wv, .int .i64 t.sum, .slice t.rA t.R.length t.rc, .slice t.wA t.W.length t.wc, .int .i64 t.i, .int .i64 t.fr] 46) = z := ⟨_, rfl⟩
  rw [hwx] at kX hbX
  have HX := Lib.hid (h.keep hbX)
  have HWX := Lib.hid hwx
  have HBX := Lib.hid hbX
  obtain ⟨gx, hgx⟩ : ∃ z, w.heap.size = z := ⟨_, rfl⟩
  rw [hgx] at kX
  have HGX := Lib.hid hgx
  have HKX := Lib.hid kX
  clear kX hbX hwx hgx hap h hk hn hkl
  go_enter Try.func80, Try.ntmps80
  go_upto_region 1 with fail
  rw [HWX.out, HGX.out]
  clear r4 t0_ t1_ t2_ t3_ t4_ t5_ t6_ t7_ t8_ t9_ t10_
  have b1 : wx.cell? ⟨gx, 1, none⟩ = some (.int .i64 t.tx) := by rw [HKX.out.cell]; rfl
  have b2 : wx.cell? ⟨gx, 2, none⟩ = some (.int .i64 t.try_) := by rw [HKX.out.cell]; rfl
  have kY := Blk.new_ wx 46 #[.int .i64 0, .int .i64 (t.tx + 1), .int .i64 0, .int .i64 0, .int .i64 0, .int .i64 0, .int .i64 0, .slice none 0 0, .slice none 0 0, .int .i64 0, .int .i64 0] _ rfl
  have hbY := Below.alloc (Below.refl wx.heap.size wx) (Nat.le_refl _) (.cells #[.int .i64 0, .int .i64 (t.tx + 1), .int .i64 0, .int .i64 0, .int .i64 0, .int .i64 0, .int .i64 0, .slice none 0 0, .slice none 0 0, .int .i64 0, .int .i64 0] 46)
  obtain ⟨wy, hwy⟩ : ∃ z, wx.alloc (.cells #[.int .i64 0, .int .i64 (t.tx + 1), .int .i64 0, .int .i64 0, .int .i64 0, .int .i64 0, .int .i64 0, .slice none 0 0, .slice none 0 0, .int .i64 0, .int .i64 0] 46) = z := ⟨_, rfl⟩
  rw [hwy] at kY hbY
  have HY := Lib.hid (HX.out.keep hbY)
  have HWY := Lib.hid hwy
  obtain ⟨gy, hgy⟩ : ∃ z, wx.heap.size = z := ⟨_, rfl⟩
  have hgT : a.gT < gy := by have := HX.out.apart.2.2.2.1; omega
  have hgxl : gx < wx.heap.size := HKX.out.lt
  rw [hgy] at kY
  have HGY := Lib.hid hgy
  have HKY := Lib.hid kY
  clear kY hbY hwy hgy
  go_upto_region 4 with fail
  rw [HWY.out, HGY.out]
  clear b1 b2 hwr hgxl
  have r4 : wy.cell? ⟨r, 4, none⟩ = some (.slice (some ⟨a.gT, 0, none⟩) n a.cT) := by rw [HN.out]; exact HY.out.rcells 4
  have kY := HKY.out
  have y0 : wy.cell? ⟨gy, 0, none⟩ = some (.int .i64 0) := by rw [kY.cell]; rfl
  have y1 : wy.cell? ⟨gy, 1, none⟩ = some (.int .i64 (t.tx + 1)) := by rw [kY.cell]; rfl
  have y2 : wy.cell? ⟨gy, 2, none⟩ = some (.int .i64 0) := by rw [kY.cell]; rfl
  have y3 : wy.cell? ⟨gy, 3, none⟩ = some (.int .i64 0) := by rw [kY.cell]; rfl
  have y4 : wy.cell? ⟨gy, 4, none⟩ = some (.int .i64 0) := by rw [kY.cell]; rfl
  have y5 : wy.cell? ⟨gy, 5, none⟩ = some (.int .i64 0) := by rw [kY.cell]; rfl
  have y6 : wy.cell? ⟨gy, 6, none⟩ = some (.int .i64 0) := by rw [kY.cell]; rfl
  have y7 : wy.cell? ⟨gy, 7, none⟩ = some (.slice none 0 0) := by rw [kY.cell]; rfl
  have y8 : wy.cell? ⟨gy, 8, none⟩ = some (.slice none 0 0) := by rw [kY.cell]; rfl
  have y9 : wy.cell? ⟨gy, 9, none⟩ = some (.int .i64 0) := by rw [kY.cell]; rfl
  have y10 : wy.cell? ⟨gy, 10, none⟩ = some (.int .i64 0) := by rw [kY.cell]; rfl
  have HFR := Lib.hid (fun W (hb : wy.drew.grownBy W (some a.gT)) => (show Blk W gy 46 #[.int .i64 0, .int .i64 (t.tx + 1), .int .i64 0, .int .i64 0, .int .i64 0, .int .i64 0, .int .i64 0, .slice none 0 0, .slice none 0 0, .int .i64 0, .int .i64 0] from (HKY.out.drew).grown hb (by intro e; injection e with e; omega)))
  clear kY
  refine wp_region_held_drew (S := fun W => W.cell? ⟨r, 4, none⟩ = some (.slice (some ⟨a.gT, 0, none⟩) n a.cT) ∧ W.cell? ⟨gy, 0, none⟩ = some (.int .i64 0) ∧ W.cell? ⟨gy, 1, none⟩ = some (.int .i64 (t.tx + 1)) ∧ W.cell? ⟨gy, 2, none⟩ = some (.int .i64 0) ∧ W.cell? ⟨gy, 3, none⟩ = some (.int .i64 0) ∧ W.cell? ⟨gy, 4, none⟩ = some (.int .i64 0) ∧ W.cell? ⟨gy, 5, none⟩ = some (.int .i64 0) ∧ W.cell? ⟨gy, 6, none⟩ = some (.int .i64 0) ∧ W.cell? ⟨gy, 7, none⟩ = some (.slice none 0 0) ∧ W.cell? ⟨gy, 8, none⟩ = some (.slice none 0 0) ∧ W.cell? ⟨gy, 9, none⟩ = some (.int .i64 0) ∧ W.cell? ⟨gy, 10, none⟩ = some (.int .i64 0)) (by kernel_rfl) ?_ (fun her => ?_)
  · exact ⟨r4, y0, y1, y2, y3, y4, y5, y6, y7, y8, y9, y10⟩
  refine tkA 0 ?_
  refine tkA 1 ?_
  refine tkA 2 ?_
  refine tkA 3 ?_
  refine tkA 4 ?_
  refine tkA 5 ?_
  refine tkA 6 ?_
  refine stA 7 (fun K hK => ?_)
  refine step_rstore_tx (HY.out.keep (Below.refl _ _).drew) HK.out nt (by rw [HNT.out]; exact Tx.zero_rows t how) _ _ (by rfl) rfl rfl (by rw [HNT.out, HNV.out]; rfl) ?_
  intro w2 hR2 hg2
  have HR2 := Lib.hid hR2
  have HF2 := Lib.hid (HFR.out _ hg2)
  clear hR2 hg2
  refine hK.out _ _ ?_ (fun her7 => ?_)
  · exact ⟨by rw [HN.out]; have := HR2.out.rcells 4; simpa [memCells] using this, by rw [HF2.out.cell]; rfl, by rw [HF2.out.cell]; rfl, by rw [HF2.out.cell]; rfl, by rw [HF2.out.cell]; rfl, by rw [HF2.out.cell]; rfl, by rw [HF2.out.cell]; rfl, by rw [HF2.out.cell]; rfl, by rw [HF2.out.cell]; rfl, by rw [HF2.out.cell]; rfl, by rw [HF2.out.cell]; rfl, by rw [HF2.out.cell]; rfl⟩
  clear hK K her
  try simp only [Act.put, List.setIfInBounds_toArray, List.set_cons_zero, List.set_cons_succ]
  refine wpAnyH_done (by kernel_rfl) ?_ _
  go_wp2
  first | go_end0 | refine bodyPost_ret (results_none rfl _ _ _) rfl ?_
  refine ⟨rfl, ?_⟩
  have := HR2.out
  rw [HNT.out] at this
  exact this

theorem rover_any {k : Nat} {t : Tx} (h : RefW w0 w r a m) (hk : m.T[k]? = some t) (how : Int) (htx : 0 ≤ t.tx ∧ t.tx ≤ 1000) :
    Calls Try.prog 80 #[.pointer (some ⟨r, 0, none⟩), .int .i64 (k : Int), .int .i64 how] w fun e w' => e = .returned (.tuple #[]) ∧ RefW w0 w' r a (overM m k t how) := by
  by_cases h1 : how = 1
  · by_cases hn : t.try_ < 3
    · exact rover_again h hk how h1 hn htx
    · exact rover_last h hk how h1 (by omega) htx
  · exact rover_how h hk how h1 htx
set_option maxHeartbeats 4000000 in
theorem rend_any {k : Nat} {t : Tx} (h : RefW w0 w r a m) (hk : m.T[k]? = some t) (how : Int) (hH : m.H.length ≤ 1000) (htx : 0 ≤ t.tx ∧ t.tx ≤ 1000) :
    Calls Try.prog 71 #[.pointer (some ⟨r, 0, none⟩), .int .i64 (k : Int), .int .i64 how] w (RefP w0 r (endM m k t how)) := by
  have HT := Lib.hid (rtell_any h hk how hH)
  have HO := Lib.hid (fun (w : World) A c x (h : RefW w0 w r { a with hA := A, hc := c } { m with H := m.H ++ [x] }) => rover_any h (m := { m with H := m.H ++ [x] }) (t := t) hk how htx)
  clear h hk
  go_enter Try.func71, Try.ntmps71
  go_wp2_with fail
  refine HT.out.mono ?_
  rintro e w1 ⟨rfl, A1, c1, x1, h1, hx1⟩
  have H1 := Lib.hid h1
  have HX1 := Lib.hid hx1
  clear h1 hx1
  go_wp2_with fail
  refine (HO.out _ _ _ _ H1.out).mono ?_
  rintro e w2 ⟨rfl, h2⟩
  have H2 := Lib.hid h2
  clear h2
  go_wp2
  first | go_end0 | refine bodyPost_ret (results_none rfl _ _ _) rfl ?_
  refine ⟨rfl, _, _, H2.out, ?_⟩
  unfold endM overM tellM Mm.er
  simp only [List.map_append, List.map_cons, List.map_nil, HX1.out]
  rfl

def RQuI (w0 w : World) (r : Nat) (a : Ad) (m : Mm) (k : Nat) (i : Nat) (wr : World) : Prop := ∃ A c, RefW w0 wr r { a with lA := A, lc := c } { m with L := dropN m.L (k : Int) i }
set_option maxHeartbeats 16000000 in
theorem rquit_any {k : Nat} {t : Tx} (h : RefW w0 w r a m) (hk : m.T[k]? = some t) (how : Int) (hmay : mayL m.now m.mx m.L = true) (hk4 : k < 4) (hH : m.H.length ≤ 1000) (htx : 0 ≤ t.tx ∧ t.tx ≤ 1000) :
    Calls Try.prog 76 #[.pointer (some ⟨r, 0, none⟩), .int .i64 (k : Int), .int .i64 how] w (RefP w0 r (quitM m k t how)) := by
  have HMAY := Lib.hid hmay
  have hb := may_iff.1 hmay
  have hl0 := hb.2.2.2.1
  have hl8 := hb.2.2.2.2.1
  have HI0 := Lib.hid (show RQuI w0 w r a m k 0 w from ⟨_, _, by simpa [dropN] using h⟩)
  have HE := Lib.hid (fun (w : World) A c (h : RefW w0 w r { a with lA := A, lc := c } { m with L := dropN m.L (k : Int) m.L.length }) => rend_any h (m := { m with L := dropN m.L (k : Int) m.L.length }) (t := t) hk how hH htx)
  have HQ := Lib.hid (show dropN m.L (k : Int) m.L.length = m.L.map (dropO (k : Int)) from by unfold dropN; simp)
  have HK := Lib.hid hk
  obtain ⟨n, hn⟩ : ∃ n, n = m.L.length := ⟨_, rfl⟩
  rw [← hn] at hl0 hl8
  have HN := Lib.hid hn
  clear h hk hmay hb hn
  go_enter Try.func76, Try.ntmps76
  go_wp2_with fail
  go_loopg [6, 7, 8] n (fun gg s6 s7 s8 wr => ∃ i : Nat, s6 = .int .i64 i ∧ i ≤ n ∧ n - i ≤ gg ∧ Hid (RQuI w0 w r a m k i wr))
  case atStart => exact ⟨0, by go_num, by omega, by omega, HI0.out⟩
  case round =>
    obtain ⟨i, rfl, hin, hg, HI⟩ := hrel
    obtain ⟨A, c, hR1⟩ := HI.out
    obtain ⟨L, hL⟩ : ∃ L, L = dropN m.L (k : Int) i := ⟨_, rfl⟩
    have hL2 := dropN_len m.L (k : Int) i (by have := HN.out; omega)
    rw [← hL] at hR1 hL2
    have HLL := Lib.hid (show L.length = n from by rw [hL2, HN.out])
    have HR1 := Lib.hid hR1
    have q3 : wr.cell? ⟨r, 3, none⟩ = some (.slice A n c) := by rw [← HLL.out]; exact hR1.rcells 3
    by_cases hlt : i < n
    · have hltz : (i : Int) < (n : Int) := by omega
      have hi0 : (0 : Int) ≤ (i : Int) := by omega
      have hil : i < m.L.length := by rw [← HN.out]; exact hlt
      have hat := dropN_at m.L (k : Int) i hil
      have hsu := dropN_succ m.L (k : Int) i hil
      have hmy := dropN_may HMAY.out (k : Int) i (by omega)
      rw [← hL] at hat hsu hmy
      have HMY := Lib.hid hmy
      have hLi : i < L.length := by omega
      have HAT := Lib.hid (show L[i] = m.L[i] from by rw [List.getElem?_eq_getElem hLi] at hat; exact Option.some.inj hat)
      have HSU := Lib.hid hsu
      obtain ⟨b, o, hA, hbl, hel⟩ := Sl.pos encL encL_len (Sl.of_own hR1.o.L) (show 0 < ({ m with L := L } : Mm).L.length by show 0 < L.length; omega)
      subst hA
      have e1 := hel wr (Below.refl _ _) i hLi 1 _ rfl
      have e1' : wr.cell? ⟨b, o + i * 2 + 1, none⟩ = some (.int .i64 m.L[i].o) := by rw [← HAT.out]; exact e1
      generalize m.L[i] = l at *
      clear hat hsu hmy hR1 hL hL2 e1 hel
      have q1 : wr.cell? ⟨r, 1, none⟩ = some (.int .i64 m.now) := HR1.out.rcells 1
      have q2 : wr.cell? ⟨r, 2, none⟩ = some (.int .i64 m.mx) := HR1.out.rcells 2
      by_cases ho : l.o = (k : Int)
      · have hob : (l.o == (k : Int)) = true := by simpa using ho
        have HGV := Lib.hid (show giveL m.now m.mx L (i : Int) (k : Int) (-1) = (0, L.set i (dropO (k : Int) l)) from by
          have := give_drop HMY.out k hk4 i hLi (by rw [HAT.out]; exact ho)
          rw [HAT.out] at this; exact this)
        have HGC := Lib.hid (fun (W : World) (hb : Below wr.heap.size wr W) => HGV.out ▸ RGive_any (.agg #[.int .i64 m.now, .int .i64 m.mx, .slice (some ⟨b, o, none⟩) L.length c]) m.now m.mx (i : Int) (k : Int) (-1) L W ((HR1.out.keep hb).lk.to) (by rw [HLL.out]; omega))
        have HNX := Lib.hid (show dropO (k : Int) l = ⟨l.v, -1⟩ from by unfold dropO; rw [if_pos ho])
        rw [HLL.out] at HGC
        clear ho
        go_wp2_with fail
        refine (HGC.out _ (Below.refl _ _)).mono ?_
        rintro e w3 ⟨v3, rfl, hlv3, hown3, hb3⟩
        have HO3 := Lib.hid (hown3 w0.heap.size HR1.out.base.size (by have := HR1.out.lk; rw [show ({ m with L := L } : Mm).L.length = n from HLL.out] at this; exact this))
        obtain ⟨sv3, rfl, hs3⟩ := HO3.out
        obtain ⟨A3, c3, rfl, _, _⟩ := (Sl.of_own hs3).form
        simp only [List.length_set] at hs3
        rw [HLL.out] at hs3
        have HS3 := Lib.hid hs3
        have H3 := Lib.hid (HR1.out.keep hb3)
        have u1 : w3.cell? ⟨r, 1, none⟩ = some (.int .i64 m.now) := H3.out.rcells 1
        have u2 : w3.cell? ⟨r, 2, none⟩ = some (.int .i64 m.mx) := H3.out.rcells 2
        have u3 : w3.cell? ⟨r, 3, none⟩ = some (.slice (some ⟨b, o, none⟩) n c) := by rw [← HLL.out]; exact H3.out.rcells 3
        have uf := H3.out.run.free
        have hrl := H3.out.run.lt
        simp only [List.length_set]
        rw [HLL.out]
        have kC := Blk.new_ w3 30 #[.int .i64 m.now, .int .i64 m.mx, .slice A3 n c3] _ rfl
        have hbC := Below.alloc (Below.refl w3.heap.size w3) (Nat.le_refl _) (.cells #[.int .i64 m.now, .int .i64 m.mx, .slice A3 n c3] 30)
        obtain ⟨w4, hw4⟩ : ∃ z, w3.alloc (.cells #[.int .i64 m.now, .int .i64 m.mx, .slice A3 n c3] 30) = z := ⟨_, rfl⟩
        rw [hw4] at kC hbC
        have HW4 := Lib.hid hw4
        have H4 := Lib.hid (H3.out.keep hbC)
        have HS4 := Lib.hid (own_below HS3.out hbC)
        clear q1 q2 q3 e1' u1 u2 u3 uf hrl hlv3 hown3 hb3 hs3 hw4 hbC
        obtain ⟨g4, hg4⟩ : ∃ z, w3.heap.size = z := ⟨_, rfl⟩
        rw [hg4] at kC
        have HG4 := Lib.hid hg4
        clear hg4
        go_upto_region 5 with fail
        rw [HW4.out, HG4.out]
        have k0 : w4.cell? ⟨g4, 0, none⟩ = some (.int .i64 m.now) := by rw [kC.cell]; rfl
        have k1 : w4.cell? ⟨g4, 1, none⟩ = some (.int .i64 m.mx) := by rw [kC.cell]; rfl
        have k2 : w4.cell? ⟨g4, 2, none⟩ = some (.slice A3 n c3) := by rw [kC.cell]; rfl
        have u1 : w4.cell? ⟨r, 1, none⟩ = some (.int .i64 m.now) := H4.out.rcells 1
        have u2 : w4.cell? ⟨r, 2, none⟩ = some (.int .i64 m.mx) := H4.out.rcells 2
        have u3 : w4.cell? ⟨r, 3, none⟩ = some (.slice (some ⟨b, o, none⟩) n c) := by rw [← HLL.out]; exact H4.out.rcells 3
        have uf := H4.out.run.free
        have hrl := H4.out.run.lt
        clear kC
        go_wp2_with fail
        go_roundg (n - (i + 1))
        case measure => omega
        case rel =>
          refine ⟨i + 1, by go_num, by omega, by omega, (show Hid _ from ⟨A3, c3, ?_⟩)⟩
          have e := H4.out.setC (now := m.now) (mx := m.mx) (L := L.set i (dropO (k : Int) l)) (A := A3) (c := c3) (by rw [List.length_set, HLL.out]; exact HS4.out)
          rw [List.length_set, HLL.out] at e
          rw [HSU.out]
          exact e
      · have hob : (l.o == (k : Int)) = false := by simpa using ho
        have HNX := Lib.hid (show dropO (k : Int) l = l from by unfold dropO; rw [if_neg ho])
        clear ho
        go_wp2_with fail
        go_roundg (n - (i + 1))
        case measure => omega
        case rel =>
          refine ⟨i + 1, by go_num, by omega, by omega, (show Hid _ from ⟨some ⟨b, o, none⟩, c, ?_⟩)⟩
          have e : L.set i (dropO (k : Int) l) = L := by rw [HNX.out, ← HAT.out, List.set_getElem_self]
          rw [HSU.out, e]
          exact HR1.out
    · obtain rfl : n = i := by omega
      have HR2 := Lib.hid (show RefW w0 wr r { a with lA := A, lc := c } { m with L := dropN m.L (k : Int) m.L.length } from by rw [← HN.out, ← hL]; exact HR1.out)
      clear hR1 hL hL2
      go_wp2_with fail
      refine (HE.out _ _ _ HR2.out).mono ?_
      rintro e w3 ⟨rfl, a', m2, h2, he⟩
      have HP := Lib.hid (And.intro h2 he)
      clear h2 he
      go_wp2
      first | go_end0 | refine bodyPost_ret (results_none rfl _ _ _) rfl ?_
      exact ⟨rfl, a', m2, HP.out.1, HP.out.2.trans (by unfold quitM; rw [HQ.out])⟩

end
end Go.Proofs.Ytngimbfojccikaa
