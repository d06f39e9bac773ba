/- foliateref19: hold, tick, check: printed by rs_hold.py. -/
import Derived.Test.YtngimbfojccikaaRsTellm
import Derived.Test.YtngimbfojccikaaStStepm
namespace Go.Proofs.Ytngimbfojccikaa
set_option linter.unusedSimpArgs false
open Go Go.RowKit
set_option linter.unusedVariables false
set_option maxRecDepth 100000

section
variable {w0 w w' : World} {r : Nat} {a : Ad} {m : Mm}
/-- A thread's own box is turned: the state stays. -/
theorem RefW.tbox (h : RefW w0 w r a m) {g : Nat} {cs : Array Value} (hb : Blk w g 46 cs) (hg : w.grownBy w' (some g)) (hne : a.gT ≠ g) (hge : w0.heap.size ≤ g) : RefW w0 w' r a m := by
  refine ⟨h.base.grown hg h.base.size (fun k e => by cases e; exact hge), h.rge, h.run.grown hg ?_, own_ty h.o.W hg hb (by decide), own_ty h.o.L hg hb (by decide), h.o.T.kept (row := some g) hg (.inr (fun e => hne (by simpa [Value.ownBlock] using e))), own_ty h.o.H hg hb (by decide), fun t ht => ⟨own_ty (h.o.ts t ht).1 hg hb (by decide), own_ty (h.o.ts t ht).2 hg hb (by decide)⟩, fun x hx => ⟨own_ty (h.o.hs x hx).1 hg hb (by decide), own_ty (h.o.hs x hx).2 hg hb (by decide)⟩⟩
  intro e
  injection e with e
  have h1 := h.run
  rw [e] at h1
  exact absurd (blk_ne hb h1) (by decide)
theorem Blk.rfar {g : Nat} {t : TypeId} {cs cs' : Array Value} (h : Blk w g t cs) (hr : Blk w r 34 cs') (hne : t ≠ 34) (j : Nat) (u : Value) : Blk (w.setCell ⟨r, j, none⟩ u) g t cs :=
  h.far (p := ⟨r, j, none⟩) (fun e => by simp only at e; subst e; exact hne (blk_ne h hr)) u

theorem take_set_succ (cs : List Value) (o : Nat) (u : Value) (h : o < cs.length) : (cs.set o u).take (o + 1) = cs.take o ++ [u] := by
  rw [List.take_add_one, List.getElem?_set_self h, List.take_set_of_le (Nat.le_refl _)]
  rfl
theorem blk_setCells {g : Nat} {t : TypeId} : ∀ (us : List Value) (o : Nat) (w : World) (cs : List Value), Blk w g t cs.toArray → o + us.length ≤ cs.length → Blk (w.setCells g o us) g t (cs.take o ++ us ++ cs.drop (o + us.length)).toArray
  | [], o, w, cs, h, _ => by simpa [World.setCells] using h
  | u :: us, o, w, cs, h, hl => by
    rw [World.setCells]
    have h1 := h.set_ o u
    rw [List.setIfInBounds_toArray] at h1
    simp only [List.length_cons] at hl
    have h2 := blk_setCells us (o + 1) _ _ h1 (by rw [List.length_set]; omega)
    rw [take_set_succ cs o u (by omega), List.drop_set_of_lt (by omega)] at h2
    have e : cs.take o ++ [u] ++ us ++ cs.drop (o + 1 + us.length) = cs.take o ++ u :: us ++ cs.drop (o + (u :: us).length) := by
      rw [List.length_cons, show o + (us.length + 1) = o + 1 + us.length by omega]; simp
    rw [e] at h2
    exact h2
theorem wp_store_box {o : Oper} {ac : Act} {w : World} {K : Act → World → Prop} {Q : Exit → Act → World → Prop} (g : Nat) (t : TypeId) (cs : List Value) (hg : Blk w g t cs.toArray) (vs : List Value) (hl : vs.length = cs.length) (hi : (Try.prog.info? t).map (·.size) = some vs.length) (h1 : ∀ u ∈ vs, u.oneCell' = true)
    (x y : Operand) (ho : o.op = .store t x y) (hx : ac.eval x = .pointer (some ⟨g, 0, none⟩)) (hy : ac.eval y = .agg vs.toArray)
    (kk : ∀ w', Blk w' g t vs.toArray → w.grownBy w' (some g) → K (ac.put o.dst undef) w') : Oper.wp Try.prog o ac w K Q := by
  refine wp_store_mid t x y ho g 0 vs.toArray hx hy (fun j hj => ?_) (by rw [hi]; simp) (by rw [List.all_toArray]; exact List.all_eq_true.2 h1) (kk _ ?_ (grown_setCells _ _ _ _ _ ⟨rfl, rfl, rfl, Nat.le_refl _, fun _ _ _ => rfl⟩))
  · have hj' : j < cs.length := by rw [← hl]; simpa using hj
    refine ⟨?_, hg.free _⟩
    rw [hg.cell, Nat.zero_add, List.getElem?_toArray, List.getElem?_eq_getElem hj']
    rfl
  · have := blk_setCells vs 0 w cs hg (by omega)
    rw [List.take_zero, List.nil_append, Nat.zero_add, hl, List.drop_length, List.append_nil] at this
    exact this
theorem step_store_box {ops : Array Oper} {o : Oper} {ac : Act} {w : World} {K : Act → World → Prop} {Q : Exit → Act → World → Prop} {E : Prop} (g : Nat) (t : TypeId) (cs : List Value) (hg : Blk w g t cs.toArray) (vs : List Value) (hl : vs.length = cs.length) (hi : (Try.prog.info? t).map (·.size) = some vs.length) (h1 : ∀ u ∈ vs, u.oneCell' = true)
    (x y : Operand) (hw : Region.wanted o (yielded ops ac.tmps) = true) (ho : o.op = .store t x y) (hx : ac.eval x = .pointer (some ⟨g, 0, none⟩)) (hy : ac.eval y = .agg vs.toArray)
    (kk : ∀ w', Blk w' g t vs.toArray → w.grownBy w' (some g) → K (ac.put o.dst undef) w') : if Region.wanted o (yielded ops ac.tmps) = true then Oper.wp Try.prog o ac w K Q else E := by
  rw [if_pos hw]
  exact wp_store_box g t cs hg vs hl hi h1 x y ho hx hy kk
theorem locks_size : (Try.prog.info? 30).map (·.size) = some 3 := by kernel_rfl

set_option maxHeartbeats 16000000 in
theorem rhold_any {words : Nat} {txs : List (List Ac)} {pl : List (List (List Ac))} {k : Nat} {t : Tx} (h : RefW w0 w r a m) (hk : m.T[k]? = some t) (hg : Good words pl m) (gt : GoodT words txs t) (hst : t.st = 2) (hk4 : k < 4) (hH : m.H.length ≤ 1000) (htx : 0 ≤ t.tx ∧ t.tx ≤ 1000) :
    Calls Try.prog 51 #[.pointer (some ⟨r, 0, none⟩), .int .i64 (k : Int)] w (RefP w0 r (holdM m k t)) := by
  obtain ⟨x, hx⟩ : ∃ x, t.W[t.i.toNat]? = some x := ⟨_, List.getElem?_eq_getElem (by have h1 := gt.i2 hst; have h2 := gt.i0; omega)⟩
  have HSP := Lib.hid (show holdM m k t = if (takeL m.now m.mx m.L x.at_ k).1 = 0 then { m with L := (takeL m.now m.mx m.L x.at_ k).2, T := m.T.set k { t with i := t.i + 1, st := if t.i + 1 = t.W.length then 3 else t.st } } else quitM m k t 1 from by unfold holdM; rw [hx])
  obtain ⟨q, hq⟩ : ∃ q : Nat, t.i = (q : Int) := ⟨t.i.toNat, by have := gt.i0; omega⟩
  rw [hq, Int.toNat_natCast] at hx
  have HQ := Lib.hid hq
  have hql := (List.getElem?_eq_some_iff.1 hx).1
  obtain ⟨nw, hnw⟩ : ∃ z, z = t.W.length := ⟨_, rfl⟩
  have HNW := Lib.hid hnw
  have hqn : (q : Int) < (nw : Int) := by omega
  have hq0 : (0 : Int) ≤ (q : Int) := by omega
  have hnw9 : nw ≤ 9223372036854775807 := by obtain ⟨_, _, _, h6, h7⟩ := (Sl.of_own (h.ts hk).2).form; unfold maxLen at h7; omega
  obtain ⟨bw, ow, ew, hbw, hcw⟩ := Sl.pos encPr encPr_len (Sl.of_own (h.ts hk).2) (by omega)
  have hxw := (List.getElem?_eq_some_iff.1 hx).2
  have HCW := Lib.hid (fun W (hb : Below w.heap.size w W) => (show W.cell? ⟨bw, ow + q * 2, none⟩ = some (.int .i64 x.at_) from by have := hcw W hb q hql 0 _ rfl; rw [hxw] at this; simpa using this))
  have HEW := Lib.hid ew
  have HMAY := Lib.hid hg.may
  have HLL := Lib.hid (show m.L.length ≤ 1000 from by have := (may_iff.1 hg.may).2.2.2.2.1; omega)
  clear hx hxw hcw hbw hg gt hst hq hql hnw ew
  have hkl := (List.getElem?_eq_some_iff.1 hk).1
  obtain ⟨n, hn⟩ : ∃ n, n = m.T.length := ⟨_, rfl⟩
  have hk0 : (0 : Int) ≤ (k : Int) := by omega
  have hk1 : (k : Int) < (n : Int) := by omega
  have r4 : w.cell? ⟨r, 4, none⟩ = some (.slice (some ⟨a.gT, 0, none⟩) n a.cT) := by rw [hn]; exact h.rcells 4
  have t0_ := h.tcells hk (j := 0) rfl
  have t1_ := h.tcells hk (j := 1) rfl
  have t2_ := h.tcells hk (j := 2) rfl
  have t3_ := h.tcells hk (j := 3) rfl
  have t4_ := h.tcells hk (j := 4) rfl
  have t5_ := h.tcells hk (j := 5) rfl
  have t6_ := h.tcells hk (j := 6) rfl
  have t7_ := h.tcells hk (j := 7) rfl
  have t8_ := h.tcells hk (j := 8) rfl
  have t9_ := h.tcells hk (j := 9) rfl
  have t10_ := h.tcells hk (j := 10) rfl
  simp only [Nat.add_zero] at t0_
  have hap := h.apart
  have HAP := Lib.hid hap
  have HH := Lib.hid h
  have HK := Lib.hid hk
  have HN := Lib.hid hn
  have kX := Blk.new_ w 46 #[.int .i64 t.st, .int .i64 t.tx, .int .i64 t.try_, .int .i64 t.pc, .int .i64 t.rv, .int .i64 t.wv, .int .i64 t.sum, .slice t.rA t.R.length t.rc, .slice t.wA t.W.length t.wc, .int .i64 t.i, .int .i64 t.fr] _ rfl
  have hbX := Below.alloc (Below.refl w.heap.size w) (Nat.le_refl _) (.cells #[.int .i64 t.st, .int .i64 t.tx, .int .i64 t.try_, .int .i64 t.pc, .int .i64 t.rv, .int .i64 t.wv, .int .i64 t.sum, .slice t.rA t.R.length t.rc, .slice t.wA t.W.length t.wc, .int .i64 t.i, .int .i64 t.fr] 46)
  obtain ⟨wx, hwx⟩ : ∃ z, w.alloc (.cells #[.int .i64 t.st, .int .i64 t.tx, .int .i64 t.try_, .int .i64 t.pc, .int .i64 t.rv, .int .i64 t.wv, .int .i64 t.sum, .slice t.rA t.R.length t.rc, .slice t.wA t.W.length t.wc, .int .i64 t.i, .int .i64 t.fr] 46) = z := ⟨_, rfl⟩
  rw [hwx] at kX hbX
  have HX := Lib.hid (h.keep hbX)
  have HWX := Lib.hid hwx
  have HBX := Lib.hid hbX
  obtain ⟨gx, hgx⟩ : ∃ z, w.heap.size = z := ⟨_, rfl⟩
  rw [hgx] at kX
  have HGX := Lib.hid hgx
  have HKX := Lib.hid kX
  clear kX hbX hwx hgx hap h hk hn hkl
  go_enter Try.func51, Try.ntmps51
  go_upto_region 1 with fail
  rw [HWX.out, HGX.out]
  clear r4 t0_ t1_ t2_ t3_ t4_ t5_ t6_ t7_ t8_ t9_ t10_
  have HLT := Lib.hid (show a.gT < gx from by have h1 := HAP.out.2.2.2.1; have h2 := HGX.out; omega)
  have HC := Lib.hid (fun W (hb : Below wx.heap.size wx W) => (show W.cell? ⟨r, 1, none⟩ = some (.int .i64 m.now) ∧ W.cell? ⟨r, 2, none⟩ = some (.int .i64 m.mx) ∧ W.cell? ⟨r, 3, none⟩ = some (.slice a.lA m.L.length a.lc) ∧ W.cell? ⟨gx, 8, none⟩ = some (.slice (some ⟨bw, ow, none⟩) nw t.wc) ∧ W.cell? ⟨gx, 9, none⟩ = some (.int .i64 (q : Int)) ∧ W.cell? ⟨bw, ow + q * 2, none⟩ = some (.int .i64 x.at_) from ⟨(HX.out.keep hb).rcells 1, (HX.out.keep hb).rcells 2, (HX.out.keep hb).rcells 3, by rw [(HKX.out.keep hb).cell, ← HEW.out, HNW.out]; rfl, by rw [(HKX.out.keep hb).cell, ← HQ.out]; rfl, HCW.out W (HBX.out.trans (hb.mono HBX.out.size))⟩))
  have HTK := Lib.hid (fun W (hb : Below wx.heap.size wx W) => RTake_any (.agg #[.int .i64 m.now, .int .i64 m.mx, .slice a.lA m.L.length a.lc]) m.now m.mx x.at_ (k : Int) m.L W ((HX.out.keep hb).lk.to) HLL.out)
  obtain ⟨tr, htr⟩ : ∃ z, z = takeL m.now m.mx m.L x.at_ (k : Int) := ⟨_, rfl⟩
  rw [← htr] at HTK HSP
  obtain ⟨te, tl⟩ := tr
  dsimp only at HSP
  clear htr
  go_cut [5, 6] (fun s5 s6 wq => ∃ g A3 c3, s5 = .pointer (some ⟨g, 0, none⟩) ∧ s6 = .int .i64 te ∧ Hid (w.heap.size ≤ g ∧ Below wx.heap.size wx wq ∧ Blk wq g 30 #[.int .i64 m.now, .int .i64 m.mx, .slice A3 tl.length c3] ∧ RowL wq w0.heap.size (.slice A3 tl.length c3) tl))
  case first =>
    obtain ⟨wz, hwz⟩ : ∃ z, wx.drew = z := ⟨_, rfl⟩
    have hBB : Below wx.heap.size wx wz := hwz ▸ (Below.refl _ _).drew
    have HWZ := Lib.hid hwz
    clear hwz
    refine wp_region_held_drew (S := fun W => W.cell? ⟨r, 1, none⟩ = some (.int .i64 m.now) ∧ W.cell? ⟨r, 2, none⟩ = some (.int .i64 m.mx) ∧ W.cell? ⟨r, 3, none⟩ = some (.slice a.lA m.L.length a.lc) ∧ W.cell? ⟨gx, 8, none⟩ = some (.slice (some ⟨bw, ow, none⟩) nw t.wc) ∧ W.cell? ⟨gx, 9, none⟩ = some (.int .i64 (q : Int)) ∧ W.cell? ⟨bw, ow + q * 2, none⟩ = some (.int .i64 x.at_)) (by kernel_rfl) ?_ (fun hbr => ?_)
    · exact HC.out _ (Below.refl _ _).drew
    refine tkA 0 ?_
    refine tkA 1 ?_
    refine tkA 2 ?_
    refine tkA 3 ?_
    refine tkA 4 ?_
    refine tkA 5 ?_
    refine tkA 6 ?_
    refine tkA 7 ?_
    refine tkA 8 ?_
    refine tkA 9 ?_
    refine tkA 10 ?_
    refine tkA 11 ?_
    refine wpAnyH_ready (rs := [12, 16]) (by kernel_rfl) (by simp) ?_
    refine conA (fun K hK => ?_) ?_
    · (try rw [HWZ.out])
      go_simp
      refine (HTK.out _ hBB).mono ?_
      rintro e wz ⟨v3, rfl, hlv3, hown3, hb3⟩
      have hO3 := hown3 w0.heap.size (HX.out.keep hBB).base.size (HX.out.keep hBB).lk
      obtain ⟨sv3, rfl, hs3⟩ := hO3
      obtain ⟨A3, c3, rfl, _, _⟩ := (Sl.of_own hs3).form
      (try replace kG := kG.keep hb3)
      replace hBB := hBB.trans (hb3.mono hBB.size)
      clear hlv3 hown3 hb3
      refine hK.out _ _ ?_ (fun hbr12b13 => ?_)
      · exact HC.out _ hBB
      clear hK K hbr
      try simp only [Act.put, List.setIfInBounds_toArray, List.set_cons_zero, List.set_cons_succ]
      refine tkA 13 ?_
      refine tkA 14 ?_
      refine tkA 15 ?_
      refine stA 16 (fun K hK => ?_)
      (try rw [HWZ.out])
      go_simp
      have hb := Below.alloc (Below.refl wz.heap.size wz) (Nat.le_refl _) (.cells #[.int .i64 0, .int .i64 0, .slice none 0 0] 30)
      have kG := Blk.new wz 30 #[.int .i64 0, .int .i64 0, .slice none 0 0]
      have hgl := hBB.size
      obtain ⟨g, hgg⟩ : ∃ g, wz.heap.size = g := ⟨_, rfl⟩
      obtain ⟨wz, hwy⟩ : ∃ z, wz.alloc (.cells #[.int .i64 0, .int .i64 0, .slice none 0 0] 30) = z := ⟨_, rfl⟩
      rw [hwy] at hb kG ⊢
      rw [hgg] at kG hgl ⊢
      (try replace hs3 := own_below hs3 hb)
      replace hBB := hBB.trans (hb.mono hBB.size)
      clear hb hgg hwy
      refine hK.out _ _ ?_ (fun hbr16b17 => ?_)
      · exact HC.out _ hBB
      clear hK K hbr12b13
      try simp only [Act.put, List.setIfInBounds_toArray, List.set_cons_zero, List.set_cons_succ]
      refine stA 17 (fun K hK => ?_)
      refine step_store_box g 30 _ kG [.int .i64 m.now, .int .i64 m.mx, .slice A3 tl.length c3] rfl locks_size (by simp [Value.oneCell']) (.tmp 5) (.tmp 28) (by rfl) rfl rfl rfl ?_
      rintro wz kG2 hgz
      replace hs3 := own_ty hs3 hgz kG (by decide)
      replace hBB := hBB.grown hgz hBB.size (fun k hk => by injection hk with hk; omega)
      clear hgz kG
      refine hK.out _ _ ?_ (fun hbr17b18 => ?_)
      · exact HC.out _ hBB
      clear hK K hbr16b17
      try simp only [Act.put, List.setIfInBounds_toArray, List.set_cons_zero, List.set_cons_succ]
      refine stA 18 (fun K hK => ?_)
      go_simp
      refine hK.out _ _ ?_ (fun hbr18b19 => ?_)
      · exact HC.out _ hBB
      clear hK K hbr17b18
      try simp only [Act.put, List.setIfInBounds_toArray, List.set_cons_zero, List.set_cons_succ]
      refine wpAnyH_done (by kernel_rfl) ?_ _
      go_wp2_with fail
      go_meet
      exact ⟨g, A3, c3, rfl, rfl, (show Hid _ from ⟨Nat.le_trans HBX.out.size hgl, hBB, kG2, hs3⟩)⟩
    refine conA (fun K hK => ?_) ?_
    · (try rw [HWZ.out])
      go_simp
      have hb := Below.alloc (Below.refl wz.heap.size wz) (Nat.le_refl _) (.cells #[.int .i64 0, .int .i64 0, .slice none 0 0] 30)
      have kG := Blk.new wz 30 #[.int .i64 0, .int .i64 0, .slice none 0 0]
      have hgl := hBB.size
      obtain ⟨g, hgg⟩ : ∃ g, wz.heap.size = g := ⟨_, rfl⟩
      obtain ⟨wz, hwy⟩ : ∃ z, wz.alloc (.cells #[.int .i64 0, .int .i64 0, .slice none 0 0] 30) = z := ⟨_, rfl⟩
      rw [hwy] at hb kG ⊢
      rw [hgg] at kG hgl ⊢
      (try replace hs3 := own_below hs3 hb)
      replace hBB := hBB.trans (hb.mono hBB.size)
      clear hb hgg hwy
      refine hK.out _ _ ?_ (fun hbr16b20 => ?_)
      · exact HC.out _ hBB
      clear hK K hbr
      try simp only [Act.put, List.setIfInBounds_toArray, List.set_cons_zero, List.set_cons_succ]
      refine stA 12 (fun K hK => ?_)
      (try rw [HWZ.out])
      go_simp
      refine (HTK.out _ hBB).mono ?_
      rintro e wz ⟨v3, rfl, hlv3, hown3, hb3⟩
      have hO3 := hown3 w0.heap.size (HX.out.keep hBB).base.size (HX.out.keep hBB).lk
      obtain ⟨sv3, rfl, hs3⟩ := hO3
      obtain ⟨A3, c3, rfl, _, _⟩ := (Sl.of_own hs3).form
      (try replace kG := kG.keep hb3)
      replace hBB := hBB.trans (hb3.mono hBB.size)
      clear hlv3 hown3 hb3
      refine hK.out _ _ ?_ (fun hbr12b21 => ?_)
      · exact HC.out _ hBB
      clear hK K hbr16b20
      try simp only [Act.put, List.setIfInBounds_toArray, List.set_cons_zero, List.set_cons_succ]
      refine tkA 13 ?_
      refine tkA 14 ?_
      refine tkA 15 ?_
      refine stA 17 (fun K hK => ?_)
      refine step_store_box g 30 _ kG [.int .i64 m.now, .int .i64 m.mx, .slice A3 tl.length c3] rfl locks_size (by simp [Value.oneCell']) (.tmp 5) (.tmp 28) (by rfl) rfl rfl rfl ?_
      rintro wz kG2 hgz
      replace hs3 := own_ty hs3 hgz kG (by decide)
      replace hBB := hBB.grown hgz hBB.size (fun k hk => by injection hk with hk; omega)
      clear hgz kG
      refine hK.out _ _ ?_ (fun hbr17b25 => ?_)
      · exact HC.out _ hBB
      clear hK K hbr12b21
      try simp only [Act.put, List.setIfInBounds_toArray, List.set_cons_zero, List.set_cons_succ]
      refine stA 18 (fun K hK => ?_)
      go_simp
      refine hK.out _ _ ?_ (fun hbr18b26 => ?_)
      · exact HC.out _ hBB
      clear hK K hbr17b25
      try simp only [Act.put, List.setIfInBounds_toArray, List.set_cons_zero, List.set_cons_succ]
      refine wpAnyH_done (by kernel_rfl) ?_ _
      go_wp2_with fail
      go_meet
      exact ⟨g, A3, c3, rfl, rfl, (show Hid _ from ⟨Nat.le_trans HBX.out.size hgl, hBB, kG2, hs3⟩)⟩
    exact AllReadyH.nil
  case rest =>
    obtain ⟨g, A3, c3, rfl, rfl, HCUT⟩ := hcut
    obtain ⟨hgl, hBC, hKG, hRL⟩ := HCUT.out
    have HH2 := Lib.hid (HX.out.keep hBC)
    have HKX2 := Lib.hid (HKX.out.keep hBC)
    have HKG := Lib.hid hKG
    have HRL := Lib.hid hRL
    clear HCUT hgl hBC hKG hRL
    by_cases he : te = 0
    case neg =>
      have heb : (te != 0) = true := by simpa using he
      have HNE := Lib.hid he
      have HQT := Lib.hid (rquit_any HH2.out HK.out 1 HMAY.out hk4 hH htx)
      clear he hH htx
      go_wp2_with fail
      refine HQT.out.mono ?_
      rintro e w5 ⟨rfl, hp⟩
      have HP := Lib.hid hp
      clear hp
      go_wp2
      first | go_end0 | refine bodyPost_ret (results_none rfl _ _ _) rfl ?_
      rw [HSP.out, if_neg HNE.out]
      exact ⟨rfl, HP.out⟩
    subst he
    have HSQ := Lib.hid (HSP.out.trans (if_pos rfl))
    obtain ⟨nl, hnl⟩ : ∃ z, z = tl.length := ⟨_, rfl⟩
    have HNL := Lib.hid hnl
    rw [← hnl] at HKG HRL
    have HR3 := Lib.hid (HH2.out.setC (now := m.now) (mx := m.mx) (L := tl) (A := A3) (c := c3) (by rw [← HNL.out]; exact HRL.out))
    have HKX3 := Lib.hid (((HKX2.out.rfar HH2.out.run (by decide) 1 (.int .i64 m.now)).rfar (HH2.out.run.set_ 1 _) (by decide) 2 (.int .i64 m.mx)).rfar ((HH2.out.run.set_ 1 _).set_ 2 _) (by decide) 3 (.slice A3 nl c3))
    rw [← HNL.out] at HR3
    have k0 : wc.cell? ⟨g, 0, none⟩ = some (.int .i64 m.now) := by rw [HKG.out.cell]; rfl
    have k1 : wc.cell? ⟨g, 1, none⟩ = some (.int .i64 m.mx) := by rw [HKG.out.cell]; rfl
    have k2 : wc.cell? ⟨g, 2, none⟩ = some (.slice A3 nl c3) := by rw [HKG.out.cell]; rfl
    have u1 : wc.cell? ⟨r, 1, none⟩ = some (.int .i64 m.now) := HH2.out.rcells 1
    have u2 : wc.cell? ⟨r, 2, none⟩ = some (.int .i64 m.mx) := HH2.out.rcells 2
    have u3 : wc.cell? ⟨r, 3, none⟩ = some (.slice a.lA m.L.length a.lc) := HH2.out.rcells 3
    have uf := HH2.out.run.free
    have hrl := HH2.out.run.lt
    clear hnl
    go_upto_region 5 with fail
    obtain ⟨w5, hw5⟩ : ∃ z, ((wc.setCell ⟨r, 1, none⟩ (.int .i64 m.now)).setCell ⟨r, 2, none⟩ (.int .i64 m.mx)).setCell ⟨r, 3, none⟩ (.slice A3 nl c3) = z := ⟨_, rfl⟩
    rw [hw5] at HR3 HKX3 ⊢
    clear hw5 k0 k1 k2 u1 u2 u3 uf hrl
    have x9 : w5.cell? ⟨gx, 9, none⟩ = some (.int .i64 t.i) := by rw [HKX3.out.cell]; rfl
    have xf := HKX3.out.free
    have xl := HKX3.out.lt
    have hwr : IntKind.i64.wrap (t.i + 1) = t.i + 1 := by rw [IntKind.wrap_i64, HQ.out]; omega
    have HGE := Lib.hid (show w0.heap.size ≤ gx from by have h1 := HH.out.base.size; have h2 := HGX.out; omega)
    have HR4 := Lib.hid (HR3.out.tbox HKX3.out (grown_setCell w5 ⟨gx, 9, none⟩ (.int .i64 (t.i + 1))) (by have := HLT.out; show ¬ a.gT = gx; omega) HGE.out)
    have HKX4 := Lib.hid (HKX3.out.set_ 9 (.int .i64 (t.i + 1)))
    go_upto_region 6 with fail
    obtain ⟨w6, hw6⟩ : ∃ z, w5.setCell ⟨gx, 9, none⟩ (.int .i64 (t.i + 1)) = z := ⟨_, rfl⟩
    rw [hw6] at HR4 HKX4 ⊢
    clear hw6 x9 xf xl hwr
    have x8 : w6.cell? ⟨gx, 8, none⟩ = some (.slice t.wA nw t.wc) := by rw [HKX4.out.cell, HNW.out]; rfl
    have x9 : w6.cell? ⟨gx, 9, none⟩ = some (.int .i64 (t.i + 1)) := by rw [HKX4.out.cell]; rfl
    have x0 : w6.cell? ⟨gx, 0, none⟩ = some (.int .i64 t.st) := by rw [HKX4.out.cell]; rfl
    have xf := HKX4.out.free
    have xl := HKX4.out.lt
    by_cases hl : t.i + 1 = (nw : Int)
    · have hlb : (t.i + 1 == (nw : Int)) = true := by simpa using hl
      have HL := Lib.hid hl
      have HR5 := Lib.hid (HR4.out.tbox HKX4.out (grown_setCell w6 ⟨gx, 0, none⟩ (.int .i64 3)) (by have := HLT.out; show ¬ a.gT = gx; omega) HGE.out)
      have HKX5 := Lib.hid (HKX4.out.set_ 0 (.int .i64 3))
      clear hl
      go_upto_region 8 with fail
      obtain ⟨w7, hw7⟩ : ∃ z, w6.setCell ⟨gx, 0, none⟩ (.int .i64 3) = z := ⟨_, rfl⟩
      rw [hw7] at HR5 HKX5 ⊢
      clear hw7 x8 x9 x0 xf xl hlb
      have HPR := Lib.hid (fun W (h : RefW w0 W r { a with lA := A3, lc := c3 } { m with now := m.now, mx := m.mx, L := tl }) => (show PRow W w0.heap.size t.rA t.rc t.R ∧ PRow W w0.heap.size t.wA t.wc t.W from h.ts (k := k) HK.out))

      have r4 : w7.cell? ⟨r, 4, none⟩ = some (.slice (some ⟨a.gT, 0, none⟩) n a.cT) := by rw [HN.out]; exact HR5.out.rcells 4
      have y0 : w7.cell? ⟨gx, 0, none⟩ = some (.int .i64 3) := by rw [HKX5.out.cell]; rfl
      have y1 : w7.cell? ⟨gx, 1, none⟩ = some (.int .i64 t.tx) := by rw [HKX5.out.cell]; rfl
      have y2 : w7.cell? ⟨gx, 2, none⟩ = some (.int .i64 t.try_) := by rw [HKX5.out.cell]; rfl
      have y3 : w7.cell? ⟨gx, 3, none⟩ = some (.int .i64 t.pc) := by rw [HKX5.out.cell]; rfl
      have y4 : w7.cell? ⟨gx, 4, none⟩ = some (.int .i64 t.rv) := by rw [HKX5.out.cell]; rfl
      have y5 : w7.cell? ⟨gx, 5, none⟩ = some (.int .i64 t.wv) := by rw [HKX5.out.cell]; rfl
      have y6 : w7.cell? ⟨gx, 6, none⟩ = some (.int .i64 t.sum) := by rw [HKX5.out.cell]; rfl
      have y7 : w7.cell? ⟨gx, 7, none⟩ = some (.slice t.rA t.R.length t.rc) := by rw [HKX5.out.cell]; rfl
      have y8 : w7.cell? ⟨gx, 8, none⟩ = some (.slice t.wA t.W.length t.wc) := by rw [HKX5.out.cell]; rfl
      have y9 : w7.cell? ⟨gx, 9, none⟩ = some (.int .i64 (t.i + 1)) := by rw [HKX5.out.cell]; rfl
      have y10 : w7.cell? ⟨gx, 10, none⟩ = some (.int .i64 t.fr) := by rw [HKX5.out.cell]; rfl
      have HFR := Lib.hid (fun W (hb : w7.drew.grownBy W (some a.gT)) => (show Blk W gx 46 #[.int .i64 3, .int .i64 t.tx, .int .i64 t.try_, .int .i64 t.pc, .int .i64 t.rv, .int .i64 t.wv, .int .i64 t.sum, .slice t.rA t.R.length t.rc, .slice t.wA t.W.length t.wc, .int .i64 (t.i + 1), .int .i64 t.fr] from (HKX5.out.drew).grown hb (by intro e; injection e with e; have := HLT.out; omega)))
      refine wp_region_held_drew (S := fun W => W.cell? ⟨r, 4, none⟩ = some (.slice (some ⟨a.gT, 0, none⟩) n a.cT) ∧ W.cell? ⟨gx, 0, none⟩ = some (.int .i64 3) ∧ W.cell? ⟨gx, 1, none⟩ = some (.int .i64 t.tx) ∧ W.cell? ⟨gx, 2, none⟩ = some (.int .i64 t.try_) ∧ W.cell? ⟨gx, 3, none⟩ = some (.int .i64 t.pc) ∧ W.cell? ⟨gx, 4, none⟩ = some (.int .i64 t.rv) ∧ W.cell? ⟨gx, 5, none⟩ = some (.int .i64 t.wv) ∧ W.cell? ⟨gx, 6, none⟩ = some (.int .i64 t.sum) ∧ W.cell? ⟨gx, 7, none⟩ = some (.slice t.rA t.R.length t.rc) ∧ W.cell? ⟨gx, 8, none⟩ = some (.slice t.wA t.W.length t.wc) ∧ W.cell? ⟨gx, 9, none⟩ = some (.int .i64 (t.i + 1)) ∧ W.cell? ⟨gx, 10, none⟩ = some (.int .i64 t.fr)) (by kernel_rfl) ?_ (fun hcr => ?_)
      · exact ⟨r4, y0, y1, y2, y3, y4, y5, y6, y7, y8, y9, y10⟩
      refine tkA 0 ?_
      refine tkA 1 ?_
      refine tkA 2 ?_
      refine tkA 3 ?_
      refine tkA 4 ?_
      refine tkA 5 ?_
      refine tkA 6 ?_
      refine stA 7 (fun K hK => ?_)
      refine step_rstore_tx (HR5.out.keep (Below.refl _ _).drew) HK.out { t with i := t.i + 1, st := 3 } ?hpr _ _ (by rfl) rfl rfl (by rfl) ?_
      case hpr => exact HPR.out _ (HR5.out.keep (Below.refl _ _).drew)
      intro w2 hR2 hg2
      have HR2 := Lib.hid hR2
      have HF2 := Lib.hid (HFR.out _ hg2)
      clear hR2 hg2
      refine hK.out _ _ ?_ (fun hcr7 => ?_)
      · exact ⟨by rw [HN.out]; have := HR2.out.rcells 4; simpa [memCells] using this, by rw [HF2.out.cell]; rfl, by rw [HF2.out.cell]; rfl, by rw [HF2.out.cell]; rfl, by rw [HF2.out.cell]; rfl, by rw [HF2.out.cell]; rfl, by rw [HF2.out.cell]; rfl, by rw [HF2.out.cell]; rfl, by rw [HF2.out.cell]; rfl, by rw [HF2.out.cell]; rfl, by rw [HF2.out.cell]; rfl, by rw [HF2.out.cell]; rfl⟩
      clear hK K hcr
      try simp only [Act.put, List.setIfInBounds_toArray, List.set_cons_zero, List.set_cons_succ]
      refine wpAnyH_done (by kernel_rfl) ?_ _
      go_wp2
      first | go_end0 | refine bodyPost_ret (results_none rfl _ _ _) rfl ?_
      refine ⟨rfl, _, _, HR2.out, ?_⟩
      rw [HSQ.out, if_pos (by rw [← HNW.out]; exact HL.out)]
    · have hlb : (t.i + 1 == (nw : Int)) = false := by simpa using hl
      have HL := Lib.hid hl
      clear hl
      go_upto_region 8 with fail
      clear x8 x9 x0 xf xl hlb
      have HPR := Lib.hid (fun W (h : RefW w0 W r { a with lA := A3, lc := c3 } { m with now := m.now, mx := m.mx, L := tl }) => (show PRow W w0.heap.size t.rA t.rc t.R ∧ PRow W w0.heap.size t.wA t.wc t.W from h.ts (k := k) HK.out))
      have r4 : w6.cell? ⟨r, 4, none⟩ = some (.slice (some ⟨a.gT, 0, none⟩) n a.cT) := by rw [HN.out]; exact HR4.out.rcells 4
      have y0 : w6.cell? ⟨gx, 0, none⟩ = some (.int .i64 t.st) := by rw [HKX4.out.cell]; rfl
      have y1 : w6.cell? ⟨gx, 1, none⟩ = some (.int .i64 t.tx) := by rw [HKX4.out.cell]; rfl
      have y2 : w6.cell? ⟨gx, 2, none⟩ = some (.int .i64 t.try_) := by rw [HKX4.out.cell]; rfl
      have y3 : w6.cell? ⟨gx, 3, none⟩ = some (.int .i64 t.pc) := by rw [HKX4.out.cell]; rfl
      have y4 : w6.cell? ⟨gx, 4, none⟩ = some (.int .i64 t.rv) := by rw [HKX4.out.cell]; rfl
      have y5 : w6.cell? ⟨gx, 5, none⟩ = some (.int .i64 t.wv) := by rw [HKX4.out.cell]; rfl
      have y6 : w6.cell? ⟨gx, 6, none⟩ = some (.int .i64 t.sum) := by rw [HKX4.out.cell]; rfl
      have y7 : w6.cell? ⟨gx, 7, none⟩ = some (.slice t.rA t.R.length t.rc) := by rw [HKX4.out.cell]; rfl
      have y8 : w6.cell? ⟨gx, 8, none⟩ = some (.slice t.wA t.W.length t.wc) := by rw [HKX4.out.cell]; rfl
      have y9 : w6.cell? ⟨gx, 9, none⟩ = some (.int .i64 (t.i + 1)) := by rw [HKX4.out.cell]; rfl
      have y10 : w6.cell? ⟨gx, 10, none⟩ = some (.int .i64 t.fr) := by rw [HKX4.out.cell]; rfl
      have HFR := Lib.hid (fun W (hb : w6.drew.grownBy W (some a.gT)) => (show Blk W gx 46 #[.int .i64 t.st, .int .i64 t.tx, .int .i64 t.try_, .int .i64 t.pc, .int .i64 t.rv, .int .i64 t.wv, .int .i64 t.sum, .slice t.rA t.R.length t.rc, .slice t.wA t.W.length t.wc, .int .i64 (t.i + 1), .int .i64 t.fr] from (HKX4.out.drew).grown hb (by intro e; injection e with e; have := HLT.out; omega)))
      refine wp_region_held_drew (S := fun W => W.cell? ⟨r, 4, none⟩ = some (.slice (some ⟨a.gT, 0, none⟩) n a.cT) ∧ W.cell? ⟨gx, 0, none⟩ = some (.int .i64 t.st) ∧ W.cell? ⟨gx, 1, none⟩ = some (.int .i64 t.tx) ∧ W.cell? ⟨gx, 2, none⟩ = some (.int .i64 t.try_) ∧ W.cell? ⟨gx, 3, none⟩ = some (.int .i64 t.pc) ∧ W.cell? ⟨gx, 4, none⟩ = some (.int .i64 t.rv) ∧ W.cell? ⟨gx, 5, none⟩ = some (.int .i64 t.wv) ∧ W.cell? ⟨gx, 6, none⟩ = some (.int .i64 t.sum) ∧ W.cell? ⟨gx, 7, none⟩ = some (.slice t.rA t.R.length t.rc) ∧ W.cell? ⟨gx, 8, none⟩ = some (.slice t.wA t.W.length t.wc) ∧ W.cell? ⟨gx, 9, none⟩ = some (.int .i64 (t.i + 1)) ∧ W.cell? ⟨gx, 10, none⟩ = some (.int .i64 t.fr)) (by kernel_rfl) ?_ (fun hdr => ?_)
      · exact ⟨r4, y0, y1, y2, y3, y4, y5, y6, y7, y8, y9, y10⟩
      refine tkA 0 ?_
      refine tkA 1 ?_
      refine tkA 2 ?_
      refine tkA 3 ?_
      refine tkA 4 ?_
      refine tkA 5 ?_
      refine tkA 6 ?_
      refine stA 7 (fun K hK => ?_)
      refine step_rstore_tx (HR4.out.keep (Below.refl _ _).drew) HK.out { t with i := t.i + 1 } ?hpr _ _ (by rfl) rfl rfl (by rfl) ?_
      case hpr => exact HPR.out _ (HR4.out.keep (Below.refl _ _).drew)
      intro w2 hR2 hg2
      have HR2 := Lib.hid hR2
      have HF2 := Lib.hid (HFR.out _ hg2)
      clear hR2 hg2
      refine hK.out _ _ ?_ (fun hdr7 => ?_)
      · exact ⟨by rw [HN.out]; have := HR2.out.rcells 4; simpa [memCells] using this, by rw [HF2.out.cell]; rfl, by rw [HF2.out.cell]; rfl, by rw [HF2.out.cell]; rfl, by rw [HF2.out.cell]; rfl, by rw [HF2.out.cell]; rfl, by rw [HF2.out.cell]; rfl, by rw [HF2.out.cell]; rfl, by rw [HF2.out.cell]; rfl, by rw [HF2.out.cell]; rfl, by rw [HF2.out.cell]; rfl, by rw [HF2.out.cell]; rfl⟩
      clear hK K hdr
      try simp only [Act.put, List.setIfInBounds_toArray, List.set_cons_zero, List.set_cons_succ]
      refine wpAnyH_done (by kernel_rfl) ?_ _
      go_wp2
      first | go_end0 | refine bodyPost_ret (results_none rfl _ _ _) rfl ?_
      refine ⟨rfl, _, _, HR2.out, ?_⟩
      rw [HSQ.out, if_neg (by rw [← HNW.out]; exact HL.out)]

end
end Go.Proofs.Ytngimbfojccikaa
