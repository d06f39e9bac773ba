/- Several texts in one: StLib, StOver, StBegin. -/
import Derived.Test.YtngimbfojccikaaStSpecm
import Derived.Deep.RegionHeld3
import Derived.Deep.MidRow
namespace Go.Proofs.Ytngimbfojccikaa
set_option linter.unusedSimpArgs false
open Go Go.RowKit
set_option linter.unusedVariables false
set_option maxRecDepth 100000

theorem clone_pair_info : (Try.prog.info? 55).map (fun i => (i.zero, i.size, i.bytes)) = some (some (.agg #[.int .i64 0, .int .i64 0]), 2, 16) := by kernel_rfl

set_option maxHeartbeats 400000 in
theorem clone_pair (v : Value) (n : Nat) (vs : List Value) (w : World) (hv : Sl w 2 v n vs) (h1 : ∀ u ∈ vs, u.oneCell' = true) (hn : n * 16 ≤ 140737488355328) :
    Calls Try.prog 90 #[v] w fun e w' => ∃ v', e = .returned v' ∧ w'.ownsRow w.heap.size 55 2 v' n vs ∧ Below w.heap.size w w' := by
  obtain ⟨i0, hi0, hz0, hz1, hz2⟩ := info_parts clone_pair_info
  have e1 := @Lib.run_eql_slice_nil
  obtain ⟨hl, ⟨rfl, rfl⟩ | ⟨a, c, rfl, hc, hm, hr⟩⟩ := hv
  · go_enter Try.func90, Try.ntmps90
    go_wp2_with fail
    go_ret
    obtain rfl : vs = [] := List.eq_nil_of_length_eq_zero (by omega)
    exact ⟨_, rfl, World.ownsRow_nil _ _ _ _, Below.refl _ _⟩
  · have hnews : ∀ j u, vs[j]? = some u → (w.alloc (.cells #[] 55)).cell? (a.add j) = some u := by
      intro j u hu
      have hn0 : 0 < n := by
        rcases Nat.eq_zero_or_pos n with h | h
        · subst h; have := (List.getElem?_eq_some_iff.1 hu).1; omega
        · exact h
      obtain ⟨hs, hb, hC⟩ := hr hn0
      obtain ⟨b, o, s⟩ := a
      simp only at hs hb hC; subst hs
      rw [add_none, World.cell?_alloc_lt _ _ _ hb]
      exact hC j u hu
    go_enter Try.func90, Try.ntmps90
    go_wp2_with (at_builtin; refine wpList_append_own_at _ rfl (.tmp 5) (.tmp 6) _ rfl w.heap.size 55 i0 _ 2 16 Try.underlying44 hi0 hz0 hz1 hz2 rfl (by omega) (.slice (some ⟨w.heap.size, 0, none⟩) 0 0) 0 [] rfl (World.ownsRow_made w #[] 0 (Nat.le_refl _) (by unfold maxLen; omega) rfl) a n c vs rfl hl hnews h1 (by omega) (by omega) (by simp) ?_; intro v1 w1 hown hgrow _ _)
    go_ret
    simp only [Nat.zero_add, List.nil_append] at hown
    exact ⟨_, rfl, hown, ((Below.refl w.heap.size w).alloc (Nat.le_refl _) _).grown hgrow (by simp) (by simp [Value.ownBlock])⟩
set_option maxHeartbeats 1000000 in
theorem index_pair (p : Pr → Bool) (g : Nat) (lb : Array Value) (eg : ∀ args w, (callFunc g args).run Try.prog w = .ok (.enter g args) w) (v : Value) (zs : List (Pr)) (w : World)
    (hp : PredB Try.prog g lb (fun x : Pr => Value.agg (encPr x).toArray) p w) (hv : Sl w 2 v zs.length (zs.flatMap encPr)) :
    Calls Try.prog 84 #[v, .func (.func g) #[] lb] w fun e w' => e = .returned (.int .i64 (idxF p zs)) ∧ Below w.heap.size w w' := by
  have hk : ∀ x, (encPr x).length = 2 := fun _ => rfl
  obtain ⟨hl, ⟨rfl, hz⟩ | ⟨a, c, rfl, hc, hm, hr⟩⟩ := hv
  · obtain rfl : zs = [] := List.eq_nil_of_length_eq_zero hz
    clear hl hz
    go_enter Try.func84, Try.ntmps84
    go_wp2
    refine wp_loop_rounds 1 ?_
    rw [rounds_succ]
    go_wp2
    go_ret
    exact ⟨rfl, Below.refl _ _⟩
  · obtain ⟨n, hn⟩ : ∃ n, zs.length = n := ⟨_, rfl⟩
    rw [hn] at hl hc hr ⊢
    have hbig : n ≤ 9223372036854775807 := by unfold maxLen at hm; omega
    have hrow : ∀ (W : World), Below w.heap.size w W → ∀ j (hj : j < zs.length), a.spot = none ∧ ∀ i u, (encPr zs[j])[i]? = some u → W.cell? ⟨a.block, a.off + j * 2 + i, none⟩ = some u := fun W hW j hj => by
      obtain ⟨hs, hC⟩ := hr (by omega)
      refine ⟨hs, fun i u hi => ?_⟩
      rw [Nat.add_assoc]
      exact (hC.same hW).2 _ _ (flat_get encPr hk zs j hj i u hi)
    clear hr
    have HN := Lib.hid hn
    clear hn hl hk hm hc
    go_enter Try.func84, Try.ntmps84
    go_wp2
    go_loopg [5, 8] n (fun gg _ s8 wr => ∃ kk : Nat, kk ≤ n ∧ n - kk ≤ gg ∧ s8 = .int .i64 kk ∧ Hid (Below w.heap.size w wr) ∧ Hid (∀ j (h : j < zs.length), j < kk → p zs[j] = false))
    case atStart => exact ⟨0, Nat.zero_le _, by omega, rfl, Below.refl _ w, fun j _ hj => absurd hj (Nat.not_lt_zero _)⟩
    case round =>
      obtain ⟨kk, hkk, hg, rfl, BW, AA⟩ := hrel
      by_cases hlt : kk < n
      · have hltz : (kk : Int) < (n : Int) := by omega
        have hlt' : kk < zs.length := by rw [HN.out]; exact hlt
        obtain ⟨hs, l2⟩ := hrow wr BW.out kk hlt'
        have hcall := hp wr zs[kk] BW.out
        clear hrow hp
        obtain ⟨b, o, s⟩ := a
        simp only at hs l2
        subst hs
        generalize hy : zs[kk] = y at l2 hcall
        have B : Hid (zs[kk] = y) := hy
        clear hy
        (have c0 := l2 0 _ rfl; have c1 := l2 1 _ rfl; simp only [Nat.add_zero] at c0)
        clear l2
        cases hq : p y with
        | true =>
          rw [hq] at hcall
          have HQ := Lib.hid hq
          clear hq
          go_wp2_with (go_at_fn g; refine hcall.mono ?_; rintro e w' ⟨rfl, hb'⟩)
          go_ret
          refine ⟨?_, BW.out.trans (hb'.mono BW.out.size)⟩
          rw [idxF_hit p zs kk hlt' (by rw [B.out]; exact HQ.out) (fun j hj => AA.out j (by omega) hj)]
          rfl
        | false =>
          rw [hq] at hcall
          have HQ := Lib.hid hq
          clear hq
          go_wp2_with (go_at_fn g; refine hcall.mono ?_; rintro e w' ⟨rfl, hb'⟩)
          go_roundg (n - (kk + 1))
          case measure => omega
          case rel =>
            refine ⟨kk + 1, by omega, by omega, by go_num, BW.out.trans (hb'.mono BW.out.size), (show Hid _ from fun j h hj => ?_)⟩
            by_cases e : j = kk
            · subst e
              rw [B.out]; exact HQ.out
            · exact AA.out j h (by omega)
      · have hltz : ¬ (kk : Int) < (n : Int) := by omega
        obtain rfl : n = kk := by omega
        go_wp2
        go_ret
        refine ⟨?_, BW.out⟩
        rw [idxF_miss p zs (fun j h => AA.out j h (by rw [HN.out] at h; exact h))]
        rfl

section
variable {w0 w w' : World} {r : Nat} {φ : Nat → Nat} {a : Ad} {m : Mm} {pw pm : Int} {pv : Value}

set_option maxHeartbeats 4000000 in
theorem me_any {k : Nat} {t : Tx} (h : RunW w0 w r φ a m pw pm pv (k : Int)) (hk : m.T[k]? = some t) :
    Calls Try.prog 43 #[.pointer (some ⟨r, 0, none⟩)] w fun e w' => e = .returned (.pointer (some ⟨a.gT, k * 11, none⟩)) ∧ Below w.heap.size w w' := by
  have hlt := h.tlt hk
  have c4 : w.cell? ⟨r, 4, none⟩ = some (.slice (some ⟨a.gT, 0, none⟩) m.T.length a.cT) := h.rcells 4
  have c10 : w.cell? ⟨r, 10, none⟩ = some (.int .i64 (k : Int)) := h.rcells 10
  clear h hk
  generalize m.T.length = n at *
  have h1 : (0 : Int) ≤ (k : Int) := by omega
  have h2 : (k : Int) < (n : Int) := by omega
  go_enter Try.func43, Try.ntmps43
  go_wp2_with fail
  refine wp_region_held_drew (S := fun w' => w'.cell? ⟨r, 4, none⟩ = some (.slice (some ⟨a.gT, 0, none⟩) n a.cT) ∧ w'.cell? ⟨r, 10, none⟩ = some (.int .i64 (k : Int))) (by kernel_rfl) ?_ (fun hbr => ?_)
  · exact ⟨c4, c10⟩
  refine tkA 0 ?_
  refine tkA 1 ?_
  refine tkA 2 ?_
  refine tkA 3 ?_
  refine tkA 4 ?_
  refine tkA 5 ?_
  refine tkA 6 ?_
  refine tkA 7 ?_
  refine tkA 8 ?_
  refine tkA 9 ?_
  refine tkA 10 ?_
  refine wpAnyH_done (by kernel_rfl) ?_ _
  go_wp2
  go_ret
  exact ⟨rfl, (Below.refl _ _).drew⟩

theorem tx_size : (Try.prog.info? 46).map (·.size) = some 11 := by kernel_rfl
theorem tx_one (x : Tx) : (encTx x).toArray.all (·.oneCell') = true := by simp [encTx, Value.oneCell']
theorem RunW.tthere {who : Int} (h : RunW w0 w r φ a m pw pm pv who) {k : Nat} {t : Tx} (hk : m.T[k]? = some t) : w.there a.gT (k * 11) 11 := fun j hj => by
  refine ⟨?_, h.tfree _⟩
  have hj2 : j < (encTx t).length := by rw [encTx_len]; exact hj
  rw [h.tcells hk (List.getElem?_eq_getElem hj2)]
  rfl
/-- A thread is overwritten by one that has read and written nothing: one operation. -/
theorem wpList_store_tx {who : Int} {ops : Array Oper} {rest : List Oper} {o : Oper} {ac : Act} {Q : Exit → Act → World → Prop} (h : RunW w0 w r φ a m pw pm pv who) {k : Nat} {t : Tx} (hk : m.T[k]? = some t) (t' : Tx) (hR : t'.rA = none ∧ t'.rc = 0 ∧ t'.R = [] ∧ t'.wA = none ∧ t'.wc = 0 ∧ t'.W = [])
    (hgd : o.guard = none) (x y : Operand) (ho : o.op = .store 46 x y) (hx : ac.eval x = .pointer (some ⟨a.gT, k * 11, none⟩)) (hy : ac.eval y = .agg (encTx t').toArray)
    (kk : ∀ w', RunW w0 w' r φ a { m with T := m.T.set k t' } pw pm pv who → wpList Try.prog ops Q rest (ac.put o.dst undef) w') : wpList Try.prog ops Q (o :: rest) ac w :=
  wpList_store_mid hgd 46 x y ho a.gT (k * 11) (encTx t').toArray hx hy (h.tthere hk) tx_size (tx_one t') (kk _ (h.tall hk t' hR))
theorem step_store_tx {who : Int} {ops : Array Oper} {o : Oper} {ac : Act} {K : Act → World → Prop} {Q : Exit → Act → World → Prop} {E : Prop} (h : RunW w0 w r φ a m pw pm pv who) {k : Nat} {t : Tx} (hk : m.T[k]? = some t) (t' : Tx) (hR : t'.rA = none ∧ t'.rc = 0 ∧ t'.R = [] ∧ t'.wA = none ∧ t'.wc = 0 ∧ t'.W = [])
    (x y : Operand) (hw : Region.wanted o (yielded ops ac.tmps) = true) (ho : o.op = .store 46 x y) (hx : ac.eval x = .pointer (some ⟨a.gT, k * 11, none⟩)) (hy : ac.eval y = .agg (encTx t').toArray)
    (kk : ∀ w', RunW w0 w' r φ a { m with T := m.T.set k t' } pw pm pv who → K (ac.put o.dst undef) w') : if Region.wanted o (yielded ops ac.tmps) = true then Oper.wp Try.prog o ac w K Q else E := by
  rw [if_pos hw]
  exact wp_store_mid 46 x y ho a.gT (k * 11) (encTx t').toArray hx hy (h.tthere hk) tx_size (tx_one t') (kk _ (h.tall hk t' hR))

theorem RunW.tc0 {who : Int} (h : RunW w0 w r φ a m pw pm pv who) {k : Nat} {t : Tx} (hk : m.T[k]? = some t) : RunW w0 w r φ a { m with T := m.T.set k t } pw pm pv who := by
  obtain ⟨hk1, hk2⟩ := List.getElem?_eq_some_iff.1 hk
  have e : ({ m with T := m.T.set k t } : Mm) = m := by subst hk2; rw [List.set_getElem_self]
  rw [e]; exact h
theorem RunW.tc {who : Int} {k : Nat} {t : Tx} (h : RunW w0 w r φ a { m with T := m.T.set k t } pw pm pv who) (hk : k < m.T.length) (t' : Tx) {j : Nat} {u : Value} (hj : j < 11) (he : encTx t' = (encTx t).set j u)
    (hr : t'.rA = t.rA ∧ t'.rc = t.rc ∧ t'.R = t.R ∧ t'.wA = t.wA ∧ t'.wc = t.wc ∧ t'.W = t.W) : RunW w0 (w.setCell ⟨a.gT, k * 11 + j, none⟩ u) r φ a { m with T := m.T.set k t' } pw pm pv who := by
  have := h.tcell (List.getElem?_set_self hk) t' hj he hr
  simpa only [List.set_set] using this
end
end Go.Proofs.Ytngimbfojccikaa
namespace Go.Proofs.Ytngimbfojccikaa
set_option linter.unusedSimpArgs false
open Go Go.RowKit
set_option linter.unusedVariables false
set_option maxRecDepth 100000

section
variable {w0 w w' : World} {r : Nat} {φ : Nat → Nat} {a : Ad} {m : Mm} {pw pm : Int} {pv : Value}

set_option maxHeartbeats 4000000 in
theorem over_next {k : Nat} {t : Tx} (h : RunW w0 w r φ a m pw pm pv (k : Int)) (hk : m.T[k]? = some t) (how : Int) (hn : ¬ (how = 1 ∧ t.try_ < 3)) (htx : 0 ≤ t.tx ∧ t.tx ≤ 1000) :
    Calls Try.prog 70 #[.pointer (some ⟨r, 0, none⟩), .int .i64 how] w fun e w' => e = .returned (.tuple #[]) ∧ RunW w0 w' r φ a (overM m k t how) pw pm pv (k : Int) := by
  have HME := Lib.hid (me_any h hk)
  have hlt := h.tlt hk
  have c1 := h.tcells hk (j := 1) rfl
  have c2 := h.tcells hk (j := 2) rfl
  have hT := h.apart.2.2.2.1
  have HH := Lib.hid h
  have HF := Lib.hid (fun W (hb : Below w.heap.size w W) o => (h.keep hb).tfree o)
  have hwr : IntKind.i64.wrap (t.tx + 1) = t.tx + 1 := by rw [IntKind.wrap_i64]; omega
  have HK := Lib.hid hk
  clear h hk
  by_cases h1 : how = 1
  · have h3 : ¬ t.try_ < 3 := fun h => hn ⟨h1, h⟩
    have HO := Lib.hid (show overM m k t how = { m with T := m.T.set k { Tx.zero with tx := t.tx + 1 } } from by unfold overM overT; rw [if_neg hn])
    rw [HO.out]
    subst h1
    clear hn
    go_enter Try.func70, Try.ntmps70
    go_wp2_with fail
    refine HME.out.mono ?_
    rintro e w1 ⟨rfl, hb1⟩
    obtain ⟨hc1, hf1⟩ := bcell hb1
    have hz1 := hb1.size
    have hT1 : a.gT < w1.heap.size := by omega
    have HB1 := Lib.hid hb1
    clear hb1
    go_wp2_with (refine wpList_store_tx (HH.out.keep HB1.out) HK.out { Tx.zero with tx := t.tx + 1 } ⟨rfl, rfl, rfl, rfl, rfl, rfl⟩ rfl _ _ rfl rfl rfl ?_; intro w2 hR2)
    go_end0
    exact ⟨rfl, hR2⟩
  · have h1b : (how == 1) = false := by simpa using h1
    have HO := Lib.hid (show overM m k t how = { m with T := m.T.set k { Tx.zero with tx := t.tx + 1 } } from by unfold overM overT; rw [if_neg hn])
    rw [HO.out]
    clear hn h1
    go_enter Try.func70, Try.ntmps70
    go_wp2_with fail
    refine HME.out.mono ?_
    rintro e w1 ⟨rfl, hb1⟩
    obtain ⟨hc1, hf1⟩ := bcell hb1
    have hz1 := hb1.size
    have hT1 : a.gT < w1.heap.size := by omega
    have HB1 := Lib.hid hb1
    clear hb1
    go_wp2_with (refine wpList_store_tx (HH.out.keep HB1.out) HK.out { Tx.zero with tx := t.tx + 1 } ⟨rfl, rfl, rfl, rfl, rfl, rfl⟩ rfl _ _ rfl rfl rfl ?_; intro w2 hR2)
    go_end0
    exact ⟨rfl, hR2⟩

set_option maxHeartbeats 4000000 in
theorem over_again {k : Nat} {t : Tx} (h : RunW w0 w r φ a m pw pm pv (k : Int)) (hk : m.T[k]? = some t) (hn : t.try_ < 3) :
    Calls Try.prog 70 #[.pointer (some ⟨r, 0, none⟩), .int .i64 1] w fun e w' => e = .returned (.tuple #[]) ∧ RunW w0 w' r φ a (overM m k t 1) pw pm pv (k : Int) := by
  have HME := Lib.hid (me_any h hk)
  have hlt := h.tlt hk
  have c1 := h.tcells hk (j := 1) rfl
  have c2 := h.tcells hk (j := 2) rfl
  have hT := h.apart.2.2.2.1
  have HH := Lib.hid h
  have HK := Lib.hid hk
  have HO := Lib.hid (show overM m k t 1 = { m with T := m.T.set k { Tx.zero with tx := t.tx, try_ := t.try_ } } from by unfold overM overT; rw [if_pos ⟨rfl, hn⟩])
  rw [HO.out]
  clear h hk
  go_enter Try.func70, Try.ntmps70
  go_wp2_with fail
  refine HME.out.mono ?_
  rintro e w1 ⟨rfl, hb1⟩
  obtain ⟨hc1, hf1⟩ := bcell hb1
  have hz1 := hb1.size
  have hT1 : a.gT < w1.heap.size := by omega
  have HB1 := Lib.hid hb1
  have d1 := (hc1 a.gT (k * 11 + 1) hT).trans c1
  have d2 := (hc1 a.gT (k * 11 + 2) hT).trans c2
  clear hb1
  go_wp2_with fail
  refine wp_region_held_drew (S := fun w' => w'.cell? ⟨a.gT, k * 11 + 1, none⟩ = some (.int .i64 t.tx) ∧ w'.cell? ⟨a.gT, k * 11 + 2, none⟩ = some (.int .i64 t.try_)) (by kernel_rfl) ?_ (fun hbr => ?_)
  · exact ⟨d1, d2⟩
  refine tkA 0 ?_
  refine tkA 1 ?_
  refine tkA 2 ?_
  refine tkA 3 ?_
  refine tkA 4 ?_
  refine tkA 5 ?_
  refine tkA 6 ?_
  refine tkA 7 ?_
  refine tkA 8 ?_
  refine tkA 9 ?_
  refine tkA 10 ?_
  refine stA 11 (fun K hK => ?_)
  refine step_store_tx ((HH.out.keep HB1.out).keep ((Below.refl _ _).drew)) HK.out { Tx.zero with tx := t.tx, try_ := t.try_ } ⟨rfl, rfl, rfl, rfl, rfl, rfl⟩ _ _ (by rfl) rfl rfl rfl ?_
  intro w2 hR2
  refine hK.out _ _ ?_ (fun hbr11 => ?_)
  · exact ⟨hR2.tcells (RunW.set_at k HK.out _) (j := 1) rfl, hR2.tcells (RunW.set_at k HK.out _) (j := 2) rfl⟩
  clear hK K hbr
  try simp only [Act.put, List.setIfInBounds_toArray, List.set_cons_zero, List.set_cons_succ]
  refine wpAnyH_done (by kernel_rfl) ?_ _
  have HR2 := Lib.hid hR2
  clear hR2
  go_wp2
  refine bodyPost_ret (results_none rfl _ _ _) rfl ?_
  exact ⟨rfl, HR2.out⟩

theorem over_any {k : Nat} {t : Tx} (h : RunW w0 w r φ a m pw pm pv (k : Int)) (hk : m.T[k]? = some t) (how : Int) (htx : 0 ≤ t.tx ∧ t.tx ≤ 1000) :
    Calls Try.prog 70 #[.pointer (some ⟨r, 0, none⟩), .int .i64 how] w fun e w' => e = .returned (.tuple #[]) ∧ RunW w0 w' r φ a (overM m k t how) pw pm pv (k : Int) := by
  by_cases hn : how = 1 ∧ t.try_ < 3
  · obtain ⟨rfl, hn⟩ := hn
    exact over_again h hk hn
  · exact over_next h hk how hn htx
end
end Go.Proofs.Ytngimbfojccikaa
namespace Go.Proofs.Ytngimbfojccikaa
set_option linter.unusedSimpArgs false
open Go Go.RowKit
set_option linter.unusedVariables false
set_option maxRecDepth 100000

section
variable {w0 w w' : World} {r : Nat} {φ : Nat → Nat} {a : Ad} {m : Mm} {pw pm : Int} {pv : Value}

set_option maxHeartbeats 4000000 in
theorem begin_any {k : Nat} {t : Tx} (h : RunW w0 w r φ a m pw pm pv (k : Int)) (hk : m.T[k]? = some t) (htry : 0 ≤ t.try_ ∧ t.try_ ≤ 1000) :
    Calls Try.prog 44 #[.pointer (some ⟨r, 0, none⟩)] w fun e w' => e = .returned (.tuple #[]) ∧ RunW w0 w' r φ a (beginM m k t) pw pm pv (k : Int) := by
  have HME := Lib.hid (me_any h hk)
  have hT := h.apart.2.2.2.1
  have hR := h.apart.2.2.2.2.2
  have hne := h.apart.1
  have HH := Lib.hid h
  have HK := Lib.hid hk
  have hwr : IntKind.i64.wrap (t.try_ + 1) = t.try_ + 1 := by rw [IntKind.wrap_i64]; omega
  clear h hk
  go_enter Try.func44, Try.ntmps44
  go_wp2_with fail
  refine HME.out.mono ?_
  rintro e w1 ⟨rfl, hb1⟩
  have H1 := Lib.hid (HH.out.keep hb1)
  have hz1 := hb1.size
  have hT1 : a.gT < w1.heap.size := by omega
  have hR1 : r < w1.heap.size := by omega
  have hne' : ¬ r = a.gT := fun e => hne e.symm
  have d2 := H1.out.tcells HK.out (j := 2) rfl
  have f2 := H1.out.tfree (k * 11 + 2)
  have f4 := H1.out.tfree (k * 11 + 4)
  have f10 := H1.out.tfree (k * 11 + 10)
  have f0 := H1.out.tfree (k * 11)
  have d4 := H1.out.tcells HK.out (j := 4) rfl
  have d10 := H1.out.tcells HK.out (j := 10) rfl
  have d0 := H1.out.tcells HK.out (j := 0) rfl
  have r1 : w1.cell? ⟨r, 1, none⟩ = some (.int .i64 m.now) := H1.out.rcells 1
  have r6 : w1.cell? ⟨r, 6, none⟩ = some (.int .i64 m.time) := H1.out.rcells 6
  simp only [Nat.add_zero] at d0
  clear hb1 HH HME
  go_wp2_with fail
  refine wp_region_held_drew (S := fun w' => w'.cell? ⟨r, 1, none⟩ = some (.int .i64 m.now) ∧ w'.cell? ⟨r, 6, none⟩ = some (.int .i64 m.time)) (by kernel_rfl) ?_ (fun hbr => ?_)
  · constructor <;> go_simp
  refine tkA 0 ?_
  refine tkA 1 ?_
  refine tkA 2 ?_
  refine tkA 3 ?_
  refine tkA 4 ?_
  refine tkA 5 ?_
  refine tkA 6 ?_
  refine tkA 7 ?_
  refine tkA 8 ?_
  refine tkA 9 ?_
  refine tkA 10 ?_
  refine tkA 11 ?_
  refine tkA 12 ?_
  refine tkA 13 ?_
  refine tkA 14 ?_
  refine tkA 15 ?_
  refine stA 16 (fun K hK => ?_)
  go_simp
  refine hK.out _ _ ?_ (fun hbr16 => ?_)
  · constructor <;> go_simp
  clear hK K hbr
  try simp only [Act.put, List.setIfInBounds_toArray, List.set_cons_zero, List.set_cons_succ]
  refine tkA 17 ?_
  refine tkA 18 ?_
  refine stA 19 (fun K hK => ?_)
  go_simp
  refine hK.out _ _ ?_ (fun hbr19 => ?_)
  · constructor <;> go_simp
  clear hK K hbr16
  try simp only [Act.put, List.setIfInBounds_toArray, List.set_cons_zero, List.set_cons_succ]
  refine tkA 20 ?_
  refine tkA 21 ?_
  refine stA 22 (fun K hK => ?_)
  go_simp
  refine hK.out _ _ ?_ (fun hbr22 => ?_)
  · constructor <;> go_simp
  clear hK K hbr19
  try simp only [Act.put, List.setIfInBounds_toArray, List.set_cons_zero, List.set_cons_succ]
  refine wpAnyH_done (by kernel_rfl) ?_ _
  go_wp2
  go_end0
  have hlt := H1.out.tlt HK.out
  refine ⟨rfl, ?_⟩
  have e1 := ((((((H1.out.tc0 HK.out).tc hlt { t with try_ := t.try_ + 1 } (j := 2) (by omega) rfl ⟨rfl, rfl, rfl, rfl, rfl, rfl⟩).keep (Below.refl _ _).drew).tc hlt { t with try_ := t.try_ + 1, rv := m.now } (j := 4) (by omega) rfl ⟨rfl, rfl, rfl, rfl, rfl, rfl⟩).tc hlt { t with try_ := t.try_ + 1, rv := m.now, fr := m.time } (j := 10) (by omega) rfl ⟨rfl, rfl, rfl, rfl, rfl, rfl⟩).tc hlt { t with try_ := t.try_ + 1, rv := m.now, fr := m.time, st := 1 } (j := 0) (by omega) rfl ⟨rfl, rfl, rfl, rfl, rfl, rfl⟩)
  exact e1
end
end Go.Proofs.Ytngimbfojccikaa
