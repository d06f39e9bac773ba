/- slices.Clone and IndexFunc at []api.Pair; the thread itself. -/
import Derived.Test.YtmcbnpeihedcaaaStSpec
import Derived.Deep.RegionHeld3
import Derived.Deep.MidRow
namespace Go.Proofs.Ytmcbnpeihedcaaa
set_option linter.unusedSimpArgs false
open Go Go.RowKit
set_option linter.unusedVariables false
set_option maxRecDepth 100000

theorem clone_pair_info : (Try.prog.info? 34).map (fun i => (i.zero, i.size, i.bytes)) = some (some (.agg #[.int .i64 0, .int .i64 0]), 2, 16) := by kernel_rfl

set_option maxHeartbeats 400000 in
theorem clone_pair (v : Value) (n : Nat) (vs : List Value) (w : World) (hv : Sl w 2 v n vs) (h1 : ∀ u ∈ vs, u.oneCell' = true) (hn : n * 16 ≤ 140737488355328) :
    Calls Try.prog 75 #[v] w fun e w' => ∃ v', e = .returned v' ∧ w'.ownsRow w.heap.size 34 2 v' n vs ∧ Below w.heap.size w w' := by
  obtain ⟨i0, hi0, hz0, hz1, hz2⟩ := info_parts clone_pair_info
  have e1 := @Lib.run_eql_slice_nil
  obtain ⟨hl, ⟨rfl, rfl⟩ | ⟨a, c, rfl, hc, hm, hr⟩⟩ := hv
  · go_enter Try.func75, Try.ntmps75
    go_wp2_with fail
    go_ret
    obtain rfl : vs = [] := List.eq_nil_of_length_eq_zero (by omega)
    exact ⟨_, rfl, World.ownsRow_nil _ _ _ _, Below.refl _ _⟩
  · have hnews : ∀ j u, vs[j]? = some u → (w.alloc (.cells #[] 34)).cell? (a.add j) = some u := by
      intro j u hu
      have hn0 : 0 < n := by
        rcases Nat.eq_zero_or_pos n with h | h
        · subst h; have := (List.getElem?_eq_some_iff.1 hu).1; omega
        · exact h
      obtain ⟨hs, hb, hC⟩ := hr hn0
      obtain ⟨b, o, s⟩ := a
      simp only at hs hb hC; subst hs
      rw [add_none, World.cell?_alloc_lt _ _ _ hb]
      exact hC j u hu
    go_enter Try.func75, Try.ntmps75
    go_wp2_with (at_builtin; refine wpList_append_own_at _ rfl (.tmp 5) (.tmp 6) _ rfl w.heap.size 34 i0 _ 2 16 Try.underlying25 hi0 hz0 hz1 hz2 rfl (by omega) (.slice (some ⟨w.heap.size, 0, none⟩) 0 0) 0 [] rfl (World.ownsRow_made w #[] 0 (Nat.le_refl _) (by unfold maxLen; omega) rfl) a n c vs rfl hl hnews h1 (by omega) (by omega) (by simp) ?_; intro v1 w1 hown hgrow _ _)
    go_ret
    simp only [Nat.zero_add, List.nil_append] at hown
    exact ⟨_, rfl, hown, ((Below.refl w.heap.size w).alloc (Nat.le_refl _) _).grown hgrow (by simp) (by simp [Value.ownBlock])⟩
set_option maxHeartbeats 1000000 in
theorem index_pair (p : Pr → Bool) (g : Nat) (lb : Array Value) (eg : ∀ args w, (callFunc g args).run Try.prog w = .ok (.enter g args) w) (v : Value) (zs : List (Pr)) (w : World)
    (hp : PredB Try.prog g lb (fun x : Pr => Value.agg (encPr x).toArray) p w) (hv : Sl w 2 v zs.length (zs.flatMap encPr)) :
    Calls Try.prog 51 #[v, .func (.func g) #[] lb] w fun e w' => e = .returned (.int .i64 (idxF p zs)) ∧ Below w.heap.size w w' := by
  have hk : ∀ x, (encPr x).length = 2 := fun _ => rfl
  obtain ⟨hl, ⟨rfl, hz⟩ | ⟨a, c, rfl, hc, hm, hr⟩⟩ := hv
  · obtain rfl : zs = [] := List.eq_nil_of_length_eq_zero hz
    clear hl hz
    go_enter Try.func51, Try.ntmps51
    go_wp2
    refine wp_loop_rounds 1 ?_
    rw [rounds_succ]
    go_wp2
    go_ret
    exact ⟨rfl, Below.refl _ _⟩
  · obtain ⟨n, hn⟩ : ∃ n, zs.length = n := ⟨_, rfl⟩
    rw [hn] at hl hc hr ⊢
    have hbig : n ≤ 9223372036854775807 := by unfold maxLen at hm; omega
    have hrow : ∀ (W : World), Below w.heap.size w W → ∀ j (hj : j < zs.length), a.spot = none ∧ ∀ i u, (encPr zs[j])[i]? = some u → W.cell? ⟨a.block, a.off + j * 2 + i, none⟩ = some u := fun W hW j hj => by
      obtain ⟨hs, hC⟩ := hr (by omega)
      refine ⟨hs, fun i u hi => ?_⟩
      rw [Nat.add_assoc]
      exact (hC.same hW).2 _ _ (flat_get encPr hk zs j hj i u hi)
    clear hr
    have HN := Lib.hid hn
    clear hn hl hk hm hc
    go_enter Try.func51, Try.ntmps51
    go_wp2
    go_loopg [5, 8] n (fun gg _ s8 wr => ∃ kk : Nat, kk ≤ n ∧ n - kk ≤ gg ∧ s8 = .int .i64 kk ∧ Hid (Below w.heap.size w wr) ∧ Hid (∀ j (h : j < zs.length), j < kk → p zs[j] = false))
    case atStart => exact ⟨0, Nat.zero_le _, by omega, rfl, Below.refl _ w, fun j _ hj => absurd hj (Nat.not_lt_zero _)⟩
    case round =>
      obtain ⟨kk, hkk, hg, rfl, BW, AA⟩ := hrel
      by_cases hlt : kk < n
      · have hltz : (kk : Int) < (n : Int) := by omega
        have hlt' : kk < zs.length := by rw [HN.out]; exact hlt
        obtain ⟨hs, l2⟩ := hrow wr BW.out kk hlt'
        have hcall := hp wr zs[kk] BW.out
        clear hrow hp
        obtain ⟨b, o, s⟩ := a
        simp only at hs l2
        subst hs
        generalize hy : zs[kk] = y at l2 hcall
        have B : Hid (zs[kk] = y) := hy
        clear hy
        (have c0 := l2 0 _ rfl; have c1 := l2 1 _ rfl; simp only [Nat.add_zero] at c0)
        clear l2
        cases hq : p y with
        | true =>
          rw [hq] at hcall
          have HQ := Lib.hid hq
          clear hq
          go_wp2_with (go_at_fn g; refine hcall.mono ?_; rintro e w' ⟨rfl, hb'⟩)
          go_ret
          refine ⟨?_, BW.out.trans (hb'.mono BW.out.size)⟩
          rw [idxF_hit p zs kk hlt' (by rw [B.out]; exact HQ.out) (fun j hj => AA.out j (by omega) hj)]
          rfl
        | false =>
          rw [hq] at hcall
          have HQ := Lib.hid hq
          clear hq
          go_wp2_with (go_at_fn g; refine hcall.mono ?_; rintro e w' ⟨rfl, hb'⟩)
          go_roundg (n - (kk + 1))
          case measure => omega
          case rel =>
            refine ⟨kk + 1, by omega, by omega, by go_num, BW.out.trans (hb'.mono BW.out.size), (show Hid _ from fun j h hj => ?_)⟩
            by_cases e : j = kk
            · subst e
              rw [B.out]; exact HQ.out
            · exact AA.out j h (by omega)
      · have hltz : ¬ (kk : Int) < (n : Int) := by omega
        obtain rfl : n = kk := by omega
        go_wp2
        go_ret
        refine ⟨?_, BW.out⟩
        rw [idxF_miss p zs (fun j h => AA.out j h (by rw [HN.out] at h; exact h))]
        rfl

section
variable {w0 w w' : World} {r : Nat} {φ : Nat → Nat} {a : Ad} {m : Mm} {pw pm : Int} {pv : Value}

set_option maxHeartbeats 4000000 in
theorem me_any {k : Nat} {t : Tx} (h : RunW w0 w r φ a m pw pm pv (k : Int)) (hk : m.T[k]? = some t) :
    Calls Try.prog 41 #[.pointer (some ⟨r, 0, none⟩)] w fun e w' => e = .returned (.pointer (some ⟨a.gT, k * 11, none⟩)) ∧ Below w.heap.size w w' := by
  have hlt := h.tlt hk
  have c4 : w.cell? ⟨r, 4, none⟩ = some (.slice (some ⟨a.gT, 0, none⟩) m.T.length a.cT) := h.rcells 4
  have c10 : w.cell? ⟨r, 10, none⟩ = some (.int .i64 (k : Int)) := h.rcells 10
  clear h hk
  generalize m.T.length = n at *
  have h1 : (0 : Int) ≤ (k : Int) := by omega
  have h2 : (k : Int) < (n : Int) := by omega
  go_enter Try.func41, Try.ntmps41
  go_wp2_with fail
  refine wp_region_held_drew (S := fun w' => w'.cell? ⟨r, 4, none⟩ = some (.slice (some ⟨a.gT, 0, none⟩) n a.cT) ∧ w'.cell? ⟨r, 10, none⟩ = some (.int .i64 (k : Int))) (by kernel_rfl) ?_ (fun hHeldbr => ?_)
  · exact ⟨c4, c10⟩
  refine tkW 0 { dst := some 3, op := Op.move (Operand.tmp 0), type := 68, pos := "stm.go:48", after := _, guard := none } (v := ?vbr0) rfl (Or.inl ⟨by rfl, ?hybr0⟩) ?restbr0
  case hybr0 => (intro w hSw; (try dsimp only at hSw); go_simp <;> with_reducible rfl)
  try simp only [putW, setZ, setS]
  refine tkW 1 { dst := some 4, op := Op.nilCheck (Operand.tmp 3), type := 0, pos := "stm.go:48", after := _, guard := none } (v := ?vbr1) rfl (Or.inl ⟨by rfl, ?hybr1⟩) ?restbr1
  case hybr1 => (intro w hSw; (try dsimp only at hSw); go_simp <;> with_reducible rfl)
  try simp only [putW, setZ, setS]
  refine tkW 2 { dst := some 5, op := Op.fieldAddr 70 (Operand.tmp 4) 0, type := 0, pos := "stm.go:48", after := _, guard := none } (v := ?vbr2) rfl (Or.inl ⟨by rfl, ?hybr2⟩) ?restbr2
  case hybr2 => (intro w hSw; (try dsimp only at hSw); go_simp <;> with_reducible rfl)
  try simp only [putW, setZ, setS]
  refine tkW 3 { dst := some 6, op := Op.fieldAddr 46 (Operand.tmp 5) 2, type := 0, pos := "stm.go:48", after := _, guard := none } (v := ?vbr3) rfl (Or.inl ⟨by rfl, ?hybr3⟩) ?restbr3
  case hybr3 => (intro w hSw; (try dsimp only at hSw); go_simp <;> with_reducible rfl)
  try simp only [putW, setZ, setS]
  refine tkW 4 { dst := some 7, op := Op.load 44 (Operand.tmp 6), type := 44, pos := "stm.go:48", after := _, guard := none } (v := ?vbr4) rfl (Or.inl ⟨by rfl, ?hybr4⟩) ?restbr4
  case hybr4 => (intro w hSw; (try dsimp only at hSw); go_simp <;> with_reducible rfl)
  try simp only [putW, setZ, setS]
  refine tkW 5 { dst := some 8, op := Op.move (Operand.tmp 0), type := 68, pos := "stm.go:48", after := _, guard := none } (v := ?vbr5) rfl (Or.inl ⟨by rfl, ?hybr5⟩) ?restbr5
  case hybr5 => (intro w hSw; (try dsimp only at hSw); go_simp <;> with_reducible rfl)
  try simp only [putW, setZ, setS]
  refine tkW 6 { dst := some 9, op := Op.nilCheck (Operand.tmp 8), type := 0, pos := "stm.go:48", after := _, guard := none } (v := ?vbr6) rfl (Or.inl ⟨by rfl, ?hybr6⟩) ?restbr6
  case hybr6 => (intro w hSw; (try dsimp only at hSw); go_simp <;> with_reducible rfl)
  try simp only [putW, setZ, setS]
  refine tkW 7 { dst := some 10, op := Op.fieldAddr 70 (Operand.tmp 9) 2, type := 0, pos := "stm.go:48", after := _, guard := none } (v := ?vbr7) rfl (Or.inl ⟨by rfl, ?hybr7⟩) ?restbr7
  case hybr7 => (intro w hSw; (try dsimp only at hSw); go_simp <;> with_reducible rfl)
  try simp only [putW, setZ, setS]
  refine tkW 8 { dst := some 11, op := Op.load 3 (Operand.tmp 10), type := 3, pos := "stm.go:48", after := _, guard := none } (v := ?vbr8) rfl (Or.inl ⟨by rfl, ?hybr8⟩) ?restbr8
  case hybr8 => (intro w hSw; (try dsimp only at hSw); go_simp <;> with_reducible rfl)
  try simp only [putW, setZ, setS]
  refine tkW 9 { dst := some 12, op := Op.indexAddr 44 (Operand.tmp 7) (Operand.tmp 11), type := 0, pos := "stm.go:48", after := _, guard := none } (v := ?vbr9) rfl (Or.inl ⟨by rfl, ?hybr9⟩) ?restbr9
  case hybr9 => (intro w hSw; (try dsimp only at hSw); go_simp <;> with_reducible rfl)
  try simp only [putW, setZ, setS]
  refine tkW 10 { dst := some 2, op := Op.assign (Operand.tmp 12), type := 84, pos := "stm.go:48", after := _, guard := none } (v := ?vbr10) rfl (Or.inl ⟨by rfl, ?hybr10⟩) ?restbr10
  case hybr10 => (intro w hSw; (try dsimp only at hSw); go_simp <;> with_reducible rfl)
  try simp only [putW, setZ, setS]
  refine wpAnyH_done (by kernel_rfl) ?_ _
  go_wp2
  go_ret
  exact ⟨rfl, (Below.refl _ _).drew⟩

theorem tx_size : (Try.prog.info? 52).map (·.size) = some 11 := by kernel_rfl
theorem tx_one (x : Tx) : (encTx x).toArray.all (·.oneCell') = true := by simp [encTx, Value.oneCell']
theorem RunW.tthere {who : Int} (h : RunW w0 w r φ a m pw pm pv who) {k : Nat} {t : Tx} (hk : m.T[k]? = some t) : w.there a.gT (k * 11) 11 := fun j hj => by
  refine ⟨?_, h.tfree _⟩
  have hj2 : j < (encTx t).length := by rw [encTx_len]; exact hj
  rw [h.tcells hk (List.getElem?_eq_getElem hj2)]
  rfl
/-- A thread is overwritten by one that has read and written nothing: one operation. -/
theorem wpList_store_tx {who : Int} {ops : Array Oper} {rest : List Oper} {o : Oper} {ac : Act} {Q : Exit → Act → World → Prop} (h : RunW w0 w r φ a m pw pm pv who) {k : Nat} {t : Tx} (hk : m.T[k]? = some t) (t' : Tx) (hR : t'.rA = none ∧ t'.rc = 0 ∧ t'.R = [] ∧ t'.wA = none ∧ t'.wc = 0 ∧ t'.W = [])
    (hgd : o.guard = none) (x y : Operand) (ho : o.op = .store 52 x y) (hx : ac.eval x = .pointer (some ⟨a.gT, k * 11, none⟩)) (hy : ac.eval y = .agg (encTx t').toArray)
    (kk : ∀ w', RunW w0 w' r φ a { m with T := m.T.set k t' } pw pm pv who → wpList Try.prog ops Q rest (ac.put o.dst undef) w') : wpList Try.prog ops Q (o :: rest) ac w :=
  wpList_store_mid hgd 52 x y ho a.gT (k * 11) (encTx t').toArray hx hy (h.tthere hk) tx_size (tx_one t') (kk _ (h.tall hk t' hR))
theorem step_store_tx {who : Int} {ops : Array Oper} {o : Oper} {ac : Act} {K : Act → World → Prop} {Q : Exit → Act → World → Prop} {E : Prop} (h : RunW w0 w r φ a m pw pm pv who) {k : Nat} {t : Tx} (hk : m.T[k]? = some t) (t' : Tx) (hR : t'.rA = none ∧ t'.rc = 0 ∧ t'.R = [] ∧ t'.wA = none ∧ t'.wc = 0 ∧ t'.W = [])
    (x y : Operand) (hw : Region.wanted o (yielded ops ac.tmps) = true) (ho : o.op = .store 52 x y) (hx : ac.eval x = .pointer (some ⟨a.gT, k * 11, none⟩)) (hy : ac.eval y = .agg (encTx t').toArray)
    (kk : ∀ w', RunW w0 w' r φ a { m with T := m.T.set k t' } pw pm pv who → K (ac.put o.dst undef) w') : if Region.wanted o (yielded ops ac.tmps) = true then Oper.wp Try.prog o ac w K Q else E := by
  rw [if_pos hw]
  exact wp_store_mid 52 x y ho a.gT (k * 11) (encTx t').toArray hx hy (h.tthere hk) tx_size (tx_one t') (kk _ (h.tall hk t' hR))

theorem RunW.tc0 {who : Int} (h : RunW w0 w r φ a m pw pm pv who) {k : Nat} {t : Tx} (hk : m.T[k]? = some t) : RunW w0 w r φ a { m with T := m.T.set k t } pw pm pv who := by
  obtain ⟨hk1, hk2⟩ := List.getElem?_eq_some_iff.1 hk
  have e : ({ m with T := m.T.set k t } : Mm) = m := by subst hk2; rw [List.set_getElem_self]
  rw [e]; exact h
theorem RunW.tc {who : Int} {k : Nat} {t : Tx} (h : RunW w0 w r φ a { m with T := m.T.set k t } pw pm pv who) (hk : k < m.T.length) (t' : Tx) {j : Nat} {u : Value} (hj : j < 11) (he : encTx t' = (encTx t).set j u)
    (hr : t'.rA = t.rA ∧ t'.rc = t.rc ∧ t'.R = t.R ∧ t'.wA = t.wA ∧ t'.wc = t.wc ∧ t'.W = t.W) : RunW w0 (w.setCell ⟨a.gT, k * 11 + j, none⟩ u) r φ a { m with T := m.T.set k t' } pw pm pv who := by
  have := h.tcell (List.getElem?_set_self hk) t' hj he hr
  simpa only [List.set_set] using this
end
end Go.Proofs.Ytmcbnpeihedcaaa
