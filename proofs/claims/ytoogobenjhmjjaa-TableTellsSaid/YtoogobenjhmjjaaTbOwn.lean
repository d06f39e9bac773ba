/- table.own. -/
import Derived.Test.YtoogobenjhmjjaaTbWords
import Derived.Deep.RegionHeld3
import Derived.Deep.DrawnRows
namespace Go.Proofs.Ytoogobenjhmjjaa
open Go Go.RowKit
set_option linter.unusedVariables false
attribute [local go_sem ↓] Go.wp_at_zero Go.wp_at_succ

/-- A heap at work: its block, from base on, of the type that page work has, with rows of its own. -/
def OwnHp (w : World) (base b : Nat) (cap : Int) (ps : List Pg) (ts : List (List Int)) : Prop :=
  ∃ pv tv tvs, base ≤ b ∧ Blk w b 64 #[.int .i64 cap, pv, tv] ∧ w.ownsRow base 54 5 pv ps.length (ps.flatMap encP) ∧ TbO w base b tv tvs ts

/-- k of the tables are cloned. -/
def Cloned (w0 wr : World) (gT cT n k : Nat) (cap : Int) (pv : Value) (ps : List Pg) (ts : List (List Int)) (tvs0 : List Value) : Prop :=
  ∃ tvs, Blk wr w0.heap.size 28 #[.int .i64 cap, pv, .slice (some ⟨gT, 0, none⟩) n cT] ∧ wr.ownsRow w0.heap.size 54 5 pv ps.length (ps.flatMap encP) ∧
    wr.ownsRow w0.heap.size 47 1 (.slice (some ⟨gT, 0, none⟩) n cT) n tvs ∧ tvs.length = ts.length ∧
    (∀ (i : Nat) (v : Value) (t : List Int), i < k → tvs[i]? = some v → ts[i]? = some t → wr.ownsRow w0.heap.size 3 1 v t.length (t.flatMap encI)) ∧
    (∀ (i j : Nat) (v v' : Value) (g : Nat), i < j → j < k → tvs[i]? = some v → tvs[j]? = some v' → v.ownBlock = some g → v'.ownBlock ≠ some g) ∧
    (∀ i, k ≤ i → tvs[i]? = tvs0[i]?) ∧ Below w0.heap.size w0 wr

theorem Cloned.step {w0 wr w1 : World} {gT cT n k : Nat} {cap : Int} {pv : Value} {ps : List Pg} {ts : List (List Int)} {tvs0 : List Value} (h : Cloned w0 wr gT cT n k cap pv ps ts tvs0) (hk : k < n) (hn : n = ts.length)
    (hb : Below wr.heap.size wr w1) (v : Value) (t : List Int) (ht : ts[k]? = some t) (hv : w1.ownsRow wr.heap.size 3 1 v t.length (t.flatMap encI)) :
    Cloned w0 (w1.setCell ⟨gT, k, none⟩ v) gT cT n (k + 1) cap pv ps ts tvs0 := by
  obtain ⟨tvs, h1, h2, h3, h4, h5, h6, h7, h8⟩ := h
  have g3 : n ≤ cT ∧ cT ≤ maxLen ∧ w0.heap.size ≤ gT ∧ ∃ cur, Blk wr gT 47 cur ∧ cur.size = cT ∧ cur.toList.take n = tvs := by
    obtain ⟨g, cap', cur, hv, hg, hb, hc1, hc2, hc3, hc4⟩ := own_form h3 (by omega)
    injection hv with a b c
    injection a with a
    injection a with a _ _
    subst a c
    exact ⟨hc1, hc2, hg, cur, hb, by omega, by simpa using hc4⟩
  obtain ⟨g3a, g3b, g3c, cur, kT, g3e, g3f⟩ := g3
  have kT1 := kT.keep hb
  have hB1 : gT ≠ w0.heap.size := by
    intro e
    subst e
    unfold Blk at kT h1
    rw [h1] at kT
    injection kT with kT
    injection kT with _ kT _
    exact absurd kT (by decide)
  refine ⟨tvs.set k v, ?_, ?_, ?_, by simpa using h4, ?_, ?_, ?_, ?_⟩
  · exact (h1.keep hb).far (fun e => hB1 e.symm) v
  · exact own_far (own_below h2 hb) (own_ne (own_below h2 hb) kT1 (by decide)) v
  · refine own_of (by have := h3.1; simpa using this) g3c (kT1.set_ k v) g3a g3b (by simp [g3e]) ?_
    rw [take_set, Nat.mul_one, g3f]
  · intro i x y hi hx hy
    by_cases e : i = k
    · subst e
      rw [ht] at hy
      injection hy with hy
      subst hy
      rw [List.getElem?_set] at hx
      simp only [if_true] at hx
      split at hx
      · injection hx with hx
        subst hx
        refine own_far (ownsRow_mono hv h8.size) ?_ v
        intro e
        have h9 : wr.heap.size ≤ gT := (own_block_ge hv e).1
        have := kT.lt
        omega
      · cases hx
    · rw [List.getElem?_set_ne (by omega)] at hx
      have := own_below (h5 i x y (by omega) hx hy) hb
      exact own_far this (own_ne this kT1 (by decide)) v
  · intro i j x y g hij hj hx hy hg
    rw [List.getElem?_set_ne (by omega)] at hx
    by_cases e : j = k
    · subst e
      rw [List.getElem?_set] at hy
      simp only [if_true] at hy
      split at hy
      · injection hy with hy
        subst hy
        intro e2
        have h9 := (own_block_ge hv e2).1
        have hil : i < ts.length := by omega
        have := (own_block_ge (h5 i x ts[i] hij hx (List.getElem?_eq_getElem hil)) hg).2
        omega
      · cases hy
    · rw [List.getElem?_set_ne (by omega)] at hy
      exact h6 i j x y g hij (by omega) hx hy hg
  · intro i hi
    rw [List.getElem?_set_ne (by omega)]
    exact h7 i (by omega)
  · exact (h8.trans (hb.mono h8.size)).setCell g3c v

def OwnPost (cap : Int) (ps : List Pg) (ts : List (List Int)) (w : World) (e : Ending) (w' : World) : Prop :=
  ∃ b, e = .returned (.pointer (some ⟨b, 0, none⟩)) ∧ OwnHp w' w.heap.size b cap ps ts ∧ Below w.heap.size w w'

set_option maxRecDepth 100000 in
set_option maxHeartbeats 4000000 in
theorem town_any (v : Value) (cap : Int) (ps : List Pg) (ts : List (List Int)) (w : World) (hv : HpV w v cap ps ts) (hn : ps.length ≤ 1000) (hm : ts.length ≤ 1000) (hl : ∀ t ∈ ts, t.length ≤ 1000) :
    Calls Try.prog 33 #[v] w (OwnPost cap ps ts w) := by
  obtain ⟨A, c, A2, c2, rfl, hv⟩ := hv.form
  have cP := fun W h => clone_page (.slice A ps.length c) ps.length (ps.flatMap encP) W h (encP_one ps) (by omega)
  obtain ⟨tvs0, hs0, ht0⟩ := hv.tabs
  have cT := fun W h => clone_tabs (.slice A2 ts.length c2) ts.length tvs0 W h (by
    intro u hu
    obtain ⟨i, hi, rfl⟩ := List.getElem_of_mem hu
    obtain ⟨A', c', e, _, _⟩ := (ht0.2 i tvs0[i] (ts[i]'(by rw [← ht0.1]; exact hi)) (List.getElem?_eq_getElem hi) (List.getElem?_eq_getElem _)).form
    rw [e]; rfl) (by omega)
  have hpg := hv.pages
  have HV := Lib.hid hv
  have HS0 := Lib.hid hs0
  have HT0 := Lib.hid ht0
  have HL := Lib.hid hl
  clear hv hs0 ht0 hl
  go_enter Try.func33, Try.ntmps33
  have hA0 := ((Below.refl w.heap.size w).alloc (Nat.le_refl _) (.cells #[.int .i64 cap, .slice A ps.length c, .slice A2 ts.length c2] 28))
  have k0 := Blk.new_ w 28 #[.int .i64 cap, .slice A ps.length c, .slice A2 ts.length c2] (w.heap.size) (by simp)
  go_wp2_with fail
  refine (cP _ (hpg.below hA0)).mono ?_
  rintro e w1 ⟨v1, rfl, hown1, hb1⟩
  obtain ⟨A1, c1, rfl, _, _⟩ := (Sl.of_own hown1).form
  obtain ⟨hc1, hf1⟩ := bcell hb1
  have hz1 := hb1.size
  simp at hz1
  replace k0 := k0.keep hb1
  have hY1 := hA0.trans (hb1.mono (by simp))
  have k1 := k0.set_ 1 (.slice A1 ps.length c1)
  have hY1' := hY1.setCell (p := ⟨w.heap.size, 1, none⟩) (Nat.le_refl _) (.slice A1 ps.length c1)
  replace hown1 := own_far hown1 (own_ne hown1 k0 (by decide)) (.slice A1 ps.length c1) (p := ⟨w.heap.size, 1, none⟩)
  have hs1 := HS0.out.below hY1'
  clear k0
  go_wp2_with fail
  refine (cT _ hs1).mono ?_
  rintro e w2 ⟨v2, rfl, hown2, hb2⟩
  obtain ⟨A3, c3, rfl, _, _⟩ := (Sl.of_own hown2).form
  have hz2 := hb2.size
  simp at hz2
  obtain ⟨hc2, hf2⟩ := bcell hb2
  replace hown1 := own_below hown1 hb2
  replace k1 := k1.keep hb2
  have p0 : w2.cell? ⟨w.heap.size, 0, none⟩ = some (.int .i64 cap) := by rw [k1.cell]; rfl
  have p1 : w2.cell? ⟨w.heap.size, 1, none⟩ = some (.slice A1 ps.length c1) := by rw [k1.cell]; rfl
  have p2 : w2.cell? ⟨w.heap.size, 2, none⟩ = some (.slice A2 ts.length c2) := by rw [k1.cell]; rfl
  have pf2 : w2.frozen? ⟨w.heap.size, 2, none⟩ = false := k1.free 2
  have hY2 := hY1'.trans (hb2.mono hY1'.size)
  have k2 := k1.set_ 2 (.slice A3 ts.length c3)
  replace hown1 := own_far hown1 (own_ne hown1 k1 (by decide)) (.slice A3 ts.length c3) (p := ⟨w.heap.size, 2, none⟩)
  replace hown2 := own_far hown2 (own_ne hown2 k1 (by decide)) (.slice A3 ts.length c3) (p := ⟨w.heap.size, 2, none⟩)
  have hY2' := hY2.setCell (p := ⟨w.heap.size, 2, none⟩) (Nat.le_refl _) (.slice A3 ts.length c3)
  clear hs1 hc1 hf1 hc2 hf2
  go_wp2
  rcases Nat.eq_zero_or_pos ts.length with h0 | h0
  · obtain rfl : ts = [] := List.eq_nil_of_length_eq_zero h0
    have hw : Blk (w2.setCell ⟨w.heap.size, 2, none⟩ (.slice A3 0 c3)) w.heap.size 28 #[.int .i64 cap, .slice A1 ps.length c1, .slice A3 0 c3] := k2
    simp only [List.length_nil] at *
    refine wp_loop_rounds 1 ?_
    rw [rounds_succ]
    go_wp2
    go_ret
    have hb : w2.heap.size = (w2.setCell ⟨w.heap.size, 2, none⟩ (.slice A3 0 c3)).heap.size := by simp
    refine ⟨_, rfl, ⟨.slice A1 ps.length c1, .slice A3 0 c3, tvs0, by omega, Blk.new_ _ _ _ _ (by simp), ownsRow_mono (hown1.alloc _) (by simp), ?_, ?_, ?_, ?_, ?_⟩, hY2'.alloc (by simp; omega) _⟩
    · exact ownsRow_mono (hown2.alloc _) (by simp; omega)
    · intro g hg
      have := (own_block_ge hown2 hg).2
      simp at this
      exact this
    · exact HT0.out.1
    · intro i v t h1 h2
      simp at h2
    · intro i j v v' g _ h1 h2
      have := HT0.out.1
      rw [List.length_nil, List.length_eq_zero_iff] at this
      rw [this] at h1
      simp at h1
  · obtain ⟨gT, cap', cur, hA3, hgT, hcur, _⟩ := own_form hown2 h0
    injection hA3 with a1 _ a3
    subst a1
    subst a3
    have hgT' : w1.heap.size ≤ gT := by simpa using hgT
    have hcl : Cloned w (w2.setCell ⟨w.heap.size, 2, none⟩ (.slice (some ⟨gT, 0, none⟩) ts.length c3)) gT c3 ts.length 0 cap (.slice A1 ps.length c1) ps ts tvs0 :=
      ⟨tvs0, k2, ownsRow_mono hown1 (by simp), ownsRow_mono hown2 (by simp; omega), HT0.out.1, fun i v t h => absurd h (Nat.not_lt_zero _), fun i j v v' g _ h => absurd h (Nat.not_lt_zero _), fun i _ => rfl, hY2'⟩
    obtain ⟨n, hn2⟩ : ∃ n, ts.length = n := ⟨_, rfl⟩
    have HN := Lib.hid hn2
    have HCL := Lib.hid hcl
    rw [hn2] at HCL hm ⊢
    clear hcl hn2 hcur k1 k2 hown1 hown2 p0 p1 p2 pf2
    go_loopg [18] n (fun gg s18 wr => ∃ k : Nat, k ≤ n ∧ n - k ≤ gg ∧ s18 = .int .i64 k ∧ Hid (Cloned w wr gT c3 n k cap (.slice A1 ps.length c1) ps ts tvs0))
    case atStart => exact ⟨0, Nat.zero_le _, Nat.le_refl _, rfl, HCL.out⟩
    case round =>
      obtain ⟨k, hk, hg, rfl, HC⟩ := hrel
      by_cases hlt : k < n
      · have hltz : (k : Int) < (n : Int) := by omega
        have hgez : (0 : Int) ≤ (k : Int) := by omega
        have hkt : k < ts.length := by rw [HN.out]; exact hlt
        obtain ⟨tvs, c1', c2', c3', c4', c5', c6', c7', c8'⟩ := HC.out
        have hel : tvs[k]? = some (tvs0[k]'(by have := HT0.out.1; omega)) := by rw [c7' k (Nat.le_refl _), List.getElem?_eq_getElem]
        have e0 : wr.cell? ⟨gT, k, none⟩ = some (tvs0[k]'(by have := HT0.out.1; omega)) := by
          have := c3'.cells (g := gT) rfl k _ hel
          rwa [add_none, Nat.zero_add] at this
        have hsl := (HT0.out.2 k _ _ (List.getElem?_eq_getElem (by have := HT0.out.1; omega)) (List.getElem?_eq_getElem hkt)).below c8'
        obtain ⟨Ak, ck, hek, _, _⟩ := hsl.form
        rw [hek] at e0 hsl
        have s2 : wr.cell? ⟨w.heap.size, 2, none⟩ = some (.slice (some ⟨gT, 0, none⟩) n c3) := by rw [c1'.cell]; rfl
        have l0 := c1'.lt
        have htk := HL.out ts[k] (List.getElem_mem hkt)
        obtain ⟨t, ht⟩ : ∃ t, ts[k] = t := ⟨_, rfl⟩
        have HKT := Lib.hid (show ts[k]? = some t from by rw [List.getElem?_eq_getElem hkt, ht])
        rw [ht] at e0 hsl htk
        have cI := fun W h => clone_ints (.slice Ak t.length ck) t.length (t.flatMap encI) W h (encI_one _) (by omega)
        have HS := Lib.hid hsl
        clear ht
        clear hsl c1' c2' c4' c5' c6' c7' hel hek
        obtain ⟨gl, hgf⟩ : gT < wr.heap.size ∧ ∀ o, wr.frozen? ⟨gT, o, none⟩ = false := by
          obtain ⟨g, cap', cur, hv, _, hb, _⟩ := own_form c3' (by omega)
          injection hv with hv _ _
          injection hv with hv
          injection hv with hv _ _
          subst hv
          exact ⟨hb.lt, hb.free⟩
        have gf := hgf k
        clear hgf c3' c8'
        have BW := (Below.refl wr.heap.size wr).drew
        go_wp2_with fail
        refine wp_region_held_drew (S := fun w' => w'.cell? ⟨w.heap.size, 2, none⟩ = some (.slice (some ⟨gT, 0, none⟩) n c3)) (by kernel_rfl) ?_ (fun hHeldbr => ?_)
        · exact s2
        refine wpAnyH_take (i := 0) (oi := { dst := some 23, op := Op.fieldAddr 28 (Operand.tmp 1) 1, type := 0, pos := "table.go:22", after := _, guard := none }) (v := ?vbr0) rfl (by kernel_rfl) (by kernel_rfl) (by kernel_rfl) (fun _ _ _ h => h) (Or.inl ⟨by rfl, ?hybr0⟩) (by assumption) ?restbr0
        case hybr0 => (intro w hSw; (try dsimp only at hSw); go_simp <;> with_reducible rfl)
        try simp only [Act.put, List.setIfInBounds_toArray, List.set_cons_zero, List.set_cons_succ]
        refine wpAnyH_take (i := 1) (oi := { dst := some 24, op := Op.load 26 (Operand.tmp 23), type := 26, pos := "table.go:22", after := _, guard := none }) (v := ?vbr1) rfl (by kernel_rfl) (by kernel_rfl) (by kernel_rfl) (fun _ _ _ h => h) (Or.inl ⟨by rfl, ?hybr1⟩) (by assumption) ?restbr1
        case hybr1 => (intro w hSw; (try dsimp only at hSw); go_simp <;> with_reducible rfl)
        try simp only [Act.put, List.setIfInBounds_toArray, List.set_cons_zero, List.set_cons_succ]
        refine wpAnyH_take (i := 2) (oi := { dst := some 25, op := Op.move (Operand.tmp 3), type := 3, pos := "table.go:22", after := _, guard := none }) (v := ?vbr2) rfl (by kernel_rfl) (by kernel_rfl) (by kernel_rfl) (fun _ _ _ h => h) (Or.inl ⟨by rfl, ?hybr2⟩) (by assumption) ?restbr2
        case hybr2 => (intro w hSw; (try dsimp only at hSw); go_simp <;> with_reducible rfl)
        try simp only [Act.put, List.setIfInBounds_toArray, List.set_cons_zero, List.set_cons_succ]
        refine wpAnyH_take (i := 3) (oi := { dst := some 26, op := Op.move (Operand.tmp 4), type := 47, pos := "table.go:22", after := _, guard := none }) (v := ?vbr3) rfl (by kernel_rfl) (by kernel_rfl) (by kernel_rfl) (fun _ _ _ h => h) (Or.inl ⟨by rfl, ?hybr3⟩) (by assumption) ?restbr3
        case hybr3 => (intro w hSw; (try dsimp only at hSw); go_simp <;> with_reducible rfl)
        try simp only [Act.put, List.setIfInBounds_toArray, List.set_cons_zero, List.set_cons_succ]
        refine wpAnyH_ready (rs := [4]) (by kernel_rfl) (by simp) ?_
        refine AllReadyH.cons (o := { dst := some 27, op := Op.call { callee := Callee.value (Operand.func 58), args := #[Operand.tmp 26], argTypes := #[47] }, type := 47, pos := "table.go:22", after := _, guard := none }) rfl (fun K hK => ?_) AllReadyH.nil
        go_simp
        refine (cI _ (HS.out.below BW)).mono ?_
        rintro e w4 ⟨v4, rfl, hown4, hb4⟩
        have hX := BW.trans (hb4.mono BW.size)
        have x0 := (hX.cell (p := ⟨gT, k, none⟩) gl).trans e0
        have xf := (hX.frozen (p := ⟨gT, k, none⟩) gl).trans gf
        obtain ⟨A4, c4, rfl, _, _⟩ := (Sl.of_own hown4).form
        have y2 := (hX.cell (p := ⟨w.heap.size, 2, none⟩) l0).trans s2
        try go_wp2_with fail
        refine hK.out _ _ ?_ (fun hHeldbr4 => ?_)
        · exact y2
        clear hK K hHeldbr
        try simp only [Act.put, List.setIfInBounds_toArray, List.set_cons_zero, List.set_cons_succ]
        refine wpAnyH_take (i := 5) (oi := { dst := some 28, op := Op.indexAddr 26 (Operand.tmp 24) (Operand.tmp 25), type := 0, pos := "table.go:22", after := _, guard := none }) (v := ?vbr5) rfl (by kernel_rfl) (by kernel_rfl) (by kernel_rfl) (fun _ _ _ h => h) (Or.inl ⟨by rfl, ?hybr5⟩) (by assumption) ?restbr5
        case hybr5 => (intro w hSw; (try dsimp only at hSw); go_simp <;> with_reducible rfl)
        try simp only [Act.put, List.setIfInBounds_toArray, List.set_cons_zero, List.set_cons_succ]
        refine wpAnyH_ready (rs := [6]) (by kernel_rfl) (by simp) ?_
        refine AllReadyH.cons (o := { dst := none, op := Op.store 47 (Operand.tmp 28) (Operand.tmp 27), type := 0, pos := "table.go:22", after := _, guard := none }) rfl (fun K hK => ?_) AllReadyH.nil
        go_simp
        skip
        refine hK.out _ _ ?_ (fun hHeldbr6 => ?_)
        · (rw [World.cell?_setCell_far _ _ _ _ (by simp; omega)]; exact y2)
        clear hK K hHeldbr4
        try simp only [Act.put, List.setIfInBounds_toArray, List.set_cons_zero, List.set_cons_succ]
        refine wpAnyH_done (by kernel_rfl) ?_ _
        have HCS := Lib.hid (HC.out.step hlt HN.out.symm hX _ t HKT.out (ownsRow_mono hown4 BW.size))
        clear hown4 hX BW HC cI HS
        go_wp2
        go_roundg (n - (k + 1))
        case measure => omega
        case rel => exact ⟨k + 1, by omega, by omega, by go_num, HCS.out⟩
      · obtain rfl : k = n := by omega
        obtain ⟨tvs, q1, q2, q3, q4, q5, q6, q7, q8⟩ := HC.out
        have p0 : wr.cell? ⟨w.heap.size, 0, none⟩ = some (.int .i64 cap) := by rw [q1.cell]; rfl
        have p1 : wr.cell? ⟨w.heap.size, 1, none⟩ = some (.slice A1 ps.length c1) := by rw [q1.cell]; rfl
        have p2 : wr.cell? ⟨w.heap.size, 2, none⟩ = some (.slice (some ⟨gT, 0, none⟩) k c3) := by rw [q1.cell]; rfl
        have HQ := Lib.hid (And.intro q2 (And.intro q3 (And.intro q4 (And.intro q5 (And.intro q6 q8)))))
        clear q1 q2 q3 q4 q5 q6 q7 q8 HC HCL
        go_wp2
        go_ret
        obtain ⟨q2, q3, q4, q5, q6, q8⟩ := HQ.out
        refine ⟨_, rfl, ⟨.slice A1 ps.length c1, .slice (some ⟨gT, 0, none⟩) k c3, tvs, q8.size, Blk.new _ _ _, q2.alloc _, ?_, ?_, q4, ?_, ?_⟩, q8.alloc q8.size _⟩
        · rw [HN.out]; exact q3.alloc _
        · intro g hg; exact (own_block_ge q3 hg).2
        · intro i v t h1 h2
          have hi : i < k := by rw [← HN.out]; exact (List.getElem?_eq_some_iff.1 h2).1
          have := q5 i v t hi h1 h2
          exact ⟨this.alloc _, fun g hg => (own_block_ge this hg).2⟩
        · intro i j v v' g hij h1 h2
          have hj : j < k := by rw [← HN.out, ← q4]; exact (List.getElem?_eq_some_iff.1 h2).1
          exact q6 i j v v' g hij hj h1 h2
end Go.Proofs.Ytoogobenjhmjjaa
