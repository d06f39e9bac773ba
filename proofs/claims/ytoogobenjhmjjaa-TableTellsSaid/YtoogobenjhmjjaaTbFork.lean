/- (*table.heap).fork and drop. -/
import Derived.Test.YtoogobenjhmjjaaTbEach
namespace Go.Proofs.Ytoogobenjhmjjaa
open Go Go.RowKit
set_option linter.unusedVariables false
attribute [local go_sem ↓] Go.wp_at_zero Go.wp_at_succ

/-- Tables in rows of one's own. -/
def TbQ (w : World) (base : Nat) (tv : Value) (ts : List (List Int)) : Prop :=
  ∃ tvs, w.ownsRow base 47 1 tv ts.length tvs ∧ tvs.length = ts.length ∧ ∀ (i : Nat) (v : Value) (t : List Int), tvs[i]? = some v → ts[i]? = some t → w.ownsRow base 3 1 v t.length (t.flatMap encI)
/-- A heap's value in rows of one's own. -/
def HpQ (w : World) (base : Nat) (v : Value) (cap : Int) (ps : List Pg) (ts : List (List Int)) : Prop :=
  ∃ pv tv, v = .agg #[.int .i64 cap, pv, tv] ∧ w.ownsRow base 54 5 pv ps.length (ps.flatMap encP) ∧ TbQ w base tv ts
/-- A heap at work, in rows of one's own. -/
def OwnW (w : World) (base b : Nat) (cap : Int) (ps : List Pg) (ts : List (List Int)) : Prop :=
  ∃ pv tv, base ≤ b ∧ Blk w b 64 #[.int .i64 cap, pv, tv] ∧ w.ownsRow base 54 5 pv ps.length (ps.flatMap encP) ∧ TbQ w base tv ts

section
variable {w w' : World} {base b hi : Nat} {v tv : Value} {tvs : List Value} {cap : Int} {ps : List Pg} {ts : List (List Int)}
theorem TbO.toQ (h : TbO w base hi tv tvs ts) : TbQ w base tv ts := ⟨tvs, h.1, h.2.2.1, fun i v t h1 h2 => (h.2.2.2.1 i v t h1 h2).1⟩
theorem OwnHp.toW (h : OwnHp w base b cap ps ts) : OwnW w base b cap ps ts := by
  obtain ⟨pv, tv, tvs, h1, h2, h3, h4⟩ := h
  exact ⟨pv, tv, h1, h2, h3, h4.toQ⟩
theorem TbQ.keep (h : TbQ w base tv ts) (hb : Below w.heap.size w w') : TbQ w' base tv ts := by
  obtain ⟨tvs, h1, h2, h3⟩ := h
  exact ⟨tvs, own_below h1 hb, h2, fun i v t a c => own_below (h3 i v t a c) hb⟩
theorem TbQ.tabs (h : TbQ w base tv ts) : TbV w tv ts := by
  obtain ⟨tvs, h1, h2, h3⟩ := h
  exact ⟨tvs, Sl.of_own h1, h2, fun i v t a c => Sl.of_own (h3 i v t a c)⟩
theorem HpQ.to (h : HpQ w base v cap ps ts) : HpV w v cap ps ts := by
  obtain ⟨pv, tv, rfl, h1, h2⟩ := h
  exact ⟨pv, tv, rfl, Sl.of_own h1, h2.tabs⟩
theorem HpQ.keep (h : HpQ w base v cap ps ts) (hb : Below w.heap.size w w') : HpQ w' base v cap ps ts := by
  obtain ⟨pv, tv, rfl, h1, h2⟩ := h
  exact ⟨pv, tv, rfl, own_below h1 hb, h2.keep hb⟩
/-- A store into a block of another type. -/
theorem TbQ.other (h : TbQ w base tv ts) {g : Nat} {t : TypeId} {cs : Array Value} (hg : Blk w g t cs) (n1 : 47 ≠ t) (n2 : 3 ≠ t) (o : Nat) (u : Value) : TbQ (w.setCell ⟨g, o, none⟩ u) base tv ts := by
  obtain ⟨tvs, h1, h2, h3⟩ := h
  exact ⟨tvs, own_far h1 (own_ne h1 hg n1) u, h2, fun i v t' a c => own_far (h3 i v t' a c) (own_ne (h3 i v t' a c) hg n2) u⟩
theorem HpQ.other (h : HpQ w base v cap ps ts) {g : Nat} {t : TypeId} {cs : Array Value} (hg : Blk w g t cs) (n1 : 47 ≠ t) (n2 : 3 ≠ t) (n3 : 54 ≠ t) (o : Nat) (u : Value) : HpQ (w.setCell ⟨g, o, none⟩ u) base v cap ps ts := by
  obtain ⟨pv, tv, rfl, h1, h2⟩ := h
  exact ⟨pv, tv, rfl, own_far h1 (own_ne h1 hg n3) u, h2.other hg n1 n2 o u⟩
theorem HpQ.mono (h : HpQ w base v cap ps ts) (hb : hi ≤ base) : HpQ w hi v cap ps ts := by
  obtain ⟨pv, tv, rfl, h1, tvs, h2, h3, h4⟩ := h
  exact ⟨pv, tv, rfl, ownsRow_mono h1 hb, tvs, ownsRow_mono h2 hb, h3, fun i v t a c => ownsRow_mono (h4 i v t a c) hb⟩
end

/-- Rows of different types lie in different blocks. -/
theorem own_kept_ne {w : World} {base base' : Nat} {e e' : TypeId} {k k' n n' : Nat} {v v' : Value} {xs xs' : List Value} (h : w.ownsRow base e k v n xs) (h' : w.ownsRow base' e' k' v' n' xs') (hne : e ≠ e') : v.ownBlock = none ∨ v.ownBlock ≠ v'.ownBlock := by
  rcases h'.2 with ⟨rfl, _⟩ | ⟨g, cap, cur, rfl, _, hh, _⟩
  · cases hv : v.ownBlock with
    | none => exact .inl rfl
    | some g => exact .inr (by simp [Value.ownBlock])
  · exact .inr (own_ne h (g := g) (t := e') (cs := cur) hh hne)

theorem fork_end {w1 w4 w5 : World} {base b gT cT m g cap' : Nat} {cap : Int} {pv1 tv1 : Value} {ps1 : List Pg} {ts : List (List Int)} {t : List Int} {tvs1 : List Value} {A4 : Option Addr} {c4 hi : Nat}
    (hB1 : Blk w1 b 64 #[.int .i64 cap, pv1, .slice (some ⟨gT, 0, none⟩) m cT]) (hP1 : w1.ownsRow base 54 5 pv1 ps1.length (ps1.flatMap encP))
    (hTT : w1.ownsRow base 47 1 (.slice (some ⟨gT, 0, none⟩) m cT) m tvs1) (hT1 : TbO w1 base hi tv1 tvs1 ts) (hm : ts.length = m) (hX : Below w1.heap.size w1 w4)
    (hO4 : w4.ownsRow w1.heap.size 3 1 (.slice A4 t.length c4) t.length (t.flatMap encI)) (hO5 : w5.ownsRow base 47 1 (.slice (some ⟨g, 0, none⟩) (m + 1) cap') (m + 1) (tvs1 ++ [.slice A4 t.length c4]))
    (hG5 : (w4.alloc (.cells #[.slice A4 t.length c4] 47)).grownBy w5 (some gT)) (hb1 : base ≤ b) (hgT : gT < b) (hz4 : w1.heap.size ≤ w4.heap.size) (hb : b < w1.heap.size) :
    OwnW (w5.setCell ⟨b, 2, none⟩ (.slice (some ⟨g, 0, none⟩) (m + 1) cap')) base b cap ps1 (ts ++ [t]) := by
  subst hm
  have hB5 : Blk w5 b 64 #[.int .i64 cap, pv1, .slice (some ⟨gT, 0, none⟩) ts.length cT] := ((hB1.keep hX).alloc _).grown hG5 (by simp; omega)
  have hT4 := (own_below hTT hX).alloc (.cells #[.slice A4 t.length c4] 47)
  have hP4 := (own_below hP1 hX).alloc (.cells #[.slice A4 t.length c4] 47)
  have hP5 := hP4.kept hG5 (own_kept_ne (e := 54) (e' := 47) hP4 hT4 (by decide))
  refine ⟨pv1, _, hb1, hB5.set_ 2 _, own_far hP5 (own_ne hP5 hB5 (by decide)) _, tvs1 ++ [.slice A4 t.length c4], ?_, ?_, ?_⟩
  · rw [List.length_append]
    exact own_far hO5 (own_ne hO5 hB5 (by decide)) _
  · rw [List.length_append, List.length_append, hT1.2.2.1]; rfl
  · intro i v t' h1 h2
    have hrow : (w4.alloc (.cells #[.slice A4 t.length c4] 47)).ownsRow base 3 1 v t'.length (t'.flatMap encI) := by
      by_cases hi : i < ts.length
      · rw [List.getElem?_append_left (by rw [hT1.2.2.1]; exact hi)] at h1
        rw [List.getElem?_append_left hi] at h2
        exact (own_below (hT1.2.2.2.1 i v t' h1 h2).1 hX).alloc _
      · rw [List.getElem?_append_right (by rw [hT1.2.2.1]; omega), hT1.2.2.1] at h1
        rw [List.getElem?_append_right (by omega)] at h2
        have hi0 : i - ts.length = 0 := by
          have := (List.getElem?_eq_some_iff.1 h2).1
          simp at this
          omega
        rw [hi0] at h1 h2
        simp at h1 h2
        subst h1 h2
        exact (ownsRow_mono hO4 (show base ≤ w1.heap.size by omega)).alloc _
    have h5 := hrow.kept hG5 (own_kept_ne (e := 3) (e' := 47) hrow hT4 (by decide))
    exact own_far h5 (own_ne h5 hB5 (by decide)) _
theorem fork_below {w w1 w4 w5 : World} {base b gT cT m : Nat} {tvs1 : List Value} {o : Obj} {u : Value} (hY1 : Below b w w1) (hTT : w1.ownsRow base 47 1 (.slice (some ⟨gT, 0, none⟩) m cT) m tvs1) (hX : Below w1.heap.size w1 w4)
    (hG5 : (w4.alloc o).grownBy w5 (some gT)) (hb1 : base ≤ b) (hb : b < w1.heap.size) (hz4 : w1.heap.size ≤ w4.heap.size) : Below base w (w5.setCell ⟨b, 2, none⟩ u) := by
  have h9 := ((hY1.mono hb1).trans (hX.mono (show base ≤ w1.heap.size by omega))).alloc (show base ≤ w4.heap.size by omega) o
  exact (h9.grown hG5 (by simp; omega) (fun g hg => by injection hg with hg; subst hg; exact (own_block_ge hTT rfl).1)).setCell hb1 _

/-- What fork comes to: the table's place, the error, the pages, the tables. -/
def forkS (cap : Int) (ps : List Pg) (ts : List (List Int)) (k : Nat) : Int × Int × List Pg × List (List Int) :=
  if ts.length = 5 then (-1, 8, ps, ts) else ((ts.length : Int), 0, each_shareL cap ps ((prs (ts.getD k [])).map (·.2)), ts ++ [ts.getD k []])

def ForkPost (w : World) (base b : Nat) (cap : Int) (r : Int × Int × List Pg × List (List Int)) (e : Ending) (w' : World) : Prop :=
  e = .returned (.tuple #[.int .i64 r.1, .int .i64 r.2.1]) ∧ OwnW w' base b cap r.2.2.1 r.2.2.2 ∧ Below base w w'

set_option maxRecDepth 100000 in
set_option maxHeartbeats 4000000 in
theorem fork_any (base b k : Nat) (cap : Int) (ps : List Pg) (ts : List (List Int)) (w : World) (hs : OwnHp w base b cap ps ts) (hk : k < ts.length) (hl : ∀ t ∈ ts, t.length ≤ 1000) (hm : ts.length ≤ 1000) (hn : ps.length ≤ 1000) :
    Calls Try.prog 44 #[.pointer (some ⟨b, 0, none⟩), .int .i64 (k : Int)] w (ForkPost w base b cap (forkS cap ps ts k)) := by
  have hat : ts.getD k [] = ts[k] := by rw [List.getD_eq_getElem?_getD, List.getElem?_eq_getElem hk]; rfl
  have hb1 : base ≤ b := by obtain ⟨_, _, _, h, _⟩ := hs; exact h
  have hb2 : b < w.heap.size := by obtain ⟨_, _, _, _, h, _⟩ := hs; exact h.lt
  by_cases h5 : ts.length = 5
  · unfold forkS
    rw [if_pos h5]
    obtain ⟨pv, tv, tvs, hbase, hB, hP, hT⟩ := id hs
    obtain ⟨A, c, rfl, _, _⟩ := hT.tabs.form
    have p2 : w.cell? ⟨b, 2, none⟩ = some (.slice A ts.length c) := by rw [hB.cell]; rfl
    have HS := Lib.hid hs
    rw [h5] at p2
    clear hB hP hT hs h5 hat
    go_enter Try.func44, Try.ntmps44
    go_wp2
    go_ret2
    exact ⟨rfl, HS.out.toW, Below.refl _ _⟩
  · unfold forkS
    rw [if_neg h5, hat]
    obtain ⟨t, ht⟩ : ∃ t, ts[k] = t := ⟨_, rfl⟩
    have htl := hl t (ht ▸ List.getElem_mem hk)
    have cE := each_share base b k cap ps ts t w hs hk ht htl hn
    rw [ht]
    obtain ⟨pv, tv, tvs, hbase, hB, hP, hT⟩ := id hs
    obtain ⟨A, c, rfl, _, _⟩ := hT.tabs.form
    have p2 : w.cell? ⟨b, 2, none⟩ = some (.slice A ts.length c) := by rw [hB.cell]; rfl
    have h5' : ((ts.length : Int) == 5) = false := by rw [beq_eq_false_iff_ne]; omega
    clear hB hP hT hs hat
    go_enter Try.func44, Try.ntmps44
    go_wp2_with fail
    refine cE.mono ?_
    rintro e w1 ⟨rfl, hs1, hY1⟩
    obtain ⟨pv1, tv1, tvs1, _, hB1, hP1, hT1⟩ := hs1
    obtain ⟨gT, cT, Ak, ck, rfl, hgT, htk, hcell, hI⟩ := hT1.table hk
    rw [ht] at hcell hI htk
    have q2 : w1.cell? ⟨b, 2, none⟩ = some (.slice (some ⟨gT, 0, none⟩) ts.length cT) := by rw [hB1.cell]; rfl
    have qf : w1.frozen? ⟨b, 2, none⟩ = false := hB1.free 2
    have hb1' : b < w1.heap.size := hB1.lt
    have hgl : gT < w1.heap.size := by omega
    obtain ⟨i0, hi0, hz0, hz1, hz2⟩ := info_parts clone_tabs_info
    have cC := fun W h => clone_ints (.slice Ak t.length ck) t.length (t.flatMap encI) W h (encI_one t) (by omega)
    have HP1 := Lib.hid hP1
    have HT1 := Lib.hid hT1
    have HI := Lib.hid hI
    have hTT := hT1.1
    have hk0 : (0 : Int) ≤ (k : Int) := by omega
    have hk1 : (k : Int) < (ts.length : Int) := by omega
    have BW := (Below.refl w1.heap.size w1).drew
    have HY1 := Lib.hid hY1
    obtain ⟨m, hm2⟩ : ∃ m, ts.length = m := ⟨_, rfl⟩
    have HM := Lib.hid hm2
    rw [hm2] at hk1 q2 hm h5' hB1 hTT ⊢
    have HB1 := Lib.hid hB1
    have HTT := Lib.hid hTT
    clear hTT hB1 hP1 hT1 hI htk ht cE hY1 hl h5 hk p2 hm2
    go_wp2_with fail
    refine wp_region_held_drew (S := fun _ => True) (by kernel_rfl) ?_ (fun hHeldbr => ?_)
    · trivial
    refine wpAnyH_take (i := 0) (oi := { dst := some 16, op := Op.move (Operand.tmp 0), type := 61, pos := "table.go:128", after := _, guard := none }) (v := ?vbr0b1) rfl (by kernel_rfl) (by kernel_rfl) (by kernel_rfl) (fun _ _ _ h => h) (Or.inl ⟨by rfl, ?hybr0b1⟩) (by assumption) ?restbr0b1
    case hybr0b1 => (intro w hSw; (try dsimp only at hSw); go_simp <;> with_reducible rfl)
    try simp only [Act.put, List.setIfInBounds_toArray, List.set_cons_zero, List.set_cons_succ]
    refine wpAnyH_take (i := 1) (oi := { dst := some 17, op := Op.move (Operand.tmp 0), type := 61, pos := "table.go:128", after := _, guard := none }) (v := ?vbr1b2) rfl (by kernel_rfl) (by kernel_rfl) (by kernel_rfl) (fun _ _ _ h => h) (Or.inl ⟨by rfl, ?hybr1b2⟩) (by assumption) ?restbr1b2
    case hybr1b2 => (intro w hSw; (try dsimp only at hSw); go_simp <;> with_reducible rfl)
    try simp only [Act.put, List.setIfInBounds_toArray, List.set_cons_zero, List.set_cons_succ]
    refine wpAnyH_take (i := 2) (oi := { dst := some 18, op := Op.nilCheck (Operand.tmp 17), type := 0, pos := "table.go:128", after := _, guard := none }) (v := ?vbr2b3) rfl (by kernel_rfl) (by kernel_rfl) (by kernel_rfl) (fun _ _ _ h => h) (Or.inl ⟨by rfl, ?hybr2b3⟩) (by assumption) ?restbr2b3
    case hybr2b3 => (intro w hSw; (try dsimp only at hSw); go_simp <;> with_reducible rfl)
    try simp only [Act.put, List.setIfInBounds_toArray, List.set_cons_zero, List.set_cons_succ]
    refine wpAnyH_take (i := 3) (oi := { dst := some 19, op := Op.fieldAddr 64 (Operand.tmp 18) 0, type := 0, pos := "table.go:128", after := _, guard := none }) (v := ?vbr3b4) rfl (by kernel_rfl) (by kernel_rfl) (by kernel_rfl) (fun _ _ _ h => h) (Or.inl ⟨by rfl, ?hybr3b4⟩) (by assumption) ?restbr3b4
    case hybr3b4 => (intro w hSw; (try dsimp only at hSw); go_simp <;> with_reducible rfl)
    try simp only [Act.put, List.setIfInBounds_toArray, List.set_cons_zero, List.set_cons_succ]
    refine wpAnyH_take (i := 4) (oi := { dst := some 20, op := Op.fieldAddr 28 (Operand.tmp 19) 1, type := 0, pos := "table.go:128", after := _, guard := none }) (v := ?vbr4b5) rfl (by kernel_rfl) (by kernel_rfl) (by kernel_rfl) (fun _ _ _ h => h) (Or.inl ⟨by rfl, ?hybr4b5⟩) (by assumption) ?restbr4b5
    case hybr4b5 => (intro w hSw; (try dsimp only at hSw); go_simp <;> with_reducible rfl)
    try simp only [Act.put, List.setIfInBounds_toArray, List.set_cons_zero, List.set_cons_succ]
    refine wpAnyH_take (i := 6) (oi := { dst := some 22, op := Op.move (Operand.tmp 0), type := 61, pos := "table.go:128", after := _, guard := none }) (v := ?vbr6b6) rfl (by kernel_rfl) (by kernel_rfl) (by kernel_rfl) (fun _ _ _ h => h) (Or.inl ⟨by rfl, ?hybr6b6⟩) (by assumption) ?restbr6b6
    case hybr6b6 => (intro w hSw; (try dsimp only at hSw); go_simp <;> with_reducible rfl)
    try simp only [Act.put, List.setIfInBounds_toArray, List.set_cons_zero, List.set_cons_succ]
    refine wpAnyH_take (i := 7) (oi := { dst := some 23, op := Op.nilCheck (Operand.tmp 22), type := 0, pos := "table.go:128", after := _, guard := none }) (v := ?vbr7b7) rfl (by kernel_rfl) (by kernel_rfl) (by kernel_rfl) (fun _ _ _ h => h) (Or.inl ⟨by rfl, ?hybr7b7⟩) (by assumption) ?restbr7b7
    case hybr7b7 => (intro w hSw; (try dsimp only at hSw); go_simp <;> with_reducible rfl)
    try simp only [Act.put, List.setIfInBounds_toArray, List.set_cons_zero, List.set_cons_succ]
    refine wpAnyH_take (i := 8) (oi := { dst := some 24, op := Op.fieldAddr 64 (Operand.tmp 23) 0, type := 0, pos := "table.go:128", after := _, guard := none }) (v := ?vbr8b8) rfl (by kernel_rfl) (by kernel_rfl) (by kernel_rfl) (fun _ _ _ h => h) (Or.inl ⟨by rfl, ?hybr8b8⟩) (by assumption) ?restbr8b8
    case hybr8b8 => (intro w hSw; (try dsimp only at hSw); go_simp <;> with_reducible rfl)
    try simp only [Act.put, List.setIfInBounds_toArray, List.set_cons_zero, List.set_cons_succ]
    refine wpAnyH_take (i := 9) (oi := { dst := some 25, op := Op.fieldAddr 28 (Operand.tmp 24) 1, type := 0, pos := "table.go:128", after := _, guard := none }) (v := ?vbr9b9) rfl (by kernel_rfl) (by kernel_rfl) (by kernel_rfl) (fun _ _ _ h => h) (Or.inl ⟨by rfl, ?hybr9b9⟩) (by assumption) ?restbr9b9
    case hybr9b9 => (intro w hSw; (try dsimp only at hSw); go_simp <;> with_reducible rfl)
    try simp only [Act.put, List.setIfInBounds_toArray, List.set_cons_zero, List.set_cons_succ]
    refine wpAnyH_take (i := 11) (oi := { dst := some 27, op := Op.move (Operand.tmp 1), type := 3, pos := "table.go:128", after := _, guard := none }) (v := ?vbr11b10) rfl (by kernel_rfl) (by kernel_rfl) (by kernel_rfl) (fun _ _ _ h => h) (Or.inl ⟨by rfl, ?hybr11b10⟩) (by assumption) ?restbr11b10
    case hybr11b10 => (intro w hSw; (try dsimp only at hSw); go_simp <;> with_reducible rfl)
    try simp only [Act.put, List.setIfInBounds_toArray, List.set_cons_zero, List.set_cons_succ]
    refine wpAnyH_ready (rs := [5, 10]) (by kernel_rfl) (by simp) ?_
    refine AllReadyH.cons (o := { dst := some 21, op := Op.load 26 (Operand.tmp 20), type := 26, pos := "table.go:128", after := _, guard := none }) rfl (fun K hK => ?_) ?_
    · go_simp
      skip
      refine hK.out _ _ ?_ (fun hHeldbr5b11 => ?_)
      · trivial
      clear hK K hHeldbr
      try simp only [Act.put, List.setIfInBounds_toArray, List.set_cons_zero, List.set_cons_succ]
      refine wpAnyH_ready (rs := [10]) (by kernel_rfl) (by simp) ?_
      refine AllReadyH.cons (o := { dst := some 26, op := Op.load 26 (Operand.tmp 25), type := 26, pos := "table.go:128", after := _, guard := none }) rfl (fun K hK => ?_) AllReadyH.nil
      go_simp
      skip
      refine hK.out _ _ ?_ (fun hHeldbr10b12 => ?_)
      · trivial
      clear hK K hHeldbr5b11
      try simp only [Act.put, List.setIfInBounds_toArray, List.set_cons_zero, List.set_cons_succ]
      refine wpAnyH_take (i := 12) (oi := { dst := some 28, op := Op.indexAddr 26 (Operand.tmp 26) (Operand.tmp 27), type := 0, pos := "table.go:128", after := _, guard := none }) (v := ?vbr12b13) rfl (by kernel_rfl) (by kernel_rfl) (by kernel_rfl) (fun _ _ _ h => h) (Or.inl ⟨by rfl, ?hybr12b13⟩) (by assumption) ?restbr12b13
      case hybr12b13 => (intro w hSw; (try dsimp only at hSw); go_simp <;> with_reducible rfl)
      try simp only [Act.put, List.setIfInBounds_toArray, List.set_cons_zero, List.set_cons_succ]
      refine wpAnyH_ready (rs := [13]) (by kernel_rfl) (by simp) ?_
      refine AllReadyH.cons (o := { dst := some 29, op := Op.load 47 (Operand.tmp 28), type := 47, pos := "table.go:128", after := _, guard := none }) rfl (fun K hK => ?_) AllReadyH.nil
      go_simp
      skip
      refine hK.out _ _ ?_ (fun hHeldbr13b14 => ?_)
      · trivial
      clear hK K hHeldbr10b12
      try simp only [Act.put, List.setIfInBounds_toArray, List.set_cons_zero, List.set_cons_succ]
      refine wpAnyH_ready (rs := [14]) (by kernel_rfl) (by simp) ?_
      refine AllReadyH.cons (o := { dst := some 30, op := Op.call { callee := Callee.value (Operand.func 58), args := #[Operand.tmp 29], argTypes := #[47] }, type := 47, pos := "table.go:128", after := _, guard := none }) rfl (fun K hK => ?_) AllReadyH.nil
      go_simp
      refine (cC _ (HI.out.1.below BW)).mono ?_
      rintro e w4 ⟨v4, rfl, hown4, hb4⟩
      have hX := BW.trans (hb4.mono BW.size)
      obtain ⟨A4, c4, rfl, _, _⟩ := (Sl.of_own hown4).form
      have y2 := (hX.cell (p := ⟨b, 2, none⟩) hb1').trans q2
      have yf := (hX.frozen (p := ⟨b, 2, none⟩) hb1').trans qf
      have HX := Lib.hid hX
      have HO4 := Lib.hid hown4
      have hz4 := hb4.size
      have hz4' : w1.heap.size ≤ w4.heap.size := hz4
      have hb4' : b < w4.heap.size := (by omega)
      clear hX hown4 hb4 hz4
      try go_wp2_with fail
      refine hK.out _ _ ?_ (fun hHeldbr14b15 => ?_)
      · trivial
      clear hK K hHeldbr13b14
      try simp only [Act.put, List.setIfInBounds_toArray, List.set_cons_zero, List.set_cons_succ]
      refine wpAnyH_ready (rs := [15]) (by kernel_rfl) (by simp) ?_
      refine AllReadyH.cons (o := { dst := some 31, op := Op.buildSlice 26 1 #[(0, Operand.tmp 30)], type := 26, pos := "table.go:128", after := _, guard := none }) rfl (fun K hK => ?_) AllReadyH.nil
      go_simp
      skip
      refine hK.out _ _ ?_ (fun hHeldbr15b16 => ?_)
      · trivial
      clear hK K hHeldbr14b15
      try simp only [Act.put, List.setIfInBounds_toArray, List.set_cons_zero, List.set_cons_succ]
      refine wpAnyH_ready (rs := [16]) (by kernel_rfl) (by simp) ?_
      refine AllReadyH.cons (o := { dst := some 32, op := Op.call { callee := Callee.builtin Builtin.append, args := #[Operand.tmp 21, Operand.tmp 31], argTypes := #[26, 26] }, type := 26, pos := "table.go:128", after := _, guard := none }) rfl (fun K hK => ?_) AllReadyH.nil
      refine step_append_lies _ rfl (.tmp 21) (.tmp 31) _ rfl base 47 i0 _ 1 24 Try.underlying26 hi0 hz0 hz1 hz2 rfl (by omega) (.slice (some ⟨gT, 0, none⟩) m cT) m tvs1 rfl ((own_below HTT.out HX.out).alloc _) ⟨w4.heap.size, 0, none⟩ 1 1 [.slice A4 t.length c4] rfl rfl (by intro j u hu; match j, hu with | 0, hu => (simp at hu; subst hu; simp [Addr.add])) (by simp [Value.oneCell']) (by omega) (by unfold maxLen; omega) (by omega) (by simp; omega) _ rfl ?_
      intro g cap' w5 hown5 hgrow5 hor hg5
      have z2 := (hgrow5.cell_far ⟨b, 2, none⟩ (by simp; omega) (by simp [Value.ownBlock]; omega)).trans ((((Below.refl w4.heap.size w4).alloc (Nat.le_refl _) (.cells #[.slice A4 t.length c4] 47)).cell (p := ⟨b, 2, none⟩) (show b < w4.heap.size by omega)).trans y2)
      have zf := (hgrow5.frozen_far ⟨b, 2, none⟩ (by simp; omega) (by simp [Value.ownBlock]; omega)).trans ((((Below.refl w4.heap.size w4).alloc (Nat.le_refl _) (.cells #[.slice A4 t.length c4] 47)).frozen (p := ⟨b, 2, none⟩) (show b < w4.heap.size by omega)).trans yf)
      have HO5 := Lib.hid hown5
      have HG5 := Lib.hid hgrow5
      have HG := Lib.hid hor
      have hz5 : b < w5.heap.size := Nat.lt_of_lt_of_le (show b < (w4.alloc (.cells #[.slice A4 t.length c4] 47)).heap.size by simp; omega) hgrow5.size
      clear hown5 hgrow5 hor
      refine hK.out _ _ ?_ (fun hHeldbr16b17 => ?_)
      · trivial
      clear hK K hHeldbr15b16
      try simp only [Act.put, List.setIfInBounds_toArray, List.set_cons_zero, List.set_cons_succ]
      refine wpAnyH_take (i := 17) (oi := { dst := some 33, op := Op.nilCheck (Operand.tmp 16), type := 0, pos := "table.go:128", after := _, guard := none }) (v := ?vbr17b18) rfl (by kernel_rfl) (by kernel_rfl) (by kernel_rfl) (fun _ _ _ h => h) (Or.inl ⟨by rfl, ?hybr17b18⟩) (by assumption) ?restbr17b18
      case hybr17b18 => (intro w hSw; (try dsimp only at hSw); go_simp <;> with_reducible rfl)
      try simp only [Act.put, List.setIfInBounds_toArray, List.set_cons_zero, List.set_cons_succ]
      refine wpAnyH_take (i := 18) (oi := { dst := some 34, op := Op.fieldAddr 64 (Operand.tmp 33) 0, type := 0, pos := "table.go:128", after := _, guard := none }) (v := ?vbr18b19) rfl (by kernel_rfl) (by kernel_rfl) (by kernel_rfl) (fun _ _ _ h => h) (Or.inl ⟨by rfl, ?hybr18b19⟩) (by assumption) ?restbr18b19
      case hybr18b19 => (intro w hSw; (try dsimp only at hSw); go_simp <;> with_reducible rfl)
      try simp only [Act.put, List.setIfInBounds_toArray, List.set_cons_zero, List.set_cons_succ]
      refine wpAnyH_take (i := 19) (oi := { dst := some 35, op := Op.fieldAddr 28 (Operand.tmp 34) 1, type := 0, pos := "table.go:128", after := _, guard := none }) (v := ?vbr19b20) rfl (by kernel_rfl) (by kernel_rfl) (by kernel_rfl) (fun _ _ _ h => h) (Or.inl ⟨by rfl, ?hybr19b20⟩) (by assumption) ?restbr19b20
      case hybr19b20 => (intro w hSw; (try dsimp only at hSw); go_simp <;> with_reducible rfl)
      try simp only [Act.put, List.setIfInBounds_toArray, List.set_cons_zero, List.set_cons_succ]
      refine wpAnyH_ready (rs := [20]) (by kernel_rfl) (by simp) ?_
      refine AllReadyH.cons (o := { dst := none, op := Op.store 26 (Operand.tmp 35) (Operand.tmp 32), type := 0, pos := "table.go:128", after := _, guard := none }) rfl (fun K hK => ?_) AllReadyH.nil
      go_simp
      skip
      refine hK.out _ _ ?_ (fun hHeldbr20b21 => ?_)
      · trivial
      clear hK K hHeldbr16b17
      try simp only [Act.put, List.setIfInBounds_toArray, List.set_cons_zero, List.set_cons_succ]
      refine wpAnyH_done (by kernel_rfl) ?_ _
      go_wp2
      go_ret2
      exact ⟨by rw [HM.out]; rfl, fork_end HB1.out HP1.out HTT.out HT1.out HM.out HX.out HO4.out HO5.out HG5.out hb1 hgT hz4' hb1', fork_below HY1.out HTT.out HX.out HG5.out hb1 hb1' hz4'⟩
    refine AllReadyH.cons (o := { dst := some 26, op := Op.load 26 (Operand.tmp 25), type := 26, pos := "table.go:128", after := _, guard := none }) rfl (fun K hK => ?_) ?_
    · go_simp
      skip
      refine hK.out _ _ ?_ (fun hHeldbr10b22 => ?_)
      · trivial
      clear hK K hHeldbr
      try simp only [Act.put, List.setIfInBounds_toArray, List.set_cons_zero, List.set_cons_succ]
      refine wpAnyH_take (i := 12) (oi := { dst := some 28, op := Op.indexAddr 26 (Operand.tmp 26) (Operand.tmp 27), type := 0, pos := "table.go:128", after := _, guard := none }) (v := ?vbr12b23) rfl (by kernel_rfl) (by kernel_rfl) (by kernel_rfl) (fun _ _ _ h => h) (Or.inl ⟨by rfl, ?hybr12b23⟩) (by assumption) ?restbr12b23
      case hybr12b23 => (intro w hSw; (try dsimp only at hSw); go_simp <;> with_reducible rfl)
      try simp only [Act.put, List.setIfInBounds_toArray, List.set_cons_zero, List.set_cons_succ]
      refine wpAnyH_ready (rs := [5, 13]) (by kernel_rfl) (by simp) ?_
      refine AllReadyH.cons (o := { dst := some 21, op := Op.load 26 (Operand.tmp 20), type := 26, pos := "table.go:128", after := _, guard := none }) rfl (fun K hK => ?_) ?_
      · go_simp
        skip
        refine hK.out _ _ ?_ (fun hHeldbr5b24 => ?_)
        · trivial
        clear hK K hHeldbr10b22
        try simp only [Act.put, List.setIfInBounds_toArray, List.set_cons_zero, List.set_cons_succ]
        refine wpAnyH_ready (rs := [13]) (by kernel_rfl) (by simp) ?_
        refine AllReadyH.cons (o := { dst := some 29, op := Op.load 47 (Operand.tmp 28), type := 47, pos := "table.go:128", after := _, guard := none }) rfl (fun K hK => ?_) AllReadyH.nil
        go_simp
        skip
        refine hK.out _ _ ?_ (fun hHeldbr13b25 => ?_)
        · trivial
        clear hK K hHeldbr5b24
        try simp only [Act.put, List.setIfInBounds_toArray, List.set_cons_zero, List.set_cons_succ]
        refine wpAnyH_ready (rs := [14]) (by kernel_rfl) (by simp) ?_
        refine AllReadyH.cons (o := { dst := some 30, op := Op.call { callee := Callee.value (Operand.func 58), args := #[Operand.tmp 29], argTypes := #[47] }, type := 47, pos := "table.go:128", after := _, guard := none }) rfl (fun K hK => ?_) AllReadyH.nil
        go_simp
        refine (cC _ (HI.out.1.below BW)).mono ?_
        rintro e w4 ⟨v4, rfl, hown4, hb4⟩
        have hX := BW.trans (hb4.mono BW.size)
        obtain ⟨A4, c4, rfl, _, _⟩ := (Sl.of_own hown4).form
        have y2 := (hX.cell (p := ⟨b, 2, none⟩) hb1').trans q2
        have yf := (hX.frozen (p := ⟨b, 2, none⟩) hb1').trans qf
        have HX := Lib.hid hX
        have HO4 := Lib.hid hown4
        have hz4 := hb4.size
        have hz4' : w1.heap.size ≤ w4.heap.size := hz4
        have hb4' : b < w4.heap.size := (by omega)
        clear hX hown4 hb4 hz4
        try go_wp2_with fail
        refine hK.out _ _ ?_ (fun hHeldbr14b26 => ?_)
        · trivial
        clear hK K hHeldbr13b25
        try simp only [Act.put, List.setIfInBounds_toArray, List.set_cons_zero, List.set_cons_succ]
        refine wpAnyH_ready (rs := [15]) (by kernel_rfl) (by simp) ?_
        refine AllReadyH.cons (o := { dst := some 31, op := Op.buildSlice 26 1 #[(0, Operand.tmp 30)], type := 26, pos := "table.go:128", after := _, guard := none }) rfl (fun K hK => ?_) AllReadyH.nil
        go_simp
        skip
        refine hK.out _ _ ?_ (fun hHeldbr15b27 => ?_)
        · trivial
        clear hK K hHeldbr14b26
        try simp only [Act.put, List.setIfInBounds_toArray, List.set_cons_zero, List.set_cons_succ]
        refine wpAnyH_ready (rs := [16]) (by kernel_rfl) (by simp) ?_
        refine AllReadyH.cons (o := { dst := some 32, op := Op.call { callee := Callee.builtin Builtin.append, args := #[Operand.tmp 21, Operand.tmp 31], argTypes := #[26, 26] }, type := 26, pos := "table.go:128", after := _, guard := none }) rfl (fun K hK => ?_) AllReadyH.nil
        refine step_append_lies _ rfl (.tmp 21) (.tmp 31) _ rfl base 47 i0 _ 1 24 Try.underlying26 hi0 hz0 hz1 hz2 rfl (by omega) (.slice (some ⟨gT, 0, none⟩) m cT) m tvs1 rfl ((own_below HTT.out HX.out).alloc _) ⟨w4.heap.size, 0, none⟩ 1 1 [.slice A4 t.length c4] rfl rfl (by intro j u hu; match j, hu with | 0, hu => (simp at hu; subst hu; simp [Addr.add])) (by simp [Value.oneCell']) (by omega) (by unfold maxLen; omega) (by omega) (by simp; omega) _ rfl ?_
        intro g cap' w5 hown5 hgrow5 hor hg5
        have z2 := (hgrow5.cell_far ⟨b, 2, none⟩ (by simp; omega) (by simp [Value.ownBlock]; omega)).trans ((((Below.refl w4.heap.size w4).alloc (Nat.le_refl _) (.cells #[.slice A4 t.length c4] 47)).cell (p := ⟨b, 2, none⟩) (show b < w4.heap.size by omega)).trans y2)
        have zf := (hgrow5.frozen_far ⟨b, 2, none⟩ (by simp; omega) (by simp [Value.ownBlock]; omega)).trans ((((Below.refl w4.heap.size w4).alloc (Nat.le_refl _) (.cells #[.slice A4 t.length c4] 47)).frozen (p := ⟨b, 2, none⟩) (show b < w4.heap.size by omega)).trans yf)
        have HO5 := Lib.hid hown5
        have HG5 := Lib.hid hgrow5
        have HG := Lib.hid hor
        have hz5 : b < w5.heap.size := Nat.lt_of_lt_of_le (show b < (w4.alloc (.cells #[.slice A4 t.length c4] 47)).heap.size by simp; omega) hgrow5.size
        clear hown5 hgrow5 hor
        refine hK.out _ _ ?_ (fun hHeldbr16b28 => ?_)
        · trivial
        clear hK K hHeldbr15b27
        try simp only [Act.put, List.setIfInBounds_toArray, List.set_cons_zero, List.set_cons_succ]
        refine wpAnyH_take (i := 17) (oi := { dst := some 33, op := Op.nilCheck (Operand.tmp 16), type := 0, pos := "table.go:128", after := _, guard := none }) (v := ?vbr17b29) rfl (by kernel_rfl) (by kernel_rfl) (by kernel_rfl) (fun _ _ _ h => h) (Or.inl ⟨by rfl, ?hybr17b29⟩) (by assumption) ?restbr17b29
        case hybr17b29 => (intro w hSw; (try dsimp only at hSw); go_simp <;> with_reducible rfl)
        try simp only [Act.put, List.setIfInBounds_toArray, List.set_cons_zero, List.set_cons_succ]
        refine wpAnyH_take (i := 18) (oi := { dst := some 34, op := Op.fieldAddr 64 (Operand.tmp 33) 0, type := 0, pos := "table.go:128", after := _, guard := none }) (v := ?vbr18b30) rfl (by kernel_rfl) (by kernel_rfl) (by kernel_rfl) (fun _ _ _ h => h) (Or.inl ⟨by rfl, ?hybr18b30⟩) (by assumption) ?restbr18b30
        case hybr18b30 => (intro w hSw; (try dsimp only at hSw); go_simp <;> with_reducible rfl)
        try simp only [Act.put, List.setIfInBounds_toArray, List.set_cons_zero, List.set_cons_succ]
        refine wpAnyH_take (i := 19) (oi := { dst := some 35, op := Op.fieldAddr 28 (Operand.tmp 34) 1, type := 0, pos := "table.go:128", after := _, guard := none }) (v := ?vbr19b31) rfl (by kernel_rfl) (by kernel_rfl) (by kernel_rfl) (fun _ _ _ h => h) (Or.inl ⟨by rfl, ?hybr19b31⟩) (by assumption) ?restbr19b31
        case hybr19b31 => (intro w hSw; (try dsimp only at hSw); go_simp <;> with_reducible rfl)
        try simp only [Act.put, List.setIfInBounds_toArray, List.set_cons_zero, List.set_cons_succ]
        refine wpAnyH_ready (rs := [20]) (by kernel_rfl) (by simp) ?_
        refine AllReadyH.cons (o := { dst := none, op := Op.store 26 (Operand.tmp 35) (Operand.tmp 32), type := 0, pos := "table.go:128", after := _, guard := none }) rfl (fun K hK => ?_) AllReadyH.nil
        go_simp
        skip
        refine hK.out _ _ ?_ (fun hHeldbr20b32 => ?_)
        · trivial
        clear hK K hHeldbr16b28
        try simp only [Act.put, List.setIfInBounds_toArray, List.set_cons_zero, List.set_cons_succ]
        refine wpAnyH_done (by kernel_rfl) ?_ _
        go_wp2
        go_ret2
        exact ⟨by rw [HM.out]; rfl, fork_end HB1.out HP1.out HTT.out HT1.out HM.out HX.out HO4.out HO5.out HG5.out hb1 hgT hz4' hb1', fork_below HY1.out HTT.out HX.out HG5.out hb1 hb1' hz4'⟩
      refine AllReadyH.cons (o := { dst := some 29, op := Op.load 47 (Operand.tmp 28), type := 47, pos := "table.go:128", after := _, guard := none }) rfl (fun K hK => ?_) ?_
      · go_simp
        skip
        refine hK.out _ _ ?_ (fun hHeldbr13b33 => ?_)
        · trivial
        clear hK K hHeldbr10b22
        try simp only [Act.put, List.setIfInBounds_toArray, List.set_cons_zero, List.set_cons_succ]
        refine wpAnyH_ready (rs := [5, 14]) (by kernel_rfl) (by simp) ?_
        refine AllReadyH.cons (o := { dst := some 21, op := Op.load 26 (Operand.tmp 20), type := 26, pos := "table.go:128", after := _, guard := none }) rfl (fun K hK => ?_) ?_
        · go_simp
          skip
          refine hK.out _ _ ?_ (fun hHeldbr5b34 => ?_)
          · trivial
          clear hK K hHeldbr13b33
          try simp only [Act.put, List.setIfInBounds_toArray, List.set_cons_zero, List.set_cons_succ]
          refine wpAnyH_ready (rs := [14]) (by kernel_rfl) (by simp) ?_
          refine AllReadyH.cons (o := { dst := some 30, op := Op.call { callee := Callee.value (Operand.func 58), args := #[Operand.tmp 29], argTypes := #[47] }, type := 47, pos := "table.go:128", after := _, guard := none }) rfl (fun K hK => ?_) AllReadyH.nil
          go_simp
          refine (cC _ (HI.out.1.below BW)).mono ?_
          rintro e w4 ⟨v4, rfl, hown4, hb4⟩
          have hX := BW.trans (hb4.mono BW.size)
          obtain ⟨A4, c4, rfl, _, _⟩ := (Sl.of_own hown4).form
          have y2 := (hX.cell (p := ⟨b, 2, none⟩) hb1').trans q2
          have yf := (hX.frozen (p := ⟨b, 2, none⟩) hb1').trans qf
          have HX := Lib.hid hX
          have HO4 := Lib.hid hown4
          have hz4 := hb4.size
          have hz4' : w1.heap.size ≤ w4.heap.size := hz4
          have hb4' : b < w4.heap.size := (by omega)
          clear hX hown4 hb4 hz4
          try go_wp2_with fail
          refine hK.out _ _ ?_ (fun hHeldbr14b35 => ?_)
          · trivial
          clear hK K hHeldbr5b34
          try simp only [Act.put, List.setIfInBounds_toArray, List.set_cons_zero, List.set_cons_succ]
          refine wpAnyH_ready (rs := [15]) (by kernel_rfl) (by simp) ?_
          refine AllReadyH.cons (o := { dst := some 31, op := Op.buildSlice 26 1 #[(0, Operand.tmp 30)], type := 26, pos := "table.go:128", after := _, guard := none }) rfl (fun K hK => ?_) AllReadyH.nil
          go_simp
          skip
          refine hK.out _ _ ?_ (fun hHeldbr15b36 => ?_)
          · trivial
          clear hK K hHeldbr14b35
          try simp only [Act.put, List.setIfInBounds_toArray, List.set_cons_zero, List.set_cons_succ]
          refine wpAnyH_ready (rs := [16]) (by kernel_rfl) (by simp) ?_
          refine AllReadyH.cons (o := { dst := some 32, op := Op.call { callee := Callee.builtin Builtin.append, args := #[Operand.tmp 21, Operand.tmp 31], argTypes := #[26, 26] }, type := 26, pos := "table.go:128", after := _, guard := none }) rfl (fun K hK => ?_) AllReadyH.nil
          refine step_append_lies _ rfl (.tmp 21) (.tmp 31) _ rfl base 47 i0 _ 1 24 Try.underlying26 hi0 hz0 hz1 hz2 rfl (by omega) (.slice (some ⟨gT, 0, none⟩) m cT) m tvs1 rfl ((own_below HTT.out HX.out).alloc _) ⟨w4.heap.size, 0, none⟩ 1 1 [.slice A4 t.length c4] rfl rfl (by intro j u hu; match j, hu with | 0, hu => (simp at hu; subst hu; simp [Addr.add])) (by simp [Value.oneCell']) (by omega) (by unfold maxLen; omega) (by omega) (by simp; omega) _ rfl ?_
          intro g cap' w5 hown5 hgrow5 hor hg5
          have z2 := (hgrow5.cell_far ⟨b, 2, none⟩ (by simp; omega) (by simp [Value.ownBlock]; omega)).trans ((((Below.refl w4.heap.size w4).alloc (Nat.le_refl _) (.cells #[.slice A4 t.length c4] 47)).cell (p := ⟨b, 2, none⟩) (show b < w4.heap.size by omega)).trans y2)
          have zf := (hgrow5.frozen_far ⟨b, 2, none⟩ (by simp; omega) (by simp [Value.ownBlock]; omega)).trans ((((Below.refl w4.heap.size w4).alloc (Nat.le_refl _) (.cells #[.slice A4 t.length c4] 47)).frozen (p := ⟨b, 2, none⟩) (show b < w4.heap.size by omega)).trans yf)
          have HO5 := Lib.hid hown5
          have HG5 := Lib.hid hgrow5
          have HG := Lib.hid hor
          have hz5 : b < w5.heap.size := Nat.lt_of_lt_of_le (show b < (w4.alloc (.cells #[.slice A4 t.length c4] 47)).heap.size by simp; omega) hgrow5.size
          clear hown5 hgrow5 hor
          refine hK.out _ _ ?_ (fun hHeldbr16b37 => ?_)
          · trivial
          clear hK K hHeldbr15b36
          try simp only [Act.put, List.setIfInBounds_toArray, List.set_cons_zero, List.set_cons_succ]
          refine wpAnyH_take (i := 17) (oi := { dst := some 33, op := Op.nilCheck (Operand.tmp 16), type := 0, pos := "table.go:128", after := _, guard := none }) (v := ?vbr17b38) rfl (by kernel_rfl) (by kernel_rfl) (by kernel_rfl) (fun _ _ _ h => h) (Or.inl ⟨by rfl, ?hybr17b38⟩) (by assumption) ?restbr17b38
          case hybr17b38 => (intro w hSw; (try dsimp only at hSw); go_simp <;> with_reducible rfl)
          try simp only [Act.put, List.setIfInBounds_toArray, List.set_cons_zero, List.set_cons_succ]
          refine wpAnyH_take (i := 18) (oi := { dst := some 34, op := Op.fieldAddr 64 (Operand.tmp 33) 0, type := 0, pos := "table.go:128", after := _, guard := none }) (v := ?vbr18b39) rfl (by kernel_rfl) (by kernel_rfl) (by kernel_rfl) (fun _ _ _ h => h) (Or.inl ⟨by rfl, ?hybr18b39⟩) (by assumption) ?restbr18b39
          case hybr18b39 => (intro w hSw; (try dsimp only at hSw); go_simp <;> with_reducible rfl)
          try simp only [Act.put, List.setIfInBounds_toArray, List.set_cons_zero, List.set_cons_succ]
          refine wpAnyH_take (i := 19) (oi := { dst := some 35, op := Op.fieldAddr 28 (Operand.tmp 34) 1, type := 0, pos := "table.go:128", after := _, guard := none }) (v := ?vbr19b40) rfl (by kernel_rfl) (by kernel_rfl) (by kernel_rfl) (fun _ _ _ h => h) (Or.inl ⟨by rfl, ?hybr19b40⟩) (by assumption) ?restbr19b40
          case hybr19b40 => (intro w hSw; (try dsimp only at hSw); go_simp <;> with_reducible rfl)
          try simp only [Act.put, List.setIfInBounds_toArray, List.set_cons_zero, List.set_cons_succ]
          refine wpAnyH_ready (rs := [20]) (by kernel_rfl) (by simp) ?_
          refine AllReadyH.cons (o := { dst := none, op := Op.store 26 (Operand.tmp 35) (Operand.tmp 32), type := 0, pos := "table.go:128", after := _, guard := none }) rfl (fun K hK => ?_) AllReadyH.nil
          go_simp
          skip
          refine hK.out _ _ ?_ (fun hHeldbr20b41 => ?_)
          · trivial
          clear hK K hHeldbr16b37
          try simp only [Act.put, List.setIfInBounds_toArray, List.set_cons_zero, List.set_cons_succ]
          refine wpAnyH_done (by kernel_rfl) ?_ _
          go_wp2
          go_ret2
          exact ⟨by rw [HM.out]; rfl, fork_end HB1.out HP1.out HTT.out HT1.out HM.out HX.out HO4.out HO5.out HG5.out hb1 hgT hz4' hb1', fork_below HY1.out HTT.out HX.out HG5.out hb1 hb1' hz4'⟩
        refine AllReadyH.cons (o := { dst := some 30, op := Op.call { callee := Callee.value (Operand.func 58), args := #[Operand.tmp 29], argTypes := #[47] }, type := 47, pos := "table.go:128", after := _, guard := none }) rfl (fun K hK => ?_) ?_
        · go_simp
          refine (cC _ (HI.out.1.below BW)).mono ?_
          rintro e w4 ⟨v4, rfl, hown4, hb4⟩
          have hX := BW.trans (hb4.mono BW.size)
          obtain ⟨A4, c4, rfl, _, _⟩ := (Sl.of_own hown4).form
          have y2 := (hX.cell (p := ⟨b, 2, none⟩) hb1').trans q2
          have yf := (hX.frozen (p := ⟨b, 2, none⟩) hb1').trans qf
          have HX := Lib.hid hX
          have HO4 := Lib.hid hown4
          have hz4 := hb4.size
          have hz4' : w1.heap.size ≤ w4.heap.size := hz4
          have hb4' : b < w4.heap.size := (by omega)
          clear hX hown4 hb4 hz4
          try go_wp2_with fail
          refine hK.out _ _ ?_ (fun hHeldbr14b42 => ?_)
          · trivial
          clear hK K hHeldbr13b33
          try simp only [Act.put, List.setIfInBounds_toArray, List.set_cons_zero, List.set_cons_succ]
          refine wpAnyH_ready (rs := [5, 15]) (by kernel_rfl) (by simp) ?_
          refine AllReadyH.cons (o := { dst := some 21, op := Op.load 26 (Operand.tmp 20), type := 26, pos := "table.go:128", after := _, guard := none }) rfl (fun K hK => ?_) ?_
          · go_simp
            skip
            refine hK.out _ _ ?_ (fun hHeldbr5b43 => ?_)
            · trivial
            clear hK K hHeldbr14b42
            try simp only [Act.put, List.setIfInBounds_toArray, List.set_cons_zero, List.set_cons_succ]
            refine wpAnyH_ready (rs := [15]) (by kernel_rfl) (by simp) ?_
            refine AllReadyH.cons (o := { dst := some 31, op := Op.buildSlice 26 1 #[(0, Operand.tmp 30)], type := 26, pos := "table.go:128", after := _, guard := none }) rfl (fun K hK => ?_) AllReadyH.nil
            go_simp
            skip
            refine hK.out _ _ ?_ (fun hHeldbr15b44 => ?_)
            · trivial
            clear hK K hHeldbr5b43
            try simp only [Act.put, List.setIfInBounds_toArray, List.set_cons_zero, List.set_cons_succ]
            refine wpAnyH_ready (rs := [16]) (by kernel_rfl) (by simp) ?_
            refine AllReadyH.cons (o := { dst := some 32, op := Op.call { callee := Callee.builtin Builtin.append, args := #[Operand.tmp 21, Operand.tmp 31], argTypes := #[26, 26] }, type := 26, pos := "table.go:128", after := _, guard := none }) rfl (fun K hK => ?_) AllReadyH.nil
            refine step_append_lies _ rfl (.tmp 21) (.tmp 31) _ rfl base 47 i0 _ 1 24 Try.underlying26 hi0 hz0 hz1 hz2 rfl (by omega) (.slice (some ⟨gT, 0, none⟩) m cT) m tvs1 rfl ((own_below HTT.out HX.out).alloc _) ⟨w4.heap.size, 0, none⟩ 1 1 [.slice A4 t.length c4] rfl rfl (by intro j u hu; match j, hu with | 0, hu => (simp at hu; subst hu; simp [Addr.add])) (by simp [Value.oneCell']) (by omega) (by unfold maxLen; omega) (by omega) (by simp; omega) _ rfl ?_
            intro g cap' w5 hown5 hgrow5 hor hg5
            have z2 := (hgrow5.cell_far ⟨b, 2, none⟩ (by simp; omega) (by simp [Value.ownBlock]; omega)).trans ((((Below.refl w4.heap.size w4).alloc (Nat.le_refl _) (.cells #[.slice A4 t.length c4] 47)).cell (p := ⟨b, 2, none⟩) (show b < w4.heap.size by omega)).trans y2)
            have zf := (hgrow5.frozen_far ⟨b, 2, none⟩ (by simp; omega) (by simp [Value.ownBlock]; omega)).trans ((((Below.refl w4.heap.size w4).alloc (Nat.le_refl _) (.cells #[.slice A4 t.length c4] 47)).frozen (p := ⟨b, 2, none⟩) (show b < w4.heap.size by omega)).trans yf)
            have HO5 := Lib.hid hown5
            have HG5 := Lib.hid hgrow5
            have HG := Lib.hid hor
            have hz5 : b < w5.heap.size := Nat.lt_of_lt_of_le (show b < (w4.alloc (.cells #[.slice A4 t.length c4] 47)).heap.size by simp; omega) hgrow5.size
            clear hown5 hgrow5 hor
            refine hK.out _ _ ?_ (fun hHeldbr16b45 => ?_)
            · trivial
            clear hK K hHeldbr15b44
            try simp only [Act.put, List.setIfInBounds_toArray, List.set_cons_zero, List.set_cons_succ]
            refine wpAnyH_take (i := 17) (oi := { dst := some 33, op := Op.nilCheck (Operand.tmp 16), type := 0, pos := "table.go:128", after := _, guard := none }) (v := ?vbr17b46) rfl (by kernel_rfl) (by kernel_rfl) (by kernel_rfl) (fun _ _ _ h => h) (Or.inl ⟨by rfl, ?hybr17b46⟩) (by assumption) ?restbr17b46
            case hybr17b46 => (intro w hSw; (try dsimp only at hSw); go_simp <;> with_reducible rfl)
            try simp only [Act.put, List.setIfInBounds_toArray, List.set_cons_zero, List.set_cons_succ]
            refine wpAnyH_take (i := 18) (oi := { dst := some 34, op := Op.fieldAddr 64 (Operand.tmp 33) 0, type := 0, pos := "table.go:128", after := _, guard := none }) (v := ?vbr18b47) rfl (by kernel_rfl) (by kernel_rfl) (by kernel_rfl) (fun _ _ _ h => h) (Or.inl ⟨by rfl, ?hybr18b47⟩) (by assumption) ?restbr18b47
            case hybr18b47 => (intro w hSw; (try dsimp only at hSw); go_simp <;> with_reducible rfl)
            try simp only [Act.put, List.setIfInBounds_toArray, List.set_cons_zero, List.set_cons_succ]
            refine wpAnyH_take (i := 19) (oi := { dst := some 35, op := Op.fieldAddr 28 (Operand.tmp 34) 1, type := 0, pos := "table.go:128", after := _, guard := none }) (v := ?vbr19b48) rfl (by kernel_rfl) (by kernel_rfl) (by kernel_rfl) (fun _ _ _ h => h) (Or.inl ⟨by rfl, ?hybr19b48⟩) (by assumption) ?restbr19b48
            case hybr19b48 => (intro w hSw; (try dsimp only at hSw); go_simp <;> with_reducible rfl)
            try simp only [Act.put, List.setIfInBounds_toArray, List.set_cons_zero, List.set_cons_succ]
            refine wpAnyH_ready (rs := [20]) (by kernel_rfl) (by simp) ?_
            refine AllReadyH.cons (o := { dst := none, op := Op.store 26 (Operand.tmp 35) (Operand.tmp 32), type := 0, pos := "table.go:128", after := _, guard := none }) rfl (fun K hK => ?_) AllReadyH.nil
            go_simp
            skip
            refine hK.out _ _ ?_ (fun hHeldbr20b49 => ?_)
            · trivial
            clear hK K hHeldbr16b45
            try simp only [Act.put, List.setIfInBounds_toArray, List.set_cons_zero, List.set_cons_succ]
            refine wpAnyH_done (by kernel_rfl) ?_ _
            go_wp2
            go_ret2
            exact ⟨by rw [HM.out]; rfl, fork_end HB1.out HP1.out HTT.out HT1.out HM.out HX.out HO4.out HO5.out HG5.out hb1 hgT hz4' hb1', fork_below HY1.out HTT.out HX.out HG5.out hb1 hb1' hz4'⟩
          refine AllReadyH.cons (o := { dst := some 31, op := Op.buildSlice 26 1 #[(0, Operand.tmp 30)], type := 26, pos := "table.go:128", after := _, guard := none }) rfl (fun K hK => ?_) ?_
          · go_simp
            skip
            refine hK.out _ _ ?_ (fun hHeldbr15b50 => ?_)
            · trivial
            clear hK K hHeldbr14b42
            try simp only [Act.put, List.setIfInBounds_toArray, List.set_cons_zero, List.set_cons_succ]
            refine wpAnyH_ready (rs := [5]) (by kernel_rfl) (by simp) ?_
            refine AllReadyH.cons (o := { dst := some 21, op := Op.load 26 (Operand.tmp 20), type := 26, pos := "table.go:128", after := _, guard := none }) rfl (fun K hK => ?_) AllReadyH.nil
            go_simp
            skip
            refine hK.out _ _ ?_ (fun hHeldbr5b51 => ?_)
            · trivial
            clear hK K hHeldbr15b50
            try simp only [Act.put, List.setIfInBounds_toArray, List.set_cons_zero, List.set_cons_succ]
            refine wpAnyH_ready (rs := [16]) (by kernel_rfl) (by simp) ?_
            refine AllReadyH.cons (o := { dst := some 32, op := Op.call { callee := Callee.builtin Builtin.append, args := #[Operand.tmp 21, Operand.tmp 31], argTypes := #[26, 26] }, type := 26, pos := "table.go:128", after := _, guard := none }) rfl (fun K hK => ?_) AllReadyH.nil
            refine step_append_lies _ rfl (.tmp 21) (.tmp 31) _ rfl base 47 i0 _ 1 24 Try.underlying26 hi0 hz0 hz1 hz2 rfl (by omega) (.slice (some ⟨gT, 0, none⟩) m cT) m tvs1 rfl ((own_below HTT.out HX.out).alloc _) ⟨w4.heap.size, 0, none⟩ 1 1 [.slice A4 t.length c4] rfl rfl (by intro j u hu; match j, hu with | 0, hu => (simp at hu; subst hu; simp [Addr.add])) (by simp [Value.oneCell']) (by omega) (by unfold maxLen; omega) (by omega) (by simp; omega) _ rfl ?_
            intro g cap' w5 hown5 hgrow5 hor hg5
            have z2 := (hgrow5.cell_far ⟨b, 2, none⟩ (by simp; omega) (by simp [Value.ownBlock]; omega)).trans ((((Below.refl w4.heap.size w4).alloc (Nat.le_refl _) (.cells #[.slice A4 t.length c4] 47)).cell (p := ⟨b, 2, none⟩) (show b < w4.heap.size by omega)).trans y2)
            have zf := (hgrow5.frozen_far ⟨b, 2, none⟩ (by simp; omega) (by simp [Value.ownBlock]; omega)).trans ((((Below.refl w4.heap.size w4).alloc (Nat.le_refl _) (.cells #[.slice A4 t.length c4] 47)).frozen (p := ⟨b, 2, none⟩) (show b < w4.heap.size by omega)).trans yf)
            have HO5 := Lib.hid hown5
            have HG5 := Lib.hid hgrow5
            have HG := Lib.hid hor
            have hz5 : b < w5.heap.size := Nat.lt_of_lt_of_le (show b < (w4.alloc (.cells #[.slice A4 t.length c4] 47)).heap.size by simp; omega) hgrow5.size
            clear hown5 hgrow5 hor
            refine hK.out _ _ ?_ (fun hHeldbr16b52 => ?_)
            · trivial
            clear hK K hHeldbr5b51
            try simp only [Act.put, List.setIfInBounds_toArray, List.set_cons_zero, List.set_cons_succ]
            refine wpAnyH_take (i := 17) (oi := { dst := some 33, op := Op.nilCheck (Operand.tmp 16), type := 0, pos := "table.go:128", after := _, guard := none }) (v := ?vbr17b53) rfl (by kernel_rfl) (by kernel_rfl) (by kernel_rfl) (fun _ _ _ h => h) (Or.inl ⟨by rfl, ?hybr17b53⟩) (by assumption) ?restbr17b53
            case hybr17b53 => (intro w hSw; (try dsimp only at hSw); go_simp <;> with_reducible rfl)
            try simp only [Act.put, List.setIfInBounds_toArray, List.set_cons_zero, List.set_cons_succ]
            refine wpAnyH_take (i := 18) (oi := { dst := some 34, op := Op.fieldAddr 64 (Operand.tmp 33) 0, type := 0, pos := "table.go:128", after := _, guard := none }) (v := ?vbr18b54) rfl (by kernel_rfl) (by kernel_rfl) (by kernel_rfl) (fun _ _ _ h => h) (Or.inl ⟨by rfl, ?hybr18b54⟩) (by assumption) ?restbr18b54
            case hybr18b54 => (intro w hSw; (try dsimp only at hSw); go_simp <;> with_reducible rfl)
            try simp only [Act.put, List.setIfInBounds_toArray, List.set_cons_zero, List.set_cons_succ]
            refine wpAnyH_take (i := 19) (oi := { dst := some 35, op := Op.fieldAddr 28 (Operand.tmp 34) 1, type := 0, pos := "table.go:128", after := _, guard := none }) (v := ?vbr19b55) rfl (by kernel_rfl) (by kernel_rfl) (by kernel_rfl) (fun _ _ _ h => h) (Or.inl ⟨by rfl, ?hybr19b55⟩) (by assumption) ?restbr19b55
            case hybr19b55 => (intro w hSw; (try dsimp only at hSw); go_simp <;> with_reducible rfl)
            try simp only [Act.put, List.setIfInBounds_toArray, List.set_cons_zero, List.set_cons_succ]
            refine wpAnyH_ready (rs := [20]) (by kernel_rfl) (by simp) ?_
            refine AllReadyH.cons (o := { dst := none, op := Op.store 26 (Operand.tmp 35) (Operand.tmp 32), type := 0, pos := "table.go:128", after := _, guard := none }) rfl (fun K hK => ?_) AllReadyH.nil
            go_simp
            skip
            refine hK.out _ _ ?_ (fun hHeldbr20b56 => ?_)
            · trivial
            clear hK K hHeldbr16b52
            try simp only [Act.put, List.setIfInBounds_toArray, List.set_cons_zero, List.set_cons_succ]
            refine wpAnyH_done (by kernel_rfl) ?_ _
            go_wp2
            go_ret2
            exact ⟨by rw [HM.out]; rfl, fork_end HB1.out HP1.out HTT.out HT1.out HM.out HX.out HO4.out HO5.out HG5.out hb1 hgT hz4' hb1', fork_below HY1.out HTT.out HX.out HG5.out hb1 hb1' hz4'⟩
          exact AllReadyH.nil
        exact AllReadyH.nil
      exact AllReadyH.nil
    exact AllReadyH.nil
end Go.Proofs.Ytoogobenjhmjjaa
