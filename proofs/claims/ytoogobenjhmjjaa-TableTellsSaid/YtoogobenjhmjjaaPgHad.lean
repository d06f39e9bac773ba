/- (*page.store).had and free. -/
import Derived.Test.YtoogobenjhmjjaaPgAlloc2
import Derived.Test.YtoogobenjhmjjaaPgAlloc3
namespace Go.Proofs.Ytoogobenjhmjjaa
open Go Go.RowKit

theorem OwnSt.below {w w' : World} {base : Nat} {pv : Value} {cap : Int} {ps : List Pg} (h : OwnSt w base pv cap ps) (hb : Below w.heap.size w w') : OwnSt w' base pv cap ps := by
  obtain ⟨B, sv, rfl, hB, hblk, hown⟩ := h
  exact ⟨B, sv, rfl, hB, hblk.below hb hblk.lt, own_below hown hb⟩

/-- What alloc comes to: the place, the error, the pages. -/
def allocL (cap : Int) (ps : List Pg) (x : Pg) : Int × Int × List Pg :=
  if idxF freeP ps = -1 then (if (ps.length : Int) = cap then (-1, 8, ps) else (ps.length, 0, ps ++ [{ x with r := 1 }])) else (idxF freeP ps, 0, ps.set (idxF freeP ps).toNat { x with r := 1 })

theorem idxF_range {α : Type} (p : α → Bool) (xs : List α) : idxF p xs = -1 ∨ ∃ k : Nat, k < xs.length ∧ idxF p xs = k := by
  unfold idxF
  split
  · rename_i h
    exact .inr ⟨_, h, rfl⟩
  · exact .inl rfl

theorem alloc_any (base : Nat) (pv : Value) (cap : Int) (ps : List Pg) (x : Pg) (w : World) (hs : OwnSt w base pv cap ps) (hb0 : base ≤ w.heap.size) (hn : ps.length ≤ 1000) :
    Calls Try.prog 60 #[pv, .agg (encP x).toArray] w fun e w' => e = .returned (.tuple #[.int .i64 (allocL cap ps x).1, .int .i64 (allocL cap ps x).2.1]) ∧ OwnSt w' base pv cap (allocL cap ps x).2.2 ∧ Below base w w' := by
  rcases idxF_range freeP ps with h | ⟨k, hk, h⟩
  · by_cases h2 : (ps.length : Int) = cap
    · rw [show allocL cap ps x = (-1, 8, ps) from by simp [allocL, h, h2]]
      exact alloc_full base pv cap ps x w hs hb0 h h2
    · rw [show allocL cap ps x = ((ps.length : Int), (0 : Int), ps ++ [({ x with r := 1 } : Pg)]) from by simp [allocL, h, h2]]
      exact alloc_more base pv cap ps x w hs hb0 hn h (by simpa using h2)
  · rw [show allocL cap ps x = ((k : Int), (0 : Int), ps.set k ({ x with r := 1 } : Pg)) from by
      have : ¬ ((k : Int) = -1) := by omega
      simp [allocL, h, this]]
    exact alloc_some base pv cap ps x w hs hb0 hn k hk h

/-- The page at a place, if there is one. -/
def pgAt (ps : List Pg) (p : Int) : Pg := ps.getD p.toNat ⟨0, 0, 0, 0, 0⟩
/-- Why a page is not had: an error's number. -/
def hadL (cap : Int) (ps : List Pg) (p : Int) : Int := if mayP cap ps = false then 1 else if p < 0 ∨ (ps.length : Int) ≤ p ∨ (pgAt ps p).r = 0 then 11 else 0

set_option maxHeartbeats 400000 in
theorem had_any (base : Nat) (pv : Value) (cap : Int) (ps : List Pg) (p : Int) (w : World) (hs : OwnSt w base pv cap ps) :
    Calls Try.prog 61 #[pv, .int .i64 p] w fun e w' => e = .returned (.int .i64 (hadL cap ps p)) ∧ Below w.heap.size w w' := by
  obtain ⟨B, sv, rfl, hB, hblk, hown⟩ := hs
  have hcon := may_any cap sv ps w (Sl.of_own hown)
  obtain ⟨A, c, rfl, hc, hm⟩ := (Sl.of_own hown).form
  have c0 := hblk.cell 0
  have c1 := hblk.cell 1
  have hBlt := hblk.lt
  simp at c0 c1
  cases hmay : mayP cap ps with
  | false =>
    rw [hmay] at hcon
    rw [show hadL cap ps p = 1 from by simp [hadL, hmay]]
    clear hmay
    go_enter Try.func61, Try.ntmps61
    go_wp2_with (go_at_call 29; refine hcon.mono ?_; rintro e w1 ⟨rfl, hb⟩)
    go_ret
    exact ⟨rfl, hb⟩
  | true =>
    rw [hmay] at hcon
    by_cases h1 : p < 0
    · rw [show hadL cap ps p = 11 from by simp [hadL, hmay, h1]]
      clear hmay
      go_enter Try.func61, Try.ntmps61
      go_wp2_with (go_at_call 29; refine hcon.mono ?_; rintro e w1 ⟨rfl, hb⟩)
      go_ret
      exact ⟨rfl, hb⟩
    · by_cases h2 : (ps.length : Int) ≤ p
      · rw [show hadL cap ps p = 11 from by simp [hadL, hmay, h2]]
        clear hmay
        generalize ps.length = n at *
        go_enter Try.func61, Try.ntmps61
        go_wp2_with (go_at_call 29; refine hcon.mono ?_; rintro e w1 ⟨rfl, hb⟩; have d1 := (hb.cell (p := ⟨B, 1, none⟩) hBlt).trans c1)
        go_ret
        exact ⟨rfl, hb⟩
      · obtain ⟨k, rfl⟩ := Int.eq_ofNat_of_zero_le (Int.not_lt.1 h1)
        have hk : k < ps.length := by omega
        have hat : pgAt ps k = ps[k] := by simp [pgAt, hk]
        obtain ⟨g, c', he, _, hg2, _, _, hel, _⟩ := own_elem encP encP_len hown k hk
        injection he with he1 _ he2
        subst he1 he2
        have q0 := hel 0 _ rfl
        simp only [Nat.add_zero] at q0
        generalize hx : ps[k] = x at q0 hat
        clear hel hx
        cases h3 : (x.r == 0) with
        | true =>
          rw [show hadL cap ps k = 11 from by simp [hadL, hmay, hat, beq_iff_eq.1 h3]]
          clear hmay hat
          have h2' : (k : Int) < (ps.length : Int) := by omega
          generalize ps.length = n at *
          go_enter Try.func61, Try.ntmps61
          go_wp2_with (go_at_call 29; refine hcon.mono ?_; rintro e w1 ⟨rfl, hb⟩; have d1 := (hb.cell (p := ⟨B, 1, none⟩) hBlt).trans c1; have e1 := (hb.cell (p := ⟨g, k * 5, none⟩) hg2).trans q0)
          go_ret
          exact ⟨rfl, hb⟩
        | false =>
          rw [show hadL cap ps k = 0 from by
            have h3' : ¬ x.r = 0 := by simpa using h3
            simp [hadL, hmay, hat, h3']; omega]
          clear hmay hat
          have h2' : (k : Int) < (ps.length : Int) := by omega
          generalize ps.length = n at *
          go_enter Try.func61, Try.ntmps61
          go_wp2_with (go_at_call 29; refine hcon.mono ?_; rintro e w1 ⟨rfl, hb⟩; have d1 := (hb.cell (p := ⟨B, 1, none⟩) hBlt).trans c1; have e1 := (hb.cell (p := ⟨g, k * 5, none⟩) hg2).trans q0)
          go_ret
          exact ⟨rfl, hb⟩
/-- A whole page stored into a row of one's own. -/
theorem own_page {w : World} {base g c n : Nat} {ps : List Pg} (h : w.ownsRow base 54 5 (.slice (some ⟨g, 0, none⟩) n c) n (ps.flatMap encP)) (k : Nat) (hk : k < ps.length) (x : Pg) :
    (((((w.setCell ⟨g, k * 5, none⟩ (.int .i64 x.r)).setCell ⟨g, k * 5 + 1, none⟩ (.int .i64 x.a)).setCell ⟨g, k * 5 + 2, none⟩ (.int .i64 x.b)).setCell ⟨g, k * 5 + 3, none⟩ (.int .i64 x.c)).setCell ⟨g, k * 5 + 4, none⟩ (.int .i64 x.d)).ownsRow base 54 5 (.slice (some ⟨g, 0, none⟩) n c) n ((ps.set k x).flatMap encP) := by
  rw [← flat_set encP encP_len ps k hk x]
  exact own_set (own_set (own_set (own_set (own_set h _ _) _ _) _ _) _ _) _ _

/-- What free comes to. -/
def freeL (ps : List Pg) (k : Nat) : List Pg := if (pgAt ps k).r - 1 = 0 then ps.set k ⟨0, 0, 0, 0, 0⟩ else ps.set k { pgAt ps k with r := (pgAt ps k).r - 1 }

set_option maxHeartbeats 400000 in
theorem free_any (base : Nat) (pv : Value) (cap : Int) (ps : List Pg) (k : Nat) (w : World) (hs : OwnSt w base pv cap ps) (hk : k < ps.length) (hr1 : 0 ≤ (pgAt ps k).r) (hr2 : (pgAt ps k).r ≤ 1000) :
    Calls Try.prog 62 #[pv, .int .i64 k] w fun e w' => e = .returned (.tuple #[]) ∧ OwnSt w' base pv cap (freeL ps k) ∧ Below base w w' := by
  obtain ⟨B, sv, rfl, hB, hblk, hown⟩ := hs
  have hat : pgAt ps k = ps[k] := by simp [pgAt, hk]
  obtain ⟨g, c, rfl, hg1, hg2, hc1, hc2, hel, hfr⟩ := own_elem encP encP_len hown k hk
  have hne : ¬ g = B := by
    have := own_ne hown hblk (by decide)
    simpa [Value.ownBlock] using this
  have hne' : ¬ B = g := fun e => hne e.symm
  have c1 := hblk.cell 1
  simp at c1
  have q0 := hel 0 _ rfl
  have q1 := hel 1 _ rfl
  have q2 := hel 2 _ rfl
  have q3 := hel 3 _ rfl
  have q4 := hel 4 _ rfl
  simp only [Nat.add_zero] at q0
  rw [hat] at hr1 hr2
  have hfl : freeL ps k = if ps[k].r - 1 = 0 then ps.set k ⟨0, 0, 0, 0, 0⟩ else ps.set k { ps[k] with r := ps[k].r - 1 } := by rw [freeL, hat]
  have HEL := Lib.hid hfl
  have s1 := own_set hown (k * 5 + 0) (.int .i64 (ps[k].r - 1))
  rw [flat_set1 encP encP_len ps k hk 0 (by omega) _ { ps[k] with r := ps[k].r - 1 } rfl] at s1
  clear hfl hel hat
  generalize hx : ps[k] = x at q0 q1 q2 q3 q4 hr1 hr2 HEL s1
  clear hx
  have hlt : (k : Int) < (ps.length : Int) := by omega
  cases h3 : (x.r - 1 == 0) with
  | true =>
    have h4 : freeL ps k = ps.set k ⟨0, 0, 0, 0, 0⟩ := by rw [HEL.out, if_pos (beq_iff_eq.1 h3)]
    rw [h4]
    clear h4 HEL
    have S1 := Lib.hid s1
    clear s1
    generalize hn : ps.length = n at *
    have HN := Lib.hid hn
    clear hn
    go_enter Try.func62, Try.ntmps62
    go_wp2
    go_end0
    refine ⟨rfl, ⟨B, .slice (some ⟨g, 0, none⟩) n c, rfl, hB, ?_, ?_⟩, ?_⟩
    · refine Blk.far (Blk.far (Blk.far (Blk.far (Blk.far (Blk.far hblk ?_ _) ?_ _) ?_ _) ?_ _) ?_ _) ?_ _ <;> exact hne'
    · rw [show (ps.set k (⟨0, 0, 0, 0, 0⟩ : Pg)).length = n from by simp [HN.out], show ps.set k (⟨0, 0, 0, 0, 0⟩ : Pg) = (ps.set k ({ x with r := x.r - 1 } : Pg)).set k ⟨0, 0, 0, 0, 0⟩ from by simp]
      exact own_page S1.out k (by simp [HN.out]; omega) ⟨0, 0, 0, 0, 0⟩
    · exact ((((((Below.refl base w).setCell hg1 _).setCell hg1 _).setCell hg1 _).setCell hg1 _).setCell hg1 _).setCell hg1 _
  | false =>
    have h4 : freeL ps k = ps.set k { x with r := x.r - 1 } := by rw [HEL.out, if_neg (by simpa using h3)]
    rw [h4]
    clear h4 HEL
    have S1 := Lib.hid s1
    clear s1
    generalize hn : ps.length = n at *
    have HN := Lib.hid hn
    clear hn
    go_enter Try.func62, Try.ntmps62
    go_wp2
    go_end0
    refine ⟨rfl, ⟨B, .slice (some ⟨g, 0, none⟩) n c, rfl, hB, ?_, ?_⟩, ?_⟩
    · exact Blk.far hblk hne' _
    · rw [show (ps.set k ({ x with r := x.r - 1 } : Pg)).length = n from by simp [HN.out]]
      exact S1.out
    · exact (Below.refl base w).setCell hg1 _
end Go.Proofs.Ytoogobenjhmjjaa
