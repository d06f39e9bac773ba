/- page.Share and page.Free. -/
import Derived.Test.YtoogobenjhmjjaaPgApi
namespace Go.Proofs.Ytoogobenjhmjjaa
open Go Go.RowKit

theorem odd_bounds {p : Pg} (h : oddP p = false) : 0 ≤ p.r ∧ p.r ≤ 1000 := by
  simp [oddP] at h
  omega

theorem may_odd {cap : Int} {ps : List Pg} (h : mayP cap ps = true) (k : Nat) (hk : k < ps.length) : oddP ps[k] = false := by
  simp [mayP] at h
  exact h.2.2.2 _ (List.getElem_mem hk)

theorem may_len {cap : Int} {ps : List Pg} (h : mayP cap ps = true) : 0 ≤ cap ∧ cap ≤ 12 ∧ (ps.length : Int) ≤ cap := by
  simp [mayP] at h
  exact ⟨h.1, h.2.1, h.2.2.1⟩

theorem had_ok {cap : Int} {ps : List Pg} {p : Int} (h : hadL cap ps p = 0) : mayP cap ps = true ∧ ∃ k : Nat, p = k ∧ k < ps.length ∧ pgAt ps p = pgAt ps k ∧ 1 ≤ (pgAt ps k).r ∧ (pgAt ps k).r ≤ 1000 := by
  unfold hadL at h
  split at h
  · cases h
  · rename_i hm
    have hm' : mayP cap ps = true := by simpa using hm
    split at h
    · cases h
    · rename_i h2
      simp only [not_or] at h2
      obtain ⟨k, rfl⟩ := Int.eq_ofNat_of_zero_le (Int.not_lt.1 h2.1)
      have hk : k < ps.length := by omega
      have hat : pgAt ps k = ps[k] := by simp [pgAt, hk]
      have hb := odd_bounds (may_odd hm' k hk)
      refine ⟨hm', k, rfl, hk, rfl, ?_, ?_⟩
      · have := h2.2.2; rw [hat] at this ⊢; omega
      · rw [hat]; omega

/-- What Share comes to: the error, the pages. -/
def shareL (cap : Int) (ps : List Pg) (p : Int) : Int × List Pg :=
  if hadL cap ps p = 0 then (if (pgAt ps p).r = 1000 then (8, ps) else (0, ps.set p.toNat { pgAt ps p with r := (pgAt ps p).r + 1 })) else (hadL cap ps p, ps)
/-- What Free comes to. -/
def freeX (cap : Int) (ps : List Pg) (p : Int) : Int × List Pg := if hadL cap ps p = 0 then (0, freeL ps p.toNat) else (hadL cap ps p, ps)

set_option maxHeartbeats 1000000 in
theorem Share_any (v : Value) (cap : Int) (ps : List Pg) (p : Int) (w : World) (hv : StV w v cap ps) (hn : ps.length ≤ 1000) :
    Calls Try.prog 67 #[v, .int .i64 p] w fun e w' => ∃ v', e = .returned (.tuple #[v', .int .i64 (shareL cap ps p).1]) ∧ StV w' v' cap (shareL cap ps p).2 ∧ Below w.heap.size w w' := by
  obtain ⟨sv, rfl, hsl⟩ := hv
  have hb0 : Below w.heap.size w ((w.alloc (.cells #[.int .i64 cap, sv] 25)).alloc (.cells #[.int .i64 0, .slice none 0 0] 25)) := ((Below.refl _ w).alloc (Nat.le_refl _) _).alloc (by simp) _
  have hown := own_any cap sv ps _ (hsl.below hb0) hn
  have hhad := fun base pv W hs => had_any base pv cap ps p W hs
  obtain ⟨A, c, rfl, _, _⟩ := hsl.form
  cases hh : (hadL cap ps p != 0) with
  | true =>
    rw [show shareL cap ps p = (hadL cap ps p, ps) from by
      have : ¬ hadL cap ps p = 0 := by simpa using hh
      simp [shareL, this]]
    generalize hadL cap ps p = er at hhad hh ⊢
    generalize hnn : ps.length = n at *
    have HN := Lib.hid hnn
    clear hnn
    go_enter Try.func67, Try.ntmps67
    go_wp2_with fail
    refine hown.mono ?_
    rintro e w1 ⟨pv, rfl, hst, hb1⟩
    obtain ⟨hc1, hf1⟩ := bcell hb1
    have hz1 := hb1.size
    simp at hz1
    have z1 : w.heap.size < w1.heap.size := by omega
    have z2 : w.heap.size + 1 < w1.heap.size := by omega
    go_wp2_with fail
    refine (hhad _ _ _ hst).mono ?_
    rintro e w2 ⟨rfl, hb2⟩
    have hz2 := hb2.size
    have y1 : w2.cell? ⟨w.heap.size + 1, 0, none⟩ = some (.int .i64 0) := by rw [hb2.cell (p := ⟨w.heap.size + 1, 0, none⟩) (by simp; omega), hc1 _ _ (by simp)]; simp
    have y2 : w2.cell? ⟨w.heap.size + 1, 1, none⟩ = some (.slice none 0 0) := by rw [hb2.cell (p := ⟨w.heap.size + 1, 1, none⟩) (by simp; omega), hc1 _ _ (by simp)]; simp
    have y3 : w2.frozen? ⟨w.heap.size + 1, 0, none⟩ = false := by rw [hb2.frozen (p := ⟨w.heap.size + 1, 0, none⟩) (by simp; omega), hf1 _ _ (by simp)]; simp
    have y4 : w2.frozen? ⟨w.heap.size + 1, 1, none⟩ = false := by rw [hb2.frozen (p := ⟨w.heap.size + 1, 1, none⟩) (by simp; omega), hf1 _ _ (by simp)]; simp
    clear hc1 hf1
    have hst2 := hst.below hb2
    obtain ⟨B, A1, c1, rfl, hB, hBlt, b0, b1, ho1, _⟩ := hst2.read
    simp at hB
    go_wp2
    refine bodyPost_ret (v := .tuple #[.agg #[.int .i64 cap, .slice A1 ps.length c1], .int .i64 er]) (by simp [results, Try.results67, go_sem, y1, y2]) rfl ⟨_, rfl, ⟨_, rfl, ?_⟩, ?_⟩
    · exact Sl.of_own (ownsRow_setCell_below (ownsRow_setCell_below ho1 (by simp) _) (by simp) _)
    · exact (((hb0.trans (hb1.mono (by simp; omega))).trans (hb2.mono (by omega))).setCell (by simp) _).setCell (by simp) _
  | false =>
    have hh' : hadL cap ps p = 0 := by simpa using hh
    obtain ⟨hmay, k, rfl, hk, _, hr1, hr2⟩ := had_ok hh'
    rw [hh'] at hhad
    cases h3 : ((pgAt ps k).r == 1000) with
    | true =>
      rw [show shareL cap ps k = (8, ps) from by simp [shareL, hh', beq_iff_eq.1 h3]]
      have hat : pgAt ps k = ps[k] := by simp [pgAt, hk]
      have hel := fun (W : World) (base : Nat) (v : Value) h => own_elem (w := W) (base := base) (e := 54) (v := v) encP encP_len h k hk
      rw [← hat] at hel
      generalize pgAt ps k = x at hel h3 hr1 hr2
      clear hat hh hh' hmay
      have hlt : (k : Int) < (ps.length : Int) := by omega
      have hk' := Lib.hid hk
      clear hk
      generalize hnn : ps.length = n at *
      have HN := Lib.hid hnn
      clear hnn
      go_enter Try.func67, Try.ntmps67
      go_wp2_with fail
      refine hown.mono ?_
      rintro e w1 ⟨pv, rfl, hst, hb1⟩
      obtain ⟨hc1, hf1⟩ := bcell hb1
      have hz1 := hb1.size
      simp at hz1
      have z1 : w.heap.size < w1.heap.size := by omega
      have z2 : w.heap.size + 1 < w1.heap.size := by omega
      go_wp2_with fail
      refine (hhad _ _ _ hst).mono ?_
      rintro e w2 ⟨rfl, hb2⟩
      have hz2 := hb2.size
      have y1 : w2.cell? ⟨w.heap.size + 1, 0, none⟩ = some (.int .i64 0) := by rw [hb2.cell (p := ⟨w.heap.size + 1, 0, none⟩) (by simp; omega), hc1 _ _ (by simp)]; simp
      have y2 : w2.cell? ⟨w.heap.size + 1, 1, none⟩ = some (.slice none 0 0) := by rw [hb2.cell (p := ⟨w.heap.size + 1, 1, none⟩) (by simp; omega), hc1 _ _ (by simp)]; simp
      have y3 : w2.frozen? ⟨w.heap.size + 1, 0, none⟩ = false := by rw [hb2.frozen (p := ⟨w.heap.size + 1, 0, none⟩) (by simp; omega), hf1 _ _ (by simp)]; simp
      have y4 : w2.frozen? ⟨w.heap.size + 1, 1, none⟩ = false := by rw [hb2.frozen (p := ⟨w.heap.size + 1, 1, none⟩) (by simp; omega), hf1 _ _ (by simp)]; simp
      clear hc1 hf1
      have hst2 := hst.below hb2
      obtain ⟨B, A1, c1, rfl, hB, hBlt, b0, b1, ho1, _⟩ := hst2.read
      simp at hB
      rw [HN.out] at ho1 b1
      obtain ⟨g, c', he, hg1, hg2, _, _, hel, hfr⟩ := hel _ _ _ ho1
      injection he with he1 _ he2
      subst he1 he2
      have q0 := hel 0 _ rfl
      simp only [Nat.add_zero] at q0
      clear hel
      go_wp2
      refine bodyPost_ret (v := .tuple #[.agg #[.int .i64 cap, .slice (some ⟨g, 0, none⟩) n c1], .int .i64 8]) (by simp [results, Try.results67, go_sem, y1, y2]) rfl ⟨_, rfl, ⟨_, rfl, ?_⟩, ?_⟩
      · rw [HN.out]
        exact Sl.of_own (ownsRow_setCell_below (ownsRow_setCell_below ho1 (by simp) _) (by simp) _)
      · exact (((hb0.trans (hb1.mono (by simp; omega))).trans (hb2.mono (by omega))).setCell (by simp) _).setCell (by simp) _
    | false =>
      rw [show shareL cap ps k = (0, ps.set k { pgAt ps k with r := (pgAt ps k).r + 1 }) from by
        have : ¬ (pgAt ps k).r = 1000 := by simpa using h3
        simp [shareL, hh', this]]
      have hat : pgAt ps k = ps[k] := by simp [pgAt, hk]
      have hel := fun (W : World) (base : Nat) (v : Value) h => own_elem (w := W) (base := base) (e := 54) (v := v) encP encP_len h k hk
      have hset := fun (W : World) (base g c' : Nat) (h : W.ownsRow base 54 5 (.slice (some ⟨g, 0, none⟩) ps.length c') ps.length (ps.flatMap encP)) => own_set h (k * 5 + 0) (.int .i64 (ps[k].r + 1))
      rw [flat_set1 encP encP_len ps k hk 0 (by omega) _ { ps[k] with r := ps[k].r + 1 } rfl] at hset
      rw [← hat] at hel hset
      generalize pgAt ps k = x at hel h3 hr1 hr2 hset ⊢
      clear hat hh hh' hmay
      have hlt : (k : Int) < (ps.length : Int) := by omega
      have hk' := Lib.hid hk
      clear hk
      generalize hnn : ps.length = n at *
      have HN := Lib.hid hnn
      clear hnn
      go_enter Try.func67, Try.ntmps67
      go_wp2_with fail
      refine hown.mono ?_
      rintro e w1 ⟨pv, rfl, hst, hb1⟩
      obtain ⟨hc1, hf1⟩ := bcell hb1
      have hz1 := hb1.size
      simp at hz1
      have z1 : w.heap.size < w1.heap.size := by omega
      have z2 : w.heap.size + 1 < w1.heap.size := by omega
      go_wp2_with fail
      refine (hhad _ _ _ hst).mono ?_
      rintro e w2 ⟨rfl, hb2⟩
      have hz2 := hb2.size
      have y1 : w2.cell? ⟨w.heap.size + 1, 0, none⟩ = some (.int .i64 0) := by rw [hb2.cell (p := ⟨w.heap.size + 1, 0, none⟩) (by simp; omega), hc1 _ _ (by simp)]; simp
      have y2 : w2.cell? ⟨w.heap.size + 1, 1, none⟩ = some (.slice none 0 0) := by rw [hb2.cell (p := ⟨w.heap.size + 1, 1, none⟩) (by simp; omega), hc1 _ _ (by simp)]; simp
      have y3 : w2.frozen? ⟨w.heap.size + 1, 0, none⟩ = false := by rw [hb2.frozen (p := ⟨w.heap.size + 1, 0, none⟩) (by simp; omega), hf1 _ _ (by simp)]; simp
      have y4 : w2.frozen? ⟨w.heap.size + 1, 1, none⟩ = false := by rw [hb2.frozen (p := ⟨w.heap.size + 1, 1, none⟩) (by simp; omega), hf1 _ _ (by simp)]; simp
      clear hc1 hf1
      have hst2 := hst.below hb2
      obtain ⟨B, A1, c1, rfl, hB, hBlt, b0, b1, ho1, hnB⟩ := hst2.read
      simp at hB
      rw [HN.out] at ho1 b1
      obtain ⟨g, c', he, hg1, hg2, _, _, hel, hfr⟩ := hel _ _ _ ho1
      injection he with he1 _ he2
      subst he1 he2
      have q0 := hel 0 _ rfl
      simp only [Nat.add_zero] at q0
      clear hel
      rw [HN.out] at hnB
      have hne : ¬ g = B := by simpa [Value.ownBlock] using hnB
      have hne' : ¬ B = g := fun e => hne e.symm
      simp at hg1
      have hgR' : ¬ w.heap.size + 1 = g := by omega
      have hs3 := hset _ _ _ _ ho1
      have HS3 := Lib.hid hs3
      clear hs3 hset
      go_wp2
      refine bodyPost_ret (v := .tuple #[.agg #[.int .i64 cap, .slice (some ⟨g, 0, none⟩) n c1], .int .i64 0]) (by simp [results, Try.results67, go_sem, y1, y2]) rfl ⟨_, rfl, ⟨_, rfl, ?_⟩, ?_⟩
      · rw [show (ps.set k ({ x with r := x.r + 1 } : Pg)).length = n from by simp [HN.out]]
        have h9 := HS3.out
        simp only [Nat.add_zero] at h9
        exact Sl.of_own (ownsRow_setCell_below (ownsRow_setCell_below h9 (a := ⟨w.heap.size + 1, 0, none⟩) (by simp) _) (a := ⟨w.heap.size + 1, 1, none⟩) (by simp) _)
      · exact ((((hb0.trans (hb1.mono (by simp; omega))).trans (hb2.mono (by omega))).setCell (p := ⟨g, k * 5, none⟩) (by simp; omega) _).setCell (by simp) _).setCell (by simp) _
end Go.Proofs.Ytoogobenjhmjjaa
