/- table.Same, why, Read. -/
import Derived.Test.YtoogobenjhmjjaaTbMay2
namespace Go.Proofs.Ytoogobenjhmjjaa
open Go Go.RowKit
set_option linter.unusedVariables false

def sameH (cap : Int) (ps : List Pg) (ts : List (List Int)) (cap2 : Int) (ps2 : List Pg) (ts2 : List (List Int)) : Bool := sameP cap ps cap2 ps2 && eqR tabEq ts ts2
def tabAt (ts : List (List Int)) (t : Int) : List Int := ts.getD t.toNat []
/-- Why there is no such table, or word. -/
def whyH (cap : Int) (ps : List Pg) (ts : List (List Int)) (t a : Int) : Int :=
  if mayH cap ps ts = false then 1 else if t < 0 ∨ (ts.length : Int) ≤ t ∨ (tabAt ts t).length = 0 ∨ a < 0 ∨ 16 ≤ a then 11 else 0
theorem wh1 {cap : Int} {ps : List Pg} {ts : List (List Int)} {t a : Int} (h : mayH cap ps ts = false) : whyH cap ps ts t a = 1 := by unfold whyH; rw [if_pos h]
theorem wh11 {cap : Int} {ps : List Pg} {ts : List (List Int)} {t a : Int} (h : mayH cap ps ts = true) (h2 : t < 0 ∨ (ts.length : Int) ≤ t ∨ (tabAt ts t).length = 0 ∨ a < 0 ∨ 16 ≤ a) : whyH cap ps ts t a = 11 := by
  unfold whyH; rw [if_neg (by rw [h]; simp), if_pos h2]
theorem wh0 {cap : Int} {ps : List Pg} {ts : List (List Int)} {t a : Int} (h : mayH cap ps ts = true) (h2 : ¬ (t < 0 ∨ (ts.length : Int) ≤ t ∨ (tabAt ts t).length = 0 ∨ a < 0 ∨ 16 ≤ a)) : whyH cap ps ts t a = 0 := by
  unfold whyH; rw [if_neg (by rw [h]; simp), if_neg h2]

set_option maxHeartbeats 1000000 in
theorem tsame_any (v v2 : Value) (cap : Int) (ps : List Pg) (ts : List (List Int)) (cap2 : Int) (ps2 : List Pg) (ts2 : List (List Int)) (w : World) (hv : HpV w v cap ps ts) (hv2 : HpV w v2 cap2 ps2 ts2) :
    Calls Try.prog 16 #[v, v2] w fun e w' => e = .returned (.bool (sameH cap ps ts cap2 ps2 ts2)) ∧ Below w.heap.size w w' := by
  obtain ⟨A, c, A2, c2, rfl, hv⟩ := hv.form
  obtain ⟨B, d, B2, d2, rfl, hv2⟩ := hv2.form
  have hb0 : Below w.heap.size w ((w.alloc (.cells #[.int .i64 cap, .slice A ps.length c, .slice A2 ts.length c2] 28)).alloc (.cells #[.int .i64 cap2, .slice B ps2.length d, .slice B2 ts2.length d2] 28)) := ((Below.refl w.heap.size w).alloc (Nat.le_refl _) _).alloc (by simp) _
  have cS := Same_any _ _ cap cap2 ps ps2 _ (hv.keep hb0).store (hv2.keep hb0).store
  have cE := fun W hb => eqf_tabs _ _ ts ts2 W (hv.tabs.below hb) (hv2.tabs.below hb)
  unfold sameH
  generalize sameP cap ps cap2 ps2 = x at *
  generalize eqR tabEq ts ts2 = y at *
  clear hv hv2
  cases x with
  | false =>
    go_enter Try.func16, Try.ntmps16
    go_wp2_with fail
    refine cS.mono ?_
    rintro e w1 ⟨rfl, hb1⟩
    go_wp2
    go_ret
    exact ⟨rfl, hb0.trans (hb1.mono (by simp; omega))⟩
  | true =>
    go_enter Try.func16, Try.ntmps16
    go_wp2_with fail
    refine cS.mono ?_
    rintro e w1 ⟨rfl, hb1⟩
    have hY := hb0.trans (hb1.mono (by simp; omega))
    have k0 : Blk w1 w.heap.size 28 #[.int .i64 cap, .slice A ps.length c, .slice A2 ts.length c2] := ((Blk.new_ w _ _ _ rfl).alloc _).keep hb1
    have k1 : Blk w1 (w.heap.size + 1) 28 #[.int .i64 cap2, .slice B ps2.length d, .slice B2 ts2.length d2] := (Blk.new_ _ _ _ _ (by simp)).keep hb1
    have p2 : w1.cell? ⟨w.heap.size, 2, none⟩ = some (.slice A2 ts.length c2) := by rw [k0.cell]; rfl
    have q2 : w1.cell? ⟨w.heap.size + 1, 2, none⟩ = some (.slice B2 ts2.length d2) := by rw [k1.cell]; rfl
    clear k0 k1
    go_wp2_with fail
    refine (cE _ hY).mono ?_
    rintro e w2 ⟨rfl, hb2⟩
    go_wp2
    go_ret
    exact ⟨rfl, hY.trans (hb2.mono hY.size)⟩

set_option maxHeartbeats 4000000 in
theorem twhy_any (v : Value) (cap : Int) (ps : List Pg) (ts : List (List Int)) (t a : Int) (w : World) (hv : HpV w v cap ps ts) (hps : ps.length ≤ 1000) :
    Calls Try.prog 28 #[v, .int .i64 t, .int .i64 a] w fun e w' => e = .returned (.int .i64 (whyH cap ps ts t a)) ∧ Below w.heap.size w w' := by
  obtain ⟨A, c, A2, c2, rfl, hv⟩ := hv.form
  have hb0 : Below w.heap.size w (w.alloc (.cells #[.int .i64 cap, .slice A ps.length c, .slice A2 ts.length c2] 28)) := (Below.refl w.heap.size w).alloc (Nat.le_refl _) _
  have cM := tmay_any _ cap ps ts _ (hv.keep hb0) hps
  have hE := fun h0 => hv.tabs.elem h0
  cases hm : mayH cap ps ts with
  | false =>
    rw [hm] at cM
    rw [wh1 hm]
    clear hm hv hE
    go_enter Try.func28, Try.ntmps28
    go_wp2_with fail
    refine cM.mono ?_
    rintro e w1 ⟨rfl, hb1⟩
    go_wp2
    go_ret
    exact ⟨rfl, hb0.trans (hb1.mono (by simp))⟩
  | true =>
    rw [hm] at cM
    have HE := Lib.hid hE
    clear hE hv
    have H11 := Lib.hid (fun h => wh11 (t := t) (a := a) hm h)
    have H0 := Lib.hid (fun h => wh0 (t := t) (a := a) hm h)
    clear hm
    by_cases t0 : t < 0
    · rw [H11.out (.inl t0)]
      clear H11 H0 HE
      go_enter Try.func28, Try.ntmps28
      go_wp2_with fail
      refine cM.mono ?_
      rintro e w1 ⟨rfl, hb1⟩
      go_wp2
      go_ret
      exact ⟨rfl, hb0.trans (hb1.mono (by simp))⟩
    by_cases t1 : (ts.length : Int) ≤ t
    · rw [H11.out (.inr (.inl t1))]
      clear H11 H0 HE
      go_enter Try.func28, Try.ntmps28
      go_wp2_with fail
      refine cM.mono ?_
      rintro e w1 ⟨rfl, hb1⟩
      have k0 : Blk w1 w.heap.size 28 #[.int .i64 cap, .slice A ps.length c, .slice A2 ts.length c2] := (Blk.new_ w _ _ _ rfl).keep hb1
      have p2 : w1.cell? ⟨w.heap.size, 2, none⟩ = some (.slice A2 ts.length c2) := by rw [k0.cell]; rfl
      clear k0
      go_wp2
      go_ret
      exact ⟨rfl, hb0.trans (hb1.mono (by simp))⟩
    obtain ⟨k, rfl⟩ : ∃ k : Nat, t = (k : Int) := ⟨t.toNat, by omega⟩
    have hk : k < ts.length := by omega
    have htab : tabAt ts (k : Int) = ts[k] := by unfold tabAt; rw [Int.toNat_natCast, List.getD_eq_getElem?_getD, List.getElem?_eq_getElem hk]; rfl
    rw [htab] at H11 H0
    obtain ⟨b, o, rfl, hb, hel⟩ := HE.out (by omega)
    obtain ⟨Ak, ck, e0, _⟩ := hel k hk
    clear HE hel htab
    generalize ts[k] = tb at *
    have hk0 : (0 : Int) ≤ (k : Int) := by omega
    have hk1 : (k : Int) < (ts.length : Int) := by omega
    generalize ts.length = m at *
    clear hk t0 t1
    by_cases l0 : tb.length = 0
    · rw [H11.out (.inr (.inr (.inl l0)))]
      rw [l0] at e0
      clear H11 H0
      go_enter Try.func28, Try.ntmps28
      go_wp2_with fail
      refine cM.mono ?_
      rintro e w1 ⟨rfl, hb1⟩
      have hY := hb0.trans (hb1.mono (by simp))
      have k0 : Blk w1 w.heap.size 28 #[.int .i64 cap, .slice A ps.length c, .slice (some ⟨b, o, none⟩) m c2] := (Blk.new_ w _ _ _ rfl).keep hb1
      have p2 : w1.cell? ⟨w.heap.size, 2, none⟩ = some (.slice (some ⟨b, o, none⟩) m c2) := by rw [k0.cell]; rfl
      have x0 := (hY.cell (p := ⟨b, o + k, none⟩) hb).trans e0
      clear k0
      go_wp2
      go_ret
      exact ⟨rfl, hY⟩
    have l0' : ((tb.length : Int) == 0) = false := by rw [beq_eq_false_iff_ne]; omega
    have HR : ∀ q : Int, whyH cap ps ts (k : Int) a = q → ((a < 0 ∨ 16 ≤ a) ∧ q = 11 ∨ ¬ (a < 0 ∨ 16 ≤ a) ∧ q = 0) := by
      intro q hq
      by_cases ha : a < 0 ∨ 16 ≤ a
      · exact .inl ⟨ha, by rw [← hq, H11.out (.inr (.inr (.inr ha)))]⟩
      · exact .inr ⟨ha, by rw [← hq, H0.out (by rintro (h | h | h | h); omega; omega; exact l0 h; exact ha h)]⟩
    obtain ⟨q, hq⟩ : ∃ q, whyH cap ps ts (k : Int) a = q := ⟨_, rfl⟩
    have HR2 := HR q hq
    rw [hq]
    clear HR hq H11 H0 l0
    by_cases a0 : a < 0
    · obtain rfl : q = 11 := by omega
      clear HR2
      go_enter Try.func28, Try.ntmps28
      go_wp2_with fail
      refine cM.mono ?_
      rintro e w1 ⟨rfl, hb1⟩
      have hY := hb0.trans (hb1.mono (by simp))
      have k0 : Blk w1 w.heap.size 28 #[.int .i64 cap, .slice A ps.length c, .slice (some ⟨b, o, none⟩) m c2] := (Blk.new_ w _ _ _ rfl).keep hb1
      have p2 : w1.cell? ⟨w.heap.size, 2, none⟩ = some (.slice (some ⟨b, o, none⟩) m c2) := by rw [k0.cell]; rfl
      have x0 := (hY.cell (p := ⟨b, o + k, none⟩) hb).trans e0
      clear k0
      go_wp2
      go_ret
      exact ⟨rfl, hY⟩
    by_cases a1 : 16 ≤ a
    · obtain rfl : q = 11 := by omega
      clear HR2
      go_enter Try.func28, Try.ntmps28
      go_wp2_with fail
      refine cM.mono ?_
      rintro e w1 ⟨rfl, hb1⟩
      have hY := hb0.trans (hb1.mono (by simp))
      have k0 : Blk w1 w.heap.size 28 #[.int .i64 cap, .slice A ps.length c, .slice (some ⟨b, o, none⟩) m c2] := (Blk.new_ w _ _ _ rfl).keep hb1
      have p2 : w1.cell? ⟨w.heap.size, 2, none⟩ = some (.slice (some ⟨b, o, none⟩) m c2) := by rw [k0.cell]; rfl
      have x0 := (hY.cell (p := ⟨b, o + k, none⟩) hb).trans e0
      clear k0
      go_wp2
      go_ret
      exact ⟨rfl, hY⟩
    · obtain rfl : q = 0 := by omega
      clear HR2
      go_enter Try.func28, Try.ntmps28
      go_wp2_with fail
      refine cM.mono ?_
      rintro e w1 ⟨rfl, hb1⟩
      have hY := hb0.trans (hb1.mono (by simp))
      have k0 : Blk w1 w.heap.size 28 #[.int .i64 cap, .slice A ps.length c, .slice (some ⟨b, o, none⟩) m c2] := (Blk.new_ w _ _ _ rfl).keep hb1
      have p2 : w1.cell? ⟨w.heap.size, 2, none⟩ = some (.slice (some ⟨b, o, none⟩) m c2) := by rw [k0.cell]; rfl
      have x0 := (hY.cell (p := ⟨b, o + k, none⟩) hb).trans e0
      clear k0
      go_wp2
      go_ret
      exact ⟨rfl, hY⟩
end Go.Proofs.Ytoogobenjhmjjaa
