/- The walk of TableFork. -/
import Derived.Test.YtoogobenjhmjjaaTbPlain3
import Derived.Test.YtoogobenjhmjjaaTbOpen
namespace Go.Proofs.Ytoogobenjhmjjaa
open Go Go.RowKit
set_option linter.unusedVariables false

set_option maxRecDepth 100000 in
set_option maxHeartbeats 4000000 in
theorem tableFork_many (w : World) (A0 B0 : Option Addr) (c0 e0 : Nat) (cap : Int) (ps : List Pg) (ts : List (List Int)) (hst0 : HpV w (.agg #[.int .i64 cap, .slice A0 ps.length c0, .slice B0 ts.length e0]) cap ps ts) (t d u k : Int) (hF : fewH ps ts = false) :
    Calls Try.prog 7 #[.agg #[.int .i64 cap, .slice A0 ps.length c0, .slice B0 ts.length e0], .int .i64 t, .int .i64 d, .int .i64 u, .int .i64 k] w fun e w' => e = .returned (.bool true) ∧ Below w.heap.size w w' := by
  have qF := fun v W h => few_any v cap ps ts W h
  rw [hF] at qF
  go_enter Try.func7, Try.ntmps7
  have hA0 := ((Below.refl w.heap.size w).alloc (Nat.le_refl _) (.cells #[.int .i64 cap, .slice A0 ps.length c0, .slice B0 ts.length e0] 28))
  replace hst0 := hst0.keep hA0
  have kC := Blk.new_ w 28 #[.int .i64 cap, .slice A0 ps.length c0, .slice B0 ts.length e0] (w.heap.size) (by simp)
  have hZ0 : Below w.heap.size w _ := hA0
  go_wp2_with fail
  refine (tawake_any _).mono ?_
  rintro e w1 ⟨rfl, hb1⟩
  obtain ⟨hc1, hf1⟩ := bcell hb1
  have hz1 := hb1.size
  simp at hz1
  replace hst0 := hst0.keep hb1
  replace kC := kC.keep hb1
  have hY1 := hZ0.trans (hb1.mono hZ0.size)
  have zkC_1 : w.heap.size < w1.heap.size := by omega
  have hZ1 : Below w.heap.size w w1 := hY1
  go_wp2_with fail
  refine (qF _ _ hst0).mono ?_
  rintro e w2 ⟨rfl, hb2⟩
  obtain ⟨hc2, hf2⟩ := bcell hb2
  have hz2 := hb2.size
  replace hst0 := hst0.keep hb2
  replace kC := kC.keep hb2
  have hY2 := hZ1.trans (hb2.mono hZ1.size)
  have zkC_2 : w.heap.size < w2.heap.size := by omega
  go_wp2
  go_ret
  exact ⟨by first | rfl | (simp [*]; done), hY2⟩

set_option maxRecDepth 100000 in
set_option maxHeartbeats 4000000 in
theorem tableFork_bad (w : World) (A0 B0 : Option Addr) (c0 e0 : Nat) (cap : Int) (ps : List Pg) (ts : List (List Int)) (hst0 : HpV w (.agg #[.int .i64 cap, .slice A0 ps.length c0, .slice B0 ts.length e0]) cap ps ts) (t d u k : Int) (hF : fewH ps ts = true) (hM : mayH cap ps ts = false) (ln : ps.length ≤ 20) :
    Calls Try.prog 7 #[.agg #[.int .i64 cap, .slice A0 ps.length c0, .slice B0 ts.length e0], .int .i64 t, .int .i64 d, .int .i64 u, .int .i64 k] w fun e w' => e = .returned (.bool true) ∧ Below w.heap.size w w' := by
  have qF := fun v W h => few_any v cap ps ts W h
  rw [hF] at qF
  have qM := fun v W h => tmay_any v cap ps ts W h (by omega)
  rw [hM] at qM
  go_enter Try.func7, Try.ntmps7
  have hA0 := ((Below.refl w.heap.size w).alloc (Nat.le_refl _) (.cells #[.int .i64 cap, .slice A0 ps.length c0, .slice B0 ts.length e0] 28))
  replace hst0 := hst0.keep hA0
  have kC := Blk.new_ w 28 #[.int .i64 cap, .slice A0 ps.length c0, .slice B0 ts.length e0] (w.heap.size) (by simp)
  have hZ0 : Below w.heap.size w _ := hA0
  go_wp2_with fail
  refine (tawake_any _).mono ?_
  rintro e w1 ⟨rfl, hb1⟩
  obtain ⟨hc1, hf1⟩ := bcell hb1
  have hz1 := hb1.size
  simp at hz1
  replace hst0 := hst0.keep hb1
  replace kC := kC.keep hb1
  have hY1 := hZ0.trans (hb1.mono hZ0.size)
  have zkC_1 : w.heap.size < w1.heap.size := by omega
  have hZ1 : Below w.heap.size w w1 := hY1
  go_wp2_with fail
  refine (qF _ _ hst0).mono ?_
  rintro e w2 ⟨rfl, hb2⟩
  obtain ⟨hc2, hf2⟩ := bcell hb2
  have hz2 := hb2.size
  replace hst0 := hst0.keep hb2
  replace kC := kC.keep hb2
  have hY2 := hZ1.trans (hb2.mono hZ1.size)
  have zkC_2 : w.heap.size < w2.heap.size := by omega
  have hZ2 : Below w.heap.size w w2 := hY2
  go_wp2_with fail
  refine (qM _ _ hst0).mono ?_
  rintro e w3 ⟨rfl, hb3⟩
  obtain ⟨hc3, hf3⟩ := bcell hb3
  have hz3 := hb3.size
  replace hst0 := hst0.keep hb3
  replace kC := kC.keep hb3
  have hY3 := hZ2.trans (hb3.mono hZ2.size)
  have zkC_3 : w.heap.size < w3.heap.size := by omega
  go_wp2
  go_ret
  exact ⟨by first | rfl | (simp [*]; done), hY3⟩

set_option maxRecDepth 100000 in
set_option maxHeartbeats 4000000 in
theorem tableFork_no_err (w : World) (A0 B0 : Option Addr) (c0 e0 : Nat) (cap : Int) (ps : List Pg) (ts : List (List Int)) (hst0 : HpV w (.agg #[.int .i64 cap, .slice A0 ps.length c0, .slice B0 ts.length e0]) cap ps ts) (t d u k : Int) (hF : fewH ps ts = true) (hM : mayH cap ps ts = true) (ln : ps.length ≤ 20) (lm : ts.length ≤ 5) (ll : ∀ t ∈ ts, t.length ≤ 4) (n eG nD eD r1 f1 r2 f2 : Int) (psG psD : List Pg) (tsG tsD : List (List Int)) (lG : psG.length ≤ 1000) (lD : psD.length ≤ 1000) (hG : forkH cap ps ts t = (n, eG, psG, tsG)) (hD : dropH cap ps ts d = (nD, eD, psD, tsD)) (h1 : readH cap ps ts u k = (r1, f1)) (h2 : readH cap psD tsD u k = (r2, f2)) (hE2 : (eG == 0) = false) (hE : (eD != 0) = true) :
    Calls Try.prog 7 #[.agg #[.int .i64 cap, .slice A0 ps.length c0, .slice B0 ts.length e0], .int .i64 t, .int .i64 d, .int .i64 u, .int .i64 k] w fun e w' => e = .returned (.bool true) ∧ Below w.heap.size w w' := by
  have qF := fun v W h => few_any v cap ps ts W h
  rw [hF] at qF
  have qM := fun v W h => tmay_any v cap ps ts W h (by omega)
  rw [hM] at qM
  have qG := fun x W h => Fork_any x cap ps ts t W h (by omega) (by omega) (fun t ht => by have := ll t ht; omega)
  rw [hG] at qG
  have qD := fun x W h => Drop_any x cap ps ts d W h (by omega) (by omega) (fun t ht => by have := ll t ht; omega)
  rw [hD] at qD
  have q1 := fun x W h => Read_any x cap ps ts u k W h (by omega)
  rw [h1] at q1
  have q2 := fun x W h => Read_any x cap psD tsD u k W h (by omega)
  rw [h2] at q2
  clear hF hM hG hD h1 h2 ll
  go_enter Try.func7, Try.ntmps7
  have hA0 := ((Below.refl w.heap.size w).alloc (Nat.le_refl _) (.cells #[.int .i64 cap, .slice A0 ps.length c0, .slice B0 ts.length e0] 28))
  replace hst0 := hst0.keep hA0
  have kC := Blk.new_ w 28 #[.int .i64 cap, .slice A0 ps.length c0, .slice B0 ts.length e0] (w.heap.size) (by simp)
  have hZ0 : Below w.heap.size w _ := hA0
  go_wp2_with fail
  refine (tawake_any _).mono ?_
  rintro e w1 ⟨rfl, hb1⟩
  obtain ⟨hc1, hf1⟩ := bcell hb1
  have hz1 := hb1.size
  simp at hz1
  replace hst0 := hst0.keep hb1
  replace kC := kC.keep hb1
  have hY1 := hZ0.trans (hb1.mono hZ0.size)
  have zkC_1 : w.heap.size < w1.heap.size := by omega
  have hZ1 : Below w.heap.size w w1 := hY1
  go_wp2_with fail
  refine (qF _ _ hst0).mono ?_
  rintro e w2 ⟨rfl, hb2⟩
  obtain ⟨hc2, hf2⟩ := bcell hb2
  have hz2 := hb2.size
  replace hst0 := hst0.keep hb2
  replace kC := kC.keep hb2
  have hY2 := hZ1.trans (hb2.mono hZ1.size)
  have zkC_2 : w.heap.size < w2.heap.size := by omega
  have hZ2 : Below w.heap.size w w2 := hY2
  go_wp2_with fail
  refine (qM _ _ hst0).mono ?_
  rintro e w3 ⟨rfl, hb3⟩
  obtain ⟨hc3, hf3⟩ := bcell hb3
  have hz3 := hb3.size
  replace hst0 := hst0.keep hb3
  replace kC := kC.keep hb3
  have hY3 := hZ2.trans (hb3.mono hZ2.size)
  have zkC_3 : w.heap.size < w3.heap.size := by omega
  have hZ3 : Below w.heap.size w w3 := hY3
  go_wp2_with fail
  refine (qG _ _ hst0).mono ?_
  rintro e w4 ⟨v4, rfl, hstG, hb4⟩
  obtain ⟨hc4, hf4⟩ := bcell hb4
  have hz4 := hb4.size
  replace hst0 := hst0.keep hb4
  replace kC := kC.keep hb4
  have hY4 := hZ3.trans (hb4.mono hZ3.size)
  have zkC_4 : w.heap.size < w4.heap.size := by omega
  replace hstG := hstG.to
  try dsimp only at hstG
  obtain ⟨AG, cG, BG, eG, rfl, hstG⟩ := hstG.form
  have hA4 := ((Below.refl w4.heap.size w4).alloc (Nat.le_refl _) (.cells #[.int .i64 cap, .slice AG psG.length cG, .slice BG tsG.length eG] 28))
  replace hst0 := hst0.keep hA4
  replace kC := kC.keep hA4
  replace hstG := hstG.keep hA4
  have kG := Blk.new_ w4 28 #[.int .i64 cap, .slice AG psG.length cG, .slice BG tsG.length eG] (w4.heap.size) (by simp)
  have hZ4 : Below w.heap.size w _ := hY4.trans (hA4.mono hY4.size)
  go_wp2_with fail
  refine (qD _ _ hst0).mono ?_
  rintro e w5 ⟨v5, rfl, hstD, hb5⟩
  obtain ⟨hc5, hf5⟩ := bcell hb5
  have hz5 := hb5.size
  simp at hz5
  replace hst0 := hst0.keep hb5
  replace kC := kC.keep hb5
  replace hstG := hstG.keep hb5
  replace kG := kG.keep hb5
  have hY5 := hZ4.trans (hb5.mono hZ4.size)
  have zkC_5 : w.heap.size < w5.heap.size := by omega
  have zkG_5 : w4.heap.size < w5.heap.size := by omega
  replace hstD := hstD.to
  try dsimp only at hstD
  obtain ⟨AD, cD, BD, eD, rfl, hstD⟩ := hstD.form
  have hA5 := ((Below.refl w5.heap.size w5).alloc (Nat.le_refl _) (.cells #[.int .i64 cap, .slice AD psD.length cD, .slice BD tsD.length eD] 28))
  replace hst0 := hst0.keep hA5
  replace kC := kC.keep hA5
  replace hstG := hstG.keep hA5
  replace kG := kG.keep hA5
  replace hstD := hstD.keep hA5
  have kD := Blk.new_ w5 28 #[.int .i64 cap, .slice AD psD.length cD, .slice BD tsD.length eD] (w5.heap.size) (by simp)
  have hZ5 : Below w.heap.size w _ := hY5.trans (hA5.mono hY5.size)
  go_wp2_with fail
  refine (q1 _ _ hst0).mono ?_
  rintro e w6 ⟨rfl, hb6⟩
  obtain ⟨hc6, hf6⟩ := bcell hb6
  have hz6 := hb6.size
  simp at hz6
  replace hst0 := hst0.keep hb6
  replace kC := kC.keep hb6
  replace hstG := hstG.keep hb6
  replace kG := kG.keep hb6
  replace hstD := hstD.keep hb6
  replace kD := kD.keep hb6
  have hY6 := hZ5.trans (hb6.mono hZ5.size)
  have zkC_6 : w.heap.size < w6.heap.size := by omega
  have zkG_6 : w4.heap.size < w6.heap.size := by omega
  have zkD_6 : w5.heap.size < w6.heap.size := by omega
  have hZ6 : Below w.heap.size w w6 := hY6
  go_wp2_with fail
  refine (q2 _ _ hstD).mono ?_
  rintro e w7 ⟨rfl, hb7⟩
  obtain ⟨hc7, hf7⟩ := bcell hb7
  have hz7 := hb7.size
  replace hst0 := hst0.keep hb7
  replace kC := kC.keep hb7
  replace hstG := hstG.keep hb7
  replace kG := kG.keep hb7
  replace hstD := hstD.keep hb7
  replace kD := kD.keep hb7
  have hY7 := hZ6.trans (hb7.mono hZ6.size)
  have zkC_7 : w.heap.size < w7.heap.size := by omega
  have zkG_7 : w4.heap.size < w7.heap.size := by omega
  have zkD_7 : w5.heap.size < w7.heap.size := by omega
  go_wp2
  go_ret
  exact ⟨by first | rfl | (simp [*]; done), hY7⟩

set_option maxRecDepth 100000 in
set_option maxHeartbeats 4000000 in
theorem tableFork_n_err (w : World) (A0 B0 : Option Addr) (c0 e0 : Nat) (cap : Int) (ps : List Pg) (ts : List (List Int)) (hst0 : HpV w (.agg #[.int .i64 cap, .slice A0 ps.length c0, .slice B0 ts.length e0]) cap ps ts) (t d u k : Int) (hF : fewH ps ts = true) (hM : mayH cap ps ts = true) (ln : ps.length ≤ 20) (lm : ts.length ≤ 5) (ll : ∀ t ∈ ts, t.length ≤ 4) (n eG nD eD r1 f1 r2 f2 : Int) (psG psD : List Pg) (tsG tsD : List (List Int)) (lG : psG.length ≤ 1000) (lD : psD.length ≤ 1000) (hG : forkH cap ps ts t = (n, eG, psG, tsG)) (hD : dropH cap ps ts d = (nD, eD, psD, tsD)) (h1 : readH cap ps ts u k = (r1, f1)) (h2 : readH cap psD tsD u k = (r2, f2)) (ra fa rb fb : Int) (hE2 : eG = 0) (hn : n = (ts.length : Int)) (h3 : readH cap psG tsG u k = (ra, fa)) (h4 : readH cap psG tsG n k = (rb, fb)) (h5 : readH cap psG tsG t k = (rb, fb)) (m1 : u = n) (hE : (eD != 0) = true) :
    Calls Try.prog 7 #[.agg #[.int .i64 cap, .slice A0 ps.length c0, .slice B0 ts.length e0], .int .i64 t, .int .i64 d, .int .i64 u, .int .i64 k] w fun e w' => e = .returned (.bool true) ∧ Below w.heap.size w w' := by
  have qF := fun v W h => few_any v cap ps ts W h
  rw [hF] at qF
  have qM := fun v W h => tmay_any v cap ps ts W h (by omega)
  rw [hM] at qM
  have qG := fun x W h => Fork_any x cap ps ts t W h (by omega) (by omega) (fun t ht => by have := ll t ht; omega)
  rw [hG] at qG
  have qD := fun x W h => Drop_any x cap ps ts d W h (by omega) (by omega) (fun t ht => by have := ll t ht; omega)
  rw [hD] at qD
  have q1 := fun x W h => Read_any x cap ps ts u k W h (by omega)
  rw [h1] at q1
  have q2 := fun x W h => Read_any x cap psD tsD u k W h (by omega)
  rw [h2] at q2
  have q3 := fun x W h => Read_any x cap psG tsG u k W h (by omega)
  rw [h3] at q3
  have q4 := fun x W h => Read_any x cap psG tsG n k W h (by omega)
  rw [h4] at q4
  have q5 := fun x W h => Read_any x cap psG tsG t k W h (by omega)
  rw [h5] at q5
  clear h3 h4 h5
  clear hF hM hG hD h1 h2 ll
  subst hE2
  subst m1
  subst hn
  go_enter Try.func7, Try.ntmps7
  have hA0 := ((Below.refl w.heap.size w).alloc (Nat.le_refl _) (.cells #[.int .i64 cap, .slice A0 ps.length c0, .slice B0 ts.length e0] 28))
  replace hst0 := hst0.keep hA0
  have kC := Blk.new_ w 28 #[.int .i64 cap, .slice A0 ps.length c0, .slice B0 ts.length e0] (w.heap.size) (by simp)
  have hZ0 : Below w.heap.size w _ := hA0
  go_wp2_with fail
  refine (tawake_any _).mono ?_
  rintro e w1 ⟨rfl, hb1⟩
  obtain ⟨hc1, hf1⟩ := bcell hb1
  have hz1 := hb1.size
  simp at hz1
  replace hst0 := hst0.keep hb1
  replace kC := kC.keep hb1
  have hY1 := hZ0.trans (hb1.mono hZ0.size)
  have zkC_1 : w.heap.size < w1.heap.size := by omega
  have hZ1 : Below w.heap.size w w1 := hY1
  go_wp2_with fail
  refine (qF _ _ hst0).mono ?_
  rintro e w2 ⟨rfl, hb2⟩
  obtain ⟨hc2, hf2⟩ := bcell hb2
  have hz2 := hb2.size
  replace hst0 := hst0.keep hb2
  replace kC := kC.keep hb2
  have hY2 := hZ1.trans (hb2.mono hZ1.size)
  have zkC_2 : w.heap.size < w2.heap.size := by omega
  have hZ2 : Below w.heap.size w w2 := hY2
  go_wp2_with fail
  refine (qM _ _ hst0).mono ?_
  rintro e w3 ⟨rfl, hb3⟩
  obtain ⟨hc3, hf3⟩ := bcell hb3
  have hz3 := hb3.size
  replace hst0 := hst0.keep hb3
  replace kC := kC.keep hb3
  have hY3 := hZ2.trans (hb3.mono hZ2.size)
  have zkC_3 : w.heap.size < w3.heap.size := by omega
  have hZ3 : Below w.heap.size w w3 := hY3
  go_wp2_with fail
  refine (qG _ _ hst0).mono ?_
  rintro e w4 ⟨v4, rfl, hstG, hb4⟩
  obtain ⟨hc4, hf4⟩ := bcell hb4
  have hz4 := hb4.size
  replace hst0 := hst0.keep hb4
  replace kC := kC.keep hb4
  have hY4 := hZ3.trans (hb4.mono hZ3.size)
  have zkC_4 : w.heap.size < w4.heap.size := by omega
  replace hstG := hstG.to
  try dsimp only at hstG
  obtain ⟨AG, cG, BG, eG, rfl, hstG⟩ := hstG.form
  have hA4 := ((Below.refl w4.heap.size w4).alloc (Nat.le_refl _) (.cells #[.int .i64 cap, .slice AG psG.length cG, .slice BG tsG.length eG] 28))
  replace hst0 := hst0.keep hA4
  replace kC := kC.keep hA4
  replace hstG := hstG.keep hA4
  have kG := Blk.new_ w4 28 #[.int .i64 cap, .slice AG psG.length cG, .slice BG tsG.length eG] (w4.heap.size) (by simp)
  have hZ4 : Below w.heap.size w _ := hY4.trans (hA4.mono hY4.size)
  go_wp2_with fail
  refine (qD _ _ hst0).mono ?_
  rintro e w5 ⟨v5, rfl, hstD, hb5⟩
  obtain ⟨hc5, hf5⟩ := bcell hb5
  have hz5 := hb5.size
  simp at hz5
  replace hst0 := hst0.keep hb5
  replace kC := kC.keep hb5
  replace hstG := hstG.keep hb5
  replace kG := kG.keep hb5
  have hY5 := hZ4.trans (hb5.mono hZ4.size)
  have zkC_5 : w.heap.size < w5.heap.size := by omega
  have zkG_5 : w4.heap.size < w5.heap.size := by omega
  replace hstD := hstD.to
  try dsimp only at hstD
  obtain ⟨AD, cD, BD, eD, rfl, hstD⟩ := hstD.form
  have hA5 := ((Below.refl w5.heap.size w5).alloc (Nat.le_refl _) (.cells #[.int .i64 cap, .slice AD psD.length cD, .slice BD tsD.length eD] 28))
  replace hst0 := hst0.keep hA5
  replace kC := kC.keep hA5
  replace hstG := hstG.keep hA5
  replace kG := kG.keep hA5
  replace hstD := hstD.keep hA5
  have kD := Blk.new_ w5 28 #[.int .i64 cap, .slice AD psD.length cD, .slice BD tsD.length eD] (w5.heap.size) (by simp)
  have hZ5 : Below w.heap.size w _ := hY5.trans (hA5.mono hY5.size)
  go_wp2_with fail
  refine (q1 _ _ hst0).mono ?_
  rintro e w6 ⟨rfl, hb6⟩
  obtain ⟨hc6, hf6⟩ := bcell hb6
  have hz6 := hb6.size
  simp at hz6
  replace hst0 := hst0.keep hb6
  replace kC := kC.keep hb6
  replace hstG := hstG.keep hb6
  replace kG := kG.keep hb6
  replace hstD := hstD.keep hb6
  replace kD := kD.keep hb6
  have hY6 := hZ5.trans (hb6.mono hZ5.size)
  have zkC_6 : w.heap.size < w6.heap.size := by omega
  have zkG_6 : w4.heap.size < w6.heap.size := by omega
  have zkD_6 : w5.heap.size < w6.heap.size := by omega
  have hZ6 : Below w.heap.size w w6 := hY6
  go_wp2_with fail
  refine (q3 _ _ hstG).mono ?_
  rintro e w7 ⟨rfl, hb7⟩
  obtain ⟨hc7, hf7⟩ := bcell hb7
  have hz7 := hb7.size
  replace hst0 := hst0.keep hb7
  replace kC := kC.keep hb7
  replace hstG := hstG.keep hb7
  replace kG := kG.keep hb7
  replace hstD := hstD.keep hb7
  replace kD := kD.keep hb7
  have hY7 := hZ6.trans (hb7.mono hZ6.size)
  have zkC_7 : w.heap.size < w7.heap.size := by omega
  have zkG_7 : w4.heap.size < w7.heap.size := by omega
  have zkD_7 : w5.heap.size < w7.heap.size := by omega
  have hZ7 : Below w.heap.size w w7 := hY7
  go_wp2_with fail
  refine (q4 _ _ hstG).mono ?_
  rintro e w8 ⟨rfl, hb8⟩
  obtain ⟨hc8, hf8⟩ := bcell hb8
  have hz8 := hb8.size
  replace hst0 := hst0.keep hb8
  replace kC := kC.keep hb8
  replace hstG := hstG.keep hb8
  replace kG := kG.keep hb8
  replace hstD := hstD.keep hb8
  replace kD := kD.keep hb8
  have hY8 := hZ7.trans (hb8.mono hZ7.size)
  have zkC_8 : w.heap.size < w8.heap.size := by omega
  have zkG_8 : w4.heap.size < w8.heap.size := by omega
  have zkD_8 : w5.heap.size < w8.heap.size := by omega
  have hZ8 : Below w.heap.size w w8 := hY8
  go_wp2_with fail
  refine (q5 _ _ hstG).mono ?_
  rintro e w9 ⟨rfl, hb9⟩
  obtain ⟨hc9, hf9⟩ := bcell hb9
  have hz9 := hb9.size
  replace hst0 := hst0.keep hb9
  replace kC := kC.keep hb9
  replace hstG := hstG.keep hb9
  replace kG := kG.keep hb9
  replace hstD := hstD.keep hb9
  replace kD := kD.keep hb9
  have hY9 := hZ8.trans (hb9.mono hZ8.size)
  have zkC_9 : w.heap.size < w9.heap.size := by omega
  have zkG_9 : w4.heap.size < w9.heap.size := by omega
  have zkD_9 : w5.heap.size < w9.heap.size := by omega
  have kC_0 : w9.cell? ⟨w.heap.size, 0, none⟩ = some (.int .i64 cap) := by rw [kC.cell]; rfl
  have kC_1 : w9.cell? ⟨w.heap.size, 1, none⟩ = some (.slice A0 ps.length c0) := by rw [kC.cell]; rfl
  have kC_2 : w9.cell? ⟨w.heap.size, 2, none⟩ = some (.slice B0 ts.length e0) := by rw [kC.cell]; rfl
  have kG_0 : w9.cell? ⟨w4.heap.size, 0, none⟩ = some (.int .i64 cap) := by rw [kG.cell]; rfl
  have kG_1 : w9.cell? ⟨w4.heap.size, 1, none⟩ = some (.slice AG psG.length cG) := by rw [kG.cell]; rfl
  have kG_2 : w9.cell? ⟨w4.heap.size, 2, none⟩ = some (.slice BG tsG.length eG) := by rw [kG.cell]; rfl
  have kD_0 : w9.cell? ⟨w5.heap.size, 0, none⟩ = some (.int .i64 cap) := by rw [kD.cell]; rfl
  have kD_1 : w9.cell? ⟨w5.heap.size, 1, none⟩ = some (.slice AD psD.length cD) := by rw [kD.cell]; rfl
  have kD_2 : w9.cell? ⟨w5.heap.size, 2, none⟩ = some (.slice BD tsD.length eD) := by rw [kD.cell]; rfl
  have hZ9 : Below w.heap.size w w9 := hY9
  go_wp2_with fail
  refine (q2 _ _ hstD).mono ?_
  rintro e w10 ⟨rfl, hb10⟩
  obtain ⟨hc10, hf10⟩ := bcell hb10
  have hz10 := hb10.size
  replace hst0 := hst0.keep hb10
  replace kC := kC.keep hb10
  replace hstG := hstG.keep hb10
  replace kG := kG.keep hb10
  replace hstD := hstD.keep hb10
  replace kD := kD.keep hb10
  have hY10 := hZ9.trans (hb10.mono hZ9.size)
  have zkC_10 : w.heap.size < w10.heap.size := by omega
  have zkG_10 : w4.heap.size < w10.heap.size := by omega
  have zkD_10 : w5.heap.size < w10.heap.size := by omega
  go_wp2
  go_ret
  exact ⟨by first | rfl | (simp [*]; done), hY10⟩

set_option maxRecDepth 100000 in
set_option maxHeartbeats 4000000 in
theorem tableFork_u_err (w : World) (A0 B0 : Option Addr) (c0 e0 : Nat) (cap : Int) (ps : List Pg) (ts : List (List Int)) (hst0 : HpV w (.agg #[.int .i64 cap, .slice A0 ps.length c0, .slice B0 ts.length e0]) cap ps ts) (t d u k : Int) (hF : fewH ps ts = true) (hM : mayH cap ps ts = true) (ln : ps.length ≤ 20) (lm : ts.length ≤ 5) (ll : ∀ t ∈ ts, t.length ≤ 4) (n eG nD eD r1 f1 r2 f2 : Int) (psG psD : List Pg) (tsG tsD : List (List Int)) (lG : psG.length ≤ 1000) (lD : psD.length ≤ 1000) (hG : forkH cap ps ts t = (n, eG, psG, tsG)) (hD : dropH cap ps ts d = (nD, eD, psD, tsD)) (h1 : readH cap ps ts u k = (r1, f1)) (h2 : readH cap psD tsD u k = (r2, f2)) (ra fa rb fb : Int) (hE2 : eG = 0) (hn : n = (ts.length : Int)) (h3 : readH cap psG tsG u k = (ra, fa)) (h4 : readH cap psG tsG n k = (rb, fb)) (h5 : readH cap psG tsG t k = (rb, fb)) (m1 : (u != n) = true) (m2 : ra = r1) (m3 : fa = f1) (hE : (eD != 0) = true) :
    Calls Try.prog 7 #[.agg #[.int .i64 cap, .slice A0 ps.length c0, .slice B0 ts.length e0], .int .i64 t, .int .i64 d, .int .i64 u, .int .i64 k] w fun e w' => e = .returned (.bool true) ∧ Below w.heap.size w w' := by
  have qF := fun v W h => few_any v cap ps ts W h
  rw [hF] at qF
  have qM := fun v W h => tmay_any v cap ps ts W h (by omega)
  rw [hM] at qM
  have qG := fun x W h => Fork_any x cap ps ts t W h (by omega) (by omega) (fun t ht => by have := ll t ht; omega)
  rw [hG] at qG
  have qD := fun x W h => Drop_any x cap ps ts d W h (by omega) (by omega) (fun t ht => by have := ll t ht; omega)
  rw [hD] at qD
  have q1 := fun x W h => Read_any x cap ps ts u k W h (by omega)
  rw [h1] at q1
  have q2 := fun x W h => Read_any x cap psD tsD u k W h (by omega)
  rw [h2] at q2
  have q3 := fun x W h => Read_any x cap psG tsG u k W h (by omega)
  rw [h3] at q3
  have q4 := fun x W h => Read_any x cap psG tsG n k W h (by omega)
  rw [h4] at q4
  have q5 := fun x W h => Read_any x cap psG tsG t k W h (by omega)
  rw [h5] at q5
  clear h3 h4 h5
  clear hF hM hG hD h1 h2 ll
  subst hE2
  subst m2 m3
  subst hn
  go_enter Try.func7, Try.ntmps7
  have hA0 := ((Below.refl w.heap.size w).alloc (Nat.le_refl _) (.cells #[.int .i64 cap, .slice A0 ps.length c0, .slice B0 ts.length e0] 28))
  replace hst0 := hst0.keep hA0
  have kC := Blk.new_ w 28 #[.int .i64 cap, .slice A0 ps.length c0, .slice B0 ts.length e0] (w.heap.size) (by simp)
  have hZ0 : Below w.heap.size w _ := hA0
  go_wp2_with fail
  refine (tawake_any _).mono ?_
  rintro e w1 ⟨rfl, hb1⟩
  obtain ⟨hc1, hf1⟩ := bcell hb1
  have hz1 := hb1.size
  simp at hz1
  replace hst0 := hst0.keep hb1
  replace kC := kC.keep hb1
  have hY1 := hZ0.trans (hb1.mono hZ0.size)
  have zkC_1 : w.heap.size < w1.heap.size := by omega
  have hZ1 : Below w.heap.size w w1 := hY1
  go_wp2_with fail
  refine (qF _ _ hst0).mono ?_
  rintro e w2 ⟨rfl, hb2⟩
  obtain ⟨hc2, hf2⟩ := bcell hb2
  have hz2 := hb2.size
  replace hst0 := hst0.keep hb2
  replace kC := kC.keep hb2
  have hY2 := hZ1.trans (hb2.mono hZ1.size)
  have zkC_2 : w.heap.size < w2.heap.size := by omega
  have hZ2 : Below w.heap.size w w2 := hY2
  go_wp2_with fail
  refine (qM _ _ hst0).mono ?_
  rintro e w3 ⟨rfl, hb3⟩
  obtain ⟨hc3, hf3⟩ := bcell hb3
  have hz3 := hb3.size
  replace hst0 := hst0.keep hb3
  replace kC := kC.keep hb3
  have hY3 := hZ2.trans (hb3.mono hZ2.size)
  have zkC_3 : w.heap.size < w3.heap.size := by omega
  have hZ3 : Below w.heap.size w w3 := hY3
  go_wp2_with fail
  refine (qG _ _ hst0).mono ?_
  rintro e w4 ⟨v4, rfl, hstG, hb4⟩
  obtain ⟨hc4, hf4⟩ := bcell hb4
  have hz4 := hb4.size
  replace hst0 := hst0.keep hb4
  replace kC := kC.keep hb4
  have hY4 := hZ3.trans (hb4.mono hZ3.size)
  have zkC_4 : w.heap.size < w4.heap.size := by omega
  replace hstG := hstG.to
  try dsimp only at hstG
  obtain ⟨AG, cG, BG, eG, rfl, hstG⟩ := hstG.form
  have hA4 := ((Below.refl w4.heap.size w4).alloc (Nat.le_refl _) (.cells #[.int .i64 cap, .slice AG psG.length cG, .slice BG tsG.length eG] 28))
  replace hst0 := hst0.keep hA4
  replace kC := kC.keep hA4
  replace hstG := hstG.keep hA4
  have kG := Blk.new_ w4 28 #[.int .i64 cap, .slice AG psG.length cG, .slice BG tsG.length eG] (w4.heap.size) (by simp)
  have hZ4 : Below w.heap.size w _ := hY4.trans (hA4.mono hY4.size)
  go_wp2_with fail
  refine (qD _ _ hst0).mono ?_
  rintro e w5 ⟨v5, rfl, hstD, hb5⟩
  obtain ⟨hc5, hf5⟩ := bcell hb5
  have hz5 := hb5.size
  simp at hz5
  replace hst0 := hst0.keep hb5
  replace kC := kC.keep hb5
  replace hstG := hstG.keep hb5
  replace kG := kG.keep hb5
  have hY5 := hZ4.trans (hb5.mono hZ4.size)
  have zkC_5 : w.heap.size < w5.heap.size := by omega
  have zkG_5 : w4.heap.size < w5.heap.size := by omega
  replace hstD := hstD.to
  try dsimp only at hstD
  obtain ⟨AD, cD, BD, eD, rfl, hstD⟩ := hstD.form
  have hA5 := ((Below.refl w5.heap.size w5).alloc (Nat.le_refl _) (.cells #[.int .i64 cap, .slice AD psD.length cD, .slice BD tsD.length eD] 28))
  replace hst0 := hst0.keep hA5
  replace kC := kC.keep hA5
  replace hstG := hstG.keep hA5
  replace kG := kG.keep hA5
  replace hstD := hstD.keep hA5
  have kD := Blk.new_ w5 28 #[.int .i64 cap, .slice AD psD.length cD, .slice BD tsD.length eD] (w5.heap.size) (by simp)
  have hZ5 : Below w.heap.size w _ := hY5.trans (hA5.mono hY5.size)
  go_wp2_with fail
  refine (q1 _ _ hst0).mono ?_
  rintro e w6 ⟨rfl, hb6⟩
  obtain ⟨hc6, hf6⟩ := bcell hb6
  have hz6 := hb6.size
  simp at hz6
  replace hst0 := hst0.keep hb6
  replace kC := kC.keep hb6
  replace hstG := hstG.keep hb6
  replace kG := kG.keep hb6
  replace hstD := hstD.keep hb6
  replace kD := kD.keep hb6
  have hY6 := hZ5.trans (hb6.mono hZ5.size)
  have zkC_6 : w.heap.size < w6.heap.size := by omega
  have zkG_6 : w4.heap.size < w6.heap.size := by omega
  have zkD_6 : w5.heap.size < w6.heap.size := by omega
  have hZ6 : Below w.heap.size w w6 := hY6
  go_wp2_with fail
  refine (q3 _ _ hstG).mono ?_
  rintro e w7 ⟨rfl, hb7⟩
  obtain ⟨hc7, hf7⟩ := bcell hb7
  have hz7 := hb7.size
  replace hst0 := hst0.keep hb7
  replace kC := kC.keep hb7
  replace hstG := hstG.keep hb7
  replace kG := kG.keep hb7
  replace hstD := hstD.keep hb7
  replace kD := kD.keep hb7
  have hY7 := hZ6.trans (hb7.mono hZ6.size)
  have zkC_7 : w.heap.size < w7.heap.size := by omega
  have zkG_7 : w4.heap.size < w7.heap.size := by omega
  have zkD_7 : w5.heap.size < w7.heap.size := by omega
  have hZ7 : Below w.heap.size w w7 := hY7
  go_wp2_with fail
  refine (q4 _ _ hstG).mono ?_
  rintro e w8 ⟨rfl, hb8⟩
  obtain ⟨hc8, hf8⟩ := bcell hb8
  have hz8 := hb8.size
  replace hst0 := hst0.keep hb8
  replace kC := kC.keep hb8
  replace hstG := hstG.keep hb8
  replace kG := kG.keep hb8
  replace hstD := hstD.keep hb8
  replace kD := kD.keep hb8
  have hY8 := hZ7.trans (hb8.mono hZ7.size)
  have zkC_8 : w.heap.size < w8.heap.size := by omega
  have zkG_8 : w4.heap.size < w8.heap.size := by omega
  have zkD_8 : w5.heap.size < w8.heap.size := by omega
  have hZ8 : Below w.heap.size w w8 := hY8
  go_wp2_with fail
  refine (q5 _ _ hstG).mono ?_
  rintro e w9 ⟨rfl, hb9⟩
  obtain ⟨hc9, hf9⟩ := bcell hb9
  have hz9 := hb9.size
  replace hst0 := hst0.keep hb9
  replace kC := kC.keep hb9
  replace hstG := hstG.keep hb9
  replace kG := kG.keep hb9
  replace hstD := hstD.keep hb9
  replace kD := kD.keep hb9
  have hY9 := hZ8.trans (hb9.mono hZ8.size)
  have zkC_9 : w.heap.size < w9.heap.size := by omega
  have zkG_9 : w4.heap.size < w9.heap.size := by omega
  have zkD_9 : w5.heap.size < w9.heap.size := by omega
  have kC_0 : w9.cell? ⟨w.heap.size, 0, none⟩ = some (.int .i64 cap) := by rw [kC.cell]; rfl
  have kC_1 : w9.cell? ⟨w.heap.size, 1, none⟩ = some (.slice A0 ps.length c0) := by rw [kC.cell]; rfl
  have kC_2 : w9.cell? ⟨w.heap.size, 2, none⟩ = some (.slice B0 ts.length e0) := by rw [kC.cell]; rfl
  have kG_0 : w9.cell? ⟨w4.heap.size, 0, none⟩ = some (.int .i64 cap) := by rw [kG.cell]; rfl
  have kG_1 : w9.cell? ⟨w4.heap.size, 1, none⟩ = some (.slice AG psG.length cG) := by rw [kG.cell]; rfl
  have kG_2 : w9.cell? ⟨w4.heap.size, 2, none⟩ = some (.slice BG tsG.length eG) := by rw [kG.cell]; rfl
  have kD_0 : w9.cell? ⟨w5.heap.size, 0, none⟩ = some (.int .i64 cap) := by rw [kD.cell]; rfl
  have kD_1 : w9.cell? ⟨w5.heap.size, 1, none⟩ = some (.slice AD psD.length cD) := by rw [kD.cell]; rfl
  have kD_2 : w9.cell? ⟨w5.heap.size, 2, none⟩ = some (.slice BD tsD.length eD) := by rw [kD.cell]; rfl
  have hZ9 : Below w.heap.size w w9 := hY9
  go_wp2_with fail
  refine (q2 _ _ hstD).mono ?_
  rintro e w10 ⟨rfl, hb10⟩
  obtain ⟨hc10, hf10⟩ := bcell hb10
  have hz10 := hb10.size
  replace hst0 := hst0.keep hb10
  replace kC := kC.keep hb10
  replace hstG := hstG.keep hb10
  replace kG := kG.keep hb10
  replace hstD := hstD.keep hb10
  replace kD := kD.keep hb10
  have hY10 := hZ9.trans (hb10.mono hZ9.size)
  have zkC_10 : w.heap.size < w10.heap.size := by omega
  have zkG_10 : w4.heap.size < w10.heap.size := by omega
  have zkD_10 : w5.heap.size < w10.heap.size := by omega
  go_wp2
  go_ret
  exact ⟨by first | rfl | (simp [*]; done), hY10⟩

set_option maxRecDepth 100000 in
set_option maxHeartbeats 4000000 in
theorem tableFork_no_at (w : World) (A0 B0 : Option Addr) (c0 e0 : Nat) (cap : Int) (ps : List Pg) (ts : List (List Int)) (hst0 : HpV w (.agg #[.int .i64 cap, .slice A0 ps.length c0, .slice B0 ts.length e0]) cap ps ts) (t d u k : Int) (hF : fewH ps ts = true) (hM : mayH cap ps ts = true) (ln : ps.length ≤ 20) (lm : ts.length ≤ 5) (ll : ∀ t ∈ ts, t.length ≤ 4) (n eG nD eD r1 f1 r2 f2 : Int) (psG psD : List Pg) (tsG tsD : List (List Int)) (lG : psG.length ≤ 1000) (lD : psD.length ≤ 1000) (hG : forkH cap ps ts t = (n, eG, psG, tsG)) (hD : dropH cap ps ts d = (nD, eD, psD, tsD)) (h1 : readH cap ps ts u k = (r1, f1)) (h2 : readH cap psD tsD u k = (r2, f2)) (hE2 : (eG == 0) = false) (hE : eD = 0) (g1 : u = d) (g2 : f2 = 11) :
    Calls Try.prog 7 #[.agg #[.int .i64 cap, .slice A0 ps.length c0, .slice B0 ts.length e0], .int .i64 t, .int .i64 d, .int .i64 u, .int .i64 k] w fun e w' => e = .returned (.bool true) ∧ Below w.heap.size w w' := by
  have qF := fun v W h => few_any v cap ps ts W h
  rw [hF] at qF
  have qM := fun v W h => tmay_any v cap ps ts W h (by omega)
  rw [hM] at qM
  have qG := fun x W h => Fork_any x cap ps ts t W h (by omega) (by omega) (fun t ht => by have := ll t ht; omega)
  rw [hG] at qG
  have qD := fun x W h => Drop_any x cap ps ts d W h (by omega) (by omega) (fun t ht => by have := ll t ht; omega)
  rw [hD] at qD
  have q1 := fun x W h => Read_any x cap ps ts u k W h (by omega)
  rw [h1] at q1
  have q2 := fun x W h => Read_any x cap psD tsD u k W h (by omega)
  rw [h2] at q2
  clear hF hM hG hD h1 h2 ll
  subst hE g1 g2
  go_enter Try.func7, Try.ntmps7
  have hA0 := ((Below.refl w.heap.size w).alloc (Nat.le_refl _) (.cells #[.int .i64 cap, .slice A0 ps.length c0, .slice B0 ts.length e0] 28))
  replace hst0 := hst0.keep hA0
  have kC := Blk.new_ w 28 #[.int .i64 cap, .slice A0 ps.length c0, .slice B0 ts.length e0] (w.heap.size) (by simp)
  have hZ0 : Below w.heap.size w _ := hA0
  go_wp2_with fail
  refine (tawake_any _).mono ?_
  rintro e w1 ⟨rfl, hb1⟩
  obtain ⟨hc1, hf1⟩ := bcell hb1
  have hz1 := hb1.size
  simp at hz1
  replace hst0 := hst0.keep hb1
  replace kC := kC.keep hb1
  have hY1 := hZ0.trans (hb1.mono hZ0.size)
  have zkC_1 : w.heap.size < w1.heap.size := by omega
  have hZ1 : Below w.heap.size w w1 := hY1
  go_wp2_with fail
  refine (qF _ _ hst0).mono ?_
  rintro e w2 ⟨rfl, hb2⟩
  obtain ⟨hc2, hf2⟩ := bcell hb2
  have hz2 := hb2.size
  replace hst0 := hst0.keep hb2
  replace kC := kC.keep hb2
  have hY2 := hZ1.trans (hb2.mono hZ1.size)
  have zkC_2 : w.heap.size < w2.heap.size := by omega
  have hZ2 : Below w.heap.size w w2 := hY2
  go_wp2_with fail
  refine (qM _ _ hst0).mono ?_
  rintro e w3 ⟨rfl, hb3⟩
  obtain ⟨hc3, hf3⟩ := bcell hb3
  have hz3 := hb3.size
  replace hst0 := hst0.keep hb3
  replace kC := kC.keep hb3
  have hY3 := hZ2.trans (hb3.mono hZ2.size)
  have zkC_3 : w.heap.size < w3.heap.size := by omega
  have hZ3 : Below w.heap.size w w3 := hY3
  go_wp2_with fail
  refine (qG _ _ hst0).mono ?_
  rintro e w4 ⟨v4, rfl, hstG, hb4⟩
  obtain ⟨hc4, hf4⟩ := bcell hb4
  have hz4 := hb4.size
  replace hst0 := hst0.keep hb4
  replace kC := kC.keep hb4
  have hY4 := hZ3.trans (hb4.mono hZ3.size)
  have zkC_4 : w.heap.size < w4.heap.size := by omega
  replace hstG := hstG.to
  try dsimp only at hstG
  obtain ⟨AG, cG, BG, eG, rfl, hstG⟩ := hstG.form
  have hA4 := ((Below.refl w4.heap.size w4).alloc (Nat.le_refl _) (.cells #[.int .i64 cap, .slice AG psG.length cG, .slice BG tsG.length eG] 28))
  replace hst0 := hst0.keep hA4
  replace kC := kC.keep hA4
  replace hstG := hstG.keep hA4
  have kG := Blk.new_ w4 28 #[.int .i64 cap, .slice AG psG.length cG, .slice BG tsG.length eG] (w4.heap.size) (by simp)
  have hZ4 : Below w.heap.size w _ := hY4.trans (hA4.mono hY4.size)
  go_wp2_with fail
  refine (qD _ _ hst0).mono ?_
  rintro e w5 ⟨v5, rfl, hstD, hb5⟩
  obtain ⟨hc5, hf5⟩ := bcell hb5
  have hz5 := hb5.size
  simp at hz5
  replace hst0 := hst0.keep hb5
  replace kC := kC.keep hb5
  replace hstG := hstG.keep hb5
  replace kG := kG.keep hb5
  have hY5 := hZ4.trans (hb5.mono hZ4.size)
  have zkC_5 : w.heap.size < w5.heap.size := by omega
  have zkG_5 : w4.heap.size < w5.heap.size := by omega
  replace hstD := hstD.to
  try dsimp only at hstD
  obtain ⟨AD, cD, BD, eD, rfl, hstD⟩ := hstD.form
  have hA5 := ((Below.refl w5.heap.size w5).alloc (Nat.le_refl _) (.cells #[.int .i64 cap, .slice AD psD.length cD, .slice BD tsD.length eD] 28))
  replace hst0 := hst0.keep hA5
  replace kC := kC.keep hA5
  replace hstG := hstG.keep hA5
  replace kG := kG.keep hA5
  replace hstD := hstD.keep hA5
  have kD := Blk.new_ w5 28 #[.int .i64 cap, .slice AD psD.length cD, .slice BD tsD.length eD] (w5.heap.size) (by simp)
  have hZ5 : Below w.heap.size w _ := hY5.trans (hA5.mono hY5.size)
  go_wp2_with fail
  refine (q1 _ _ hst0).mono ?_
  rintro e w6 ⟨rfl, hb6⟩
  obtain ⟨hc6, hf6⟩ := bcell hb6
  have hz6 := hb6.size
  simp at hz6
  replace hst0 := hst0.keep hb6
  replace kC := kC.keep hb6
  replace hstG := hstG.keep hb6
  replace kG := kG.keep hb6
  replace hstD := hstD.keep hb6
  replace kD := kD.keep hb6
  have hY6 := hZ5.trans (hb6.mono hZ5.size)
  have zkC_6 : w.heap.size < w6.heap.size := by omega
  have zkG_6 : w4.heap.size < w6.heap.size := by omega
  have zkD_6 : w5.heap.size < w6.heap.size := by omega
  have hZ6 : Below w.heap.size w w6 := hY6
  go_wp2_with fail
  refine (q2 _ _ hstD).mono ?_
  rintro e w7 ⟨rfl, hb7⟩
  obtain ⟨hc7, hf7⟩ := bcell hb7
  have hz7 := hb7.size
  replace hst0 := hst0.keep hb7
  replace kC := kC.keep hb7
  replace hstG := hstG.keep hb7
  replace kG := kG.keep hb7
  replace hstD := hstD.keep hb7
  replace kD := kD.keep hb7
  have hY7 := hZ6.trans (hb7.mono hZ6.size)
  have zkC_7 : w.heap.size < w7.heap.size := by omega
  have zkG_7 : w4.heap.size < w7.heap.size := by omega
  have zkD_7 : w5.heap.size < w7.heap.size := by omega
  go_wp2
  go_ret
  exact ⟨by first | rfl | (simp [*]; done), hY7⟩

set_option maxRecDepth 100000 in
set_option maxHeartbeats 4000000 in
theorem tableFork_n_at (w : World) (A0 B0 : Option Addr) (c0 e0 : Nat) (cap : Int) (ps : List Pg) (ts : List (List Int)) (hst0 : HpV w (.agg #[.int .i64 cap, .slice A0 ps.length c0, .slice B0 ts.length e0]) cap ps ts) (t d u k : Int) (hF : fewH ps ts = true) (hM : mayH cap ps ts = true) (ln : ps.length ≤ 20) (lm : ts.length ≤ 5) (ll : ∀ t ∈ ts, t.length ≤ 4) (n eG nD eD r1 f1 r2 f2 : Int) (psG psD : List Pg) (tsG tsD : List (List Int)) (lG : psG.length ≤ 1000) (lD : psD.length ≤ 1000) (hG : forkH cap ps ts t = (n, eG, psG, tsG)) (hD : dropH cap ps ts d = (nD, eD, psD, tsD)) (h1 : readH cap ps ts u k = (r1, f1)) (h2 : readH cap psD tsD u k = (r2, f2)) (ra fa rb fb : Int) (hE2 : eG = 0) (hn : n = (ts.length : Int)) (h3 : readH cap psG tsG u k = (ra, fa)) (h4 : readH cap psG tsG n k = (rb, fb)) (h5 : readH cap psG tsG t k = (rb, fb)) (m1 : u = n) (hE : eD = 0) (g1 : u = d) (g2 : f2 = 11) :
    Calls Try.prog 7 #[.agg #[.int .i64 cap, .slice A0 ps.length c0, .slice B0 ts.length e0], .int .i64 t, .int .i64 d, .int .i64 u, .int .i64 k] w fun e w' => e = .returned (.bool true) ∧ Below w.heap.size w w' := by
  have qF := fun v W h => few_any v cap ps ts W h
  rw [hF] at qF
  have qM := fun v W h => tmay_any v cap ps ts W h (by omega)
  rw [hM] at qM
  have qG := fun x W h => Fork_any x cap ps ts t W h (by omega) (by omega) (fun t ht => by have := ll t ht; omega)
  rw [hG] at qG
  have qD := fun x W h => Drop_any x cap ps ts d W h (by omega) (by omega) (fun t ht => by have := ll t ht; omega)
  rw [hD] at qD
  have q1 := fun x W h => Read_any x cap ps ts u k W h (by omega)
  rw [h1] at q1
  have q2 := fun x W h => Read_any x cap psD tsD u k W h (by omega)
  rw [h2] at q2
  have q3 := fun x W h => Read_any x cap psG tsG u k W h (by omega)
  rw [h3] at q3
  have q4 := fun x W h => Read_any x cap psG tsG n k W h (by omega)
  rw [h4] at q4
  have q5 := fun x W h => Read_any x cap psG tsG t k W h (by omega)
  rw [h5] at q5
  clear h3 h4 h5
  clear hF hM hG hD h1 h2 ll
  subst hE2
  subst m1
  subst hE g1 g2
  subst hn
  go_enter Try.func7, Try.ntmps7
  have hA0 := ((Below.refl w.heap.size w).alloc (Nat.le_refl _) (.cells #[.int .i64 cap, .slice A0 ps.length c0, .slice B0 ts.length e0] 28))
  replace hst0 := hst0.keep hA0
  have kC := Blk.new_ w 28 #[.int .i64 cap, .slice A0 ps.length c0, .slice B0 ts.length e0] (w.heap.size) (by simp)
  have hZ0 : Below w.heap.size w _ := hA0
  go_wp2_with fail
  refine (tawake_any _).mono ?_
  rintro e w1 ⟨rfl, hb1⟩
  obtain ⟨hc1, hf1⟩ := bcell hb1
  have hz1 := hb1.size
  simp at hz1
  replace hst0 := hst0.keep hb1
  replace kC := kC.keep hb1
  have hY1 := hZ0.trans (hb1.mono hZ0.size)
  have zkC_1 : w.heap.size < w1.heap.size := by omega
  have hZ1 : Below w.heap.size w w1 := hY1
  go_wp2_with fail
  refine (qF _ _ hst0).mono ?_
  rintro e w2 ⟨rfl, hb2⟩
  obtain ⟨hc2, hf2⟩ := bcell hb2
  have hz2 := hb2.size
  replace hst0 := hst0.keep hb2
  replace kC := kC.keep hb2
  have hY2 := hZ1.trans (hb2.mono hZ1.size)
  have zkC_2 : w.heap.size < w2.heap.size := by omega
  have hZ2 : Below w.heap.size w w2 := hY2
  go_wp2_with fail
  refine (qM _ _ hst0).mono ?_
  rintro e w3 ⟨rfl, hb3⟩
  obtain ⟨hc3, hf3⟩ := bcell hb3
  have hz3 := hb3.size
  replace hst0 := hst0.keep hb3
  replace kC := kC.keep hb3
  have hY3 := hZ2.trans (hb3.mono hZ2.size)
  have zkC_3 : w.heap.size < w3.heap.size := by omega
  have hZ3 : Below w.heap.size w w3 := hY3
  go_wp2_with fail
  refine (qG _ _ hst0).mono ?_
  rintro e w4 ⟨v4, rfl, hstG, hb4⟩
  obtain ⟨hc4, hf4⟩ := bcell hb4
  have hz4 := hb4.size
  replace hst0 := hst0.keep hb4
  replace kC := kC.keep hb4
  have hY4 := hZ3.trans (hb4.mono hZ3.size)
  have zkC_4 : w.heap.size < w4.heap.size := by omega
  replace hstG := hstG.to
  try dsimp only at hstG
  obtain ⟨AG, cG, BG, eG, rfl, hstG⟩ := hstG.form
  have hA4 := ((Below.refl w4.heap.size w4).alloc (Nat.le_refl _) (.cells #[.int .i64 cap, .slice AG psG.length cG, .slice BG tsG.length eG] 28))
  replace hst0 := hst0.keep hA4
  replace kC := kC.keep hA4
  replace hstG := hstG.keep hA4
  have kG := Blk.new_ w4 28 #[.int .i64 cap, .slice AG psG.length cG, .slice BG tsG.length eG] (w4.heap.size) (by simp)
  have hZ4 : Below w.heap.size w _ := hY4.trans (hA4.mono hY4.size)
  go_wp2_with fail
  refine (qD _ _ hst0).mono ?_
  rintro e w5 ⟨v5, rfl, hstD, hb5⟩
  obtain ⟨hc5, hf5⟩ := bcell hb5
  have hz5 := hb5.size
  simp at hz5
  replace hst0 := hst0.keep hb5
  replace kC := kC.keep hb5
  replace hstG := hstG.keep hb5
  replace kG := kG.keep hb5
  have hY5 := hZ4.trans (hb5.mono hZ4.size)
  have zkC_5 : w.heap.size < w5.heap.size := by omega
  have zkG_5 : w4.heap.size < w5.heap.size := by omega
  replace hstD := hstD.to
  try dsimp only at hstD
  obtain ⟨AD, cD, BD, eD, rfl, hstD⟩ := hstD.form
  have hA5 := ((Below.refl w5.heap.size w5).alloc (Nat.le_refl _) (.cells #[.int .i64 cap, .slice AD psD.length cD, .slice BD tsD.length eD] 28))
  replace hst0 := hst0.keep hA5
  replace kC := kC.keep hA5
  replace hstG := hstG.keep hA5
  replace kG := kG.keep hA5
  replace hstD := hstD.keep hA5
  have kD := Blk.new_ w5 28 #[.int .i64 cap, .slice AD psD.length cD, .slice BD tsD.length eD] (w5.heap.size) (by simp)
  have hZ5 : Below w.heap.size w _ := hY5.trans (hA5.mono hY5.size)
  go_wp2_with fail
  refine (q1 _ _ hst0).mono ?_
  rintro e w6 ⟨rfl, hb6⟩
  obtain ⟨hc6, hf6⟩ := bcell hb6
  have hz6 := hb6.size
  simp at hz6
  replace hst0 := hst0.keep hb6
  replace kC := kC.keep hb6
  replace hstG := hstG.keep hb6
  replace kG := kG.keep hb6
  replace hstD := hstD.keep hb6
  replace kD := kD.keep hb6
  have hY6 := hZ5.trans (hb6.mono hZ5.size)
  have zkC_6 : w.heap.size < w6.heap.size := by omega
  have zkG_6 : w4.heap.size < w6.heap.size := by omega
  have zkD_6 : w5.heap.size < w6.heap.size := by omega
  have hZ6 : Below w.heap.size w w6 := hY6
  go_wp2_with fail
  refine (q3 _ _ hstG).mono ?_
  rintro e w7 ⟨rfl, hb7⟩
  obtain ⟨hc7, hf7⟩ := bcell hb7
  have hz7 := hb7.size
  replace hst0 := hst0.keep hb7
  replace kC := kC.keep hb7
  replace hstG := hstG.keep hb7
  replace kG := kG.keep hb7
  replace hstD := hstD.keep hb7
  replace kD := kD.keep hb7
  have hY7 := hZ6.trans (hb7.mono hZ6.size)
  have zkC_7 : w.heap.size < w7.heap.size := by omega
  have zkG_7 : w4.heap.size < w7.heap.size := by omega
  have zkD_7 : w5.heap.size < w7.heap.size := by omega
  have hZ7 : Below w.heap.size w w7 := hY7
  go_wp2_with fail
  refine (q4 _ _ hstG).mono ?_
  rintro e w8 ⟨rfl, hb8⟩
  obtain ⟨hc8, hf8⟩ := bcell hb8
  have hz8 := hb8.size
  replace hst0 := hst0.keep hb8
  replace kC := kC.keep hb8
  replace hstG := hstG.keep hb8
  replace kG := kG.keep hb8
  replace hstD := hstD.keep hb8
  replace kD := kD.keep hb8
  have hY8 := hZ7.trans (hb8.mono hZ7.size)
  have zkC_8 : w.heap.size < w8.heap.size := by omega
  have zkG_8 : w4.heap.size < w8.heap.size := by omega
  have zkD_8 : w5.heap.size < w8.heap.size := by omega
  have hZ8 : Below w.heap.size w w8 := hY8
  go_wp2_with fail
  refine (q5 _ _ hstG).mono ?_
  rintro e w9 ⟨rfl, hb9⟩
  obtain ⟨hc9, hf9⟩ := bcell hb9
  have hz9 := hb9.size
  replace hst0 := hst0.keep hb9
  replace kC := kC.keep hb9
  replace hstG := hstG.keep hb9
  replace kG := kG.keep hb9
  replace hstD := hstD.keep hb9
  replace kD := kD.keep hb9
  have hY9 := hZ8.trans (hb9.mono hZ8.size)
  have zkC_9 : w.heap.size < w9.heap.size := by omega
  have zkG_9 : w4.heap.size < w9.heap.size := by omega
  have zkD_9 : w5.heap.size < w9.heap.size := by omega
  have kC_0 : w9.cell? ⟨w.heap.size, 0, none⟩ = some (.int .i64 cap) := by rw [kC.cell]; rfl
  have kC_1 : w9.cell? ⟨w.heap.size, 1, none⟩ = some (.slice A0 ps.length c0) := by rw [kC.cell]; rfl
  have kC_2 : w9.cell? ⟨w.heap.size, 2, none⟩ = some (.slice B0 ts.length e0) := by rw [kC.cell]; rfl
  have kG_0 : w9.cell? ⟨w4.heap.size, 0, none⟩ = some (.int .i64 cap) := by rw [kG.cell]; rfl
  have kG_1 : w9.cell? ⟨w4.heap.size, 1, none⟩ = some (.slice AG psG.length cG) := by rw [kG.cell]; rfl
  have kG_2 : w9.cell? ⟨w4.heap.size, 2, none⟩ = some (.slice BG tsG.length eG) := by rw [kG.cell]; rfl
  have kD_0 : w9.cell? ⟨w5.heap.size, 0, none⟩ = some (.int .i64 cap) := by rw [kD.cell]; rfl
  have kD_1 : w9.cell? ⟨w5.heap.size, 1, none⟩ = some (.slice AD psD.length cD) := by rw [kD.cell]; rfl
  have kD_2 : w9.cell? ⟨w5.heap.size, 2, none⟩ = some (.slice BD tsD.length eD) := by rw [kD.cell]; rfl
  have hZ9 : Below w.heap.size w w9 := hY9
  go_wp2_with fail
  refine (q2 _ _ hstD).mono ?_
  rintro e w10 ⟨rfl, hb10⟩
  obtain ⟨hc10, hf10⟩ := bcell hb10
  have hz10 := hb10.size
  replace hst0 := hst0.keep hb10
  replace kC := kC.keep hb10
  replace hstG := hstG.keep hb10
  replace kG := kG.keep hb10
  replace hstD := hstD.keep hb10
  replace kD := kD.keep hb10
  have hY10 := hZ9.trans (hb10.mono hZ9.size)
  have zkC_10 : w.heap.size < w10.heap.size := by omega
  have zkG_10 : w4.heap.size < w10.heap.size := by omega
  have zkD_10 : w5.heap.size < w10.heap.size := by omega
  go_wp2
  go_ret
  exact ⟨by first | rfl | (simp [*]; done), hY10⟩

set_option maxRecDepth 100000 in
set_option maxHeartbeats 4000000 in
theorem tableFork_u_at (w : World) (A0 B0 : Option Addr) (c0 e0 : Nat) (cap : Int) (ps : List Pg) (ts : List (List Int)) (hst0 : HpV w (.agg #[.int .i64 cap, .slice A0 ps.length c0, .slice B0 ts.length e0]) cap ps ts) (t d u k : Int) (hF : fewH ps ts = true) (hM : mayH cap ps ts = true) (ln : ps.length ≤ 20) (lm : ts.length ≤ 5) (ll : ∀ t ∈ ts, t.length ≤ 4) (n eG nD eD r1 f1 r2 f2 : Int) (psG psD : List Pg) (tsG tsD : List (List Int)) (lG : psG.length ≤ 1000) (lD : psD.length ≤ 1000) (hG : forkH cap ps ts t = (n, eG, psG, tsG)) (hD : dropH cap ps ts d = (nD, eD, psD, tsD)) (h1 : readH cap ps ts u k = (r1, f1)) (h2 : readH cap psD tsD u k = (r2, f2)) (ra fa rb fb : Int) (hE2 : eG = 0) (hn : n = (ts.length : Int)) (h3 : readH cap psG tsG u k = (ra, fa)) (h4 : readH cap psG tsG n k = (rb, fb)) (h5 : readH cap psG tsG t k = (rb, fb)) (m1 : (u != n) = true) (m2 : ra = r1) (m3 : fa = f1) (hE : eD = 0) (g1 : u = d) (g2 : f2 = 11) :
    Calls Try.prog 7 #[.agg #[.int .i64 cap, .slice A0 ps.length c0, .slice B0 ts.length e0], .int .i64 t, .int .i64 d, .int .i64 u, .int .i64 k] w fun e w' => e = .returned (.bool true) ∧ Below w.heap.size w w' := by
  have qF := fun v W h => few_any v cap ps ts W h
  rw [hF] at qF
  have qM := fun v W h => tmay_any v cap ps ts W h (by omega)
  rw [hM] at qM
  have qG := fun x W h => Fork_any x cap ps ts t W h (by omega) (by omega) (fun t ht => by have := ll t ht; omega)
  rw [hG] at qG
  have qD := fun x W h => Drop_any x cap ps ts d W h (by omega) (by omega) (fun t ht => by have := ll t ht; omega)
  rw [hD] at qD
  have q1 := fun x W h => Read_any x cap ps ts u k W h (by omega)
  rw [h1] at q1
  have q2 := fun x W h => Read_any x cap psD tsD u k W h (by omega)
  rw [h2] at q2
  have q3 := fun x W h => Read_any x cap psG tsG u k W h (by omega)
  rw [h3] at q3
  have q4 := fun x W h => Read_any x cap psG tsG n k W h (by omega)
  rw [h4] at q4
  have q5 := fun x W h => Read_any x cap psG tsG t k W h (by omega)
  rw [h5] at q5
  clear h3 h4 h5
  clear hF hM hG hD h1 h2 ll
  subst hE2
  subst m2 m3
  subst hE g1 g2
  subst hn
  go_enter Try.func7, Try.ntmps7
  have hA0 := ((Below.refl w.heap.size w).alloc (Nat.le_refl _) (.cells #[.int .i64 cap, .slice A0 ps.length c0, .slice B0 ts.length e0] 28))
  replace hst0 := hst0.keep hA0
  have kC := Blk.new_ w 28 #[.int .i64 cap, .slice A0 ps.length c0, .slice B0 ts.length e0] (w.heap.size) (by simp)
  have hZ0 : Below w.heap.size w _ := hA0
  go_wp2_with fail
  refine (tawake_any _).mono ?_
  rintro e w1 ⟨rfl, hb1⟩
  obtain ⟨hc1, hf1⟩ := bcell hb1
  have hz1 := hb1.size
  simp at hz1
  replace hst0 := hst0.keep hb1
  replace kC := kC.keep hb1
  have hY1 := hZ0.trans (hb1.mono hZ0.size)
  have zkC_1 : w.heap.size < w1.heap.size := by omega
  have hZ1 : Below w.heap.size w w1 := hY1
  go_wp2_with fail
  refine (qF _ _ hst0).mono ?_
  rintro e w2 ⟨rfl, hb2⟩
  obtain ⟨hc2, hf2⟩ := bcell hb2
  have hz2 := hb2.size
  replace hst0 := hst0.keep hb2
  replace kC := kC.keep hb2
  have hY2 := hZ1.trans (hb2.mono hZ1.size)
  have zkC_2 : w.heap.size < w2.heap.size := by omega
  have hZ2 : Below w.heap.size w w2 := hY2
  go_wp2_with fail
  refine (qM _ _ hst0).mono ?_
  rintro e w3 ⟨rfl, hb3⟩
  obtain ⟨hc3, hf3⟩ := bcell hb3
  have hz3 := hb3.size
  replace hst0 := hst0.keep hb3
  replace kC := kC.keep hb3
  have hY3 := hZ2.trans (hb3.mono hZ2.size)
  have zkC_3 : w.heap.size < w3.heap.size := by omega
  have hZ3 : Below w.heap.size w w3 := hY3
  go_wp2_with fail
  refine (qG _ _ hst0).mono ?_
  rintro e w4 ⟨v4, rfl, hstG, hb4⟩
  obtain ⟨hc4, hf4⟩ := bcell hb4
  have hz4 := hb4.size
  replace hst0 := hst0.keep hb4
  replace kC := kC.keep hb4
  have hY4 := hZ3.trans (hb4.mono hZ3.size)
  have zkC_4 : w.heap.size < w4.heap.size := by omega
  replace hstG := hstG.to
  try dsimp only at hstG
  obtain ⟨AG, cG, BG, eG, rfl, hstG⟩ := hstG.form
  have hA4 := ((Below.refl w4.heap.size w4).alloc (Nat.le_refl _) (.cells #[.int .i64 cap, .slice AG psG.length cG, .slice BG tsG.length eG] 28))
  replace hst0 := hst0.keep hA4
  replace kC := kC.keep hA4
  replace hstG := hstG.keep hA4
  have kG := Blk.new_ w4 28 #[.int .i64 cap, .slice AG psG.length cG, .slice BG tsG.length eG] (w4.heap.size) (by simp)
  have hZ4 : Below w.heap.size w _ := hY4.trans (hA4.mono hY4.size)
  go_wp2_with fail
  refine (qD _ _ hst0).mono ?_
  rintro e w5 ⟨v5, rfl, hstD, hb5⟩
  obtain ⟨hc5, hf5⟩ := bcell hb5
  have hz5 := hb5.size
  simp at hz5
  replace hst0 := hst0.keep hb5
  replace kC := kC.keep hb5
  replace hstG := hstG.keep hb5
  replace kG := kG.keep hb5
  have hY5 := hZ4.trans (hb5.mono hZ4.size)
  have zkC_5 : w.heap.size < w5.heap.size := by omega
  have zkG_5 : w4.heap.size < w5.heap.size := by omega
  replace hstD := hstD.to
  try dsimp only at hstD
  obtain ⟨AD, cD, BD, eD, rfl, hstD⟩ := hstD.form
  have hA5 := ((Below.refl w5.heap.size w5).alloc (Nat.le_refl _) (.cells #[.int .i64 cap, .slice AD psD.length cD, .slice BD tsD.length eD] 28))
  replace hst0 := hst0.keep hA5
  replace kC := kC.keep hA5
  replace hstG := hstG.keep hA5
  replace kG := kG.keep hA5
  replace hstD := hstD.keep hA5
  have kD := Blk.new_ w5 28 #[.int .i64 cap, .slice AD psD.length cD, .slice BD tsD.length eD] (w5.heap.size) (by simp)
  have hZ5 : Below w.heap.size w _ := hY5.trans (hA5.mono hY5.size)
  go_wp2_with fail
  refine (q1 _ _ hst0).mono ?_
  rintro e w6 ⟨rfl, hb6⟩
  obtain ⟨hc6, hf6⟩ := bcell hb6
  have hz6 := hb6.size
  simp at hz6
  replace hst0 := hst0.keep hb6
  replace kC := kC.keep hb6
  replace hstG := hstG.keep hb6
  replace kG := kG.keep hb6
  replace hstD := hstD.keep hb6
  replace kD := kD.keep hb6
  have hY6 := hZ5.trans (hb6.mono hZ5.size)
  have zkC_6 : w.heap.size < w6.heap.size := by omega
  have zkG_6 : w4.heap.size < w6.heap.size := by omega
  have zkD_6 : w5.heap.size < w6.heap.size := by omega
  have hZ6 : Below w.heap.size w w6 := hY6
  go_wp2_with fail
  refine (q3 _ _ hstG).mono ?_
  rintro e w7 ⟨rfl, hb7⟩
  obtain ⟨hc7, hf7⟩ := bcell hb7
  have hz7 := hb7.size
  replace hst0 := hst0.keep hb7
  replace kC := kC.keep hb7
  replace hstG := hstG.keep hb7
  replace kG := kG.keep hb7
  replace hstD := hstD.keep hb7
  replace kD := kD.keep hb7
  have hY7 := hZ6.trans (hb7.mono hZ6.size)
  have zkC_7 : w.heap.size < w7.heap.size := by omega
  have zkG_7 : w4.heap.size < w7.heap.size := by omega
  have zkD_7 : w5.heap.size < w7.heap.size := by omega
  have hZ7 : Below w.heap.size w w7 := hY7
  go_wp2_with fail
  refine (q4 _ _ hstG).mono ?_
  rintro e w8 ⟨rfl, hb8⟩
  obtain ⟨hc8, hf8⟩ := bcell hb8
  have hz8 := hb8.size
  replace hst0 := hst0.keep hb8
  replace kC := kC.keep hb8
  replace hstG := hstG.keep hb8
  replace kG := kG.keep hb8
  replace hstD := hstD.keep hb8
  replace kD := kD.keep hb8
  have hY8 := hZ7.trans (hb8.mono hZ7.size)
  have zkC_8 : w.heap.size < w8.heap.size := by omega
  have zkG_8 : w4.heap.size < w8.heap.size := by omega
  have zkD_8 : w5.heap.size < w8.heap.size := by omega
  have hZ8 : Below w.heap.size w w8 := hY8
  go_wp2_with fail
  refine (q5 _ _ hstG).mono ?_
  rintro e w9 ⟨rfl, hb9⟩
  obtain ⟨hc9, hf9⟩ := bcell hb9
  have hz9 := hb9.size
  replace hst0 := hst0.keep hb9
  replace kC := kC.keep hb9
  replace hstG := hstG.keep hb9
  replace kG := kG.keep hb9
  replace hstD := hstD.keep hb9
  replace kD := kD.keep hb9
  have hY9 := hZ8.trans (hb9.mono hZ8.size)
  have zkC_9 : w.heap.size < w9.heap.size := by omega
  have zkG_9 : w4.heap.size < w9.heap.size := by omega
  have zkD_9 : w5.heap.size < w9.heap.size := by omega
  have kC_0 : w9.cell? ⟨w.heap.size, 0, none⟩ = some (.int .i64 cap) := by rw [kC.cell]; rfl
  have kC_1 : w9.cell? ⟨w.heap.size, 1, none⟩ = some (.slice A0 ps.length c0) := by rw [kC.cell]; rfl
  have kC_2 : w9.cell? ⟨w.heap.size, 2, none⟩ = some (.slice B0 ts.length e0) := by rw [kC.cell]; rfl
  have kG_0 : w9.cell? ⟨w4.heap.size, 0, none⟩ = some (.int .i64 cap) := by rw [kG.cell]; rfl
  have kG_1 : w9.cell? ⟨w4.heap.size, 1, none⟩ = some (.slice AG psG.length cG) := by rw [kG.cell]; rfl
  have kG_2 : w9.cell? ⟨w4.heap.size, 2, none⟩ = some (.slice BG tsG.length eG) := by rw [kG.cell]; rfl
  have kD_0 : w9.cell? ⟨w5.heap.size, 0, none⟩ = some (.int .i64 cap) := by rw [kD.cell]; rfl
  have kD_1 : w9.cell? ⟨w5.heap.size, 1, none⟩ = some (.slice AD psD.length cD) := by rw [kD.cell]; rfl
  have kD_2 : w9.cell? ⟨w5.heap.size, 2, none⟩ = some (.slice BD tsD.length eD) := by rw [kD.cell]; rfl
  have hZ9 : Below w.heap.size w w9 := hY9
  go_wp2_with fail
  refine (q2 _ _ hstD).mono ?_
  rintro e w10 ⟨rfl, hb10⟩
  obtain ⟨hc10, hf10⟩ := bcell hb10
  have hz10 := hb10.size
  replace hst0 := hst0.keep hb10
  replace kC := kC.keep hb10
  replace hstG := hstG.keep hb10
  replace kG := kG.keep hb10
  replace hstD := hstD.keep hb10
  replace kD := kD.keep hb10
  have hY10 := hZ9.trans (hb10.mono hZ9.size)
  have zkC_10 : w.heap.size < w10.heap.size := by omega
  have zkG_10 : w4.heap.size < w10.heap.size := by omega
  have zkD_10 : w5.heap.size < w10.heap.size := by omega
  go_wp2
  go_ret
  exact ⟨by first | rfl | (simp [*]; done), hY10⟩

set_option maxRecDepth 100000 in
set_option maxHeartbeats 4000000 in
theorem tableFork_no_other (w : World) (A0 B0 : Option Addr) (c0 e0 : Nat) (cap : Int) (ps : List Pg) (ts : List (List Int)) (hst0 : HpV w (.agg #[.int .i64 cap, .slice A0 ps.length c0, .slice B0 ts.length e0]) cap ps ts) (t d u k : Int) (hF : fewH ps ts = true) (hM : mayH cap ps ts = true) (ln : ps.length ≤ 20) (lm : ts.length ≤ 5) (ll : ∀ t ∈ ts, t.length ≤ 4) (n eG nD eD r1 f1 r2 f2 : Int) (psG psD : List Pg) (tsG tsD : List (List Int)) (lG : psG.length ≤ 1000) (lD : psD.length ≤ 1000) (hG : forkH cap ps ts t = (n, eG, psG, tsG)) (hD : dropH cap ps ts d = (nD, eD, psD, tsD)) (h1 : readH cap ps ts u k = (r1, f1)) (h2 : readH cap psD tsD u k = (r2, f2)) (hE2 : (eG == 0) = false) (hE : eD = 0) (g1 : (u == d) = false) (g2 : r2 = r1) (g3 : f1 = f2) :
    Calls Try.prog 7 #[.agg #[.int .i64 cap, .slice A0 ps.length c0, .slice B0 ts.length e0], .int .i64 t, .int .i64 d, .int .i64 u, .int .i64 k] w fun e w' => e = .returned (.bool true) ∧ Below w.heap.size w w' := by
  have qF := fun v W h => few_any v cap ps ts W h
  rw [hF] at qF
  have qM := fun v W h => tmay_any v cap ps ts W h (by omega)
  rw [hM] at qM
  have qG := fun x W h => Fork_any x cap ps ts t W h (by omega) (by omega) (fun t ht => by have := ll t ht; omega)
  rw [hG] at qG
  have qD := fun x W h => Drop_any x cap ps ts d W h (by omega) (by omega) (fun t ht => by have := ll t ht; omega)
  rw [hD] at qD
  have q1 := fun x W h => Read_any x cap ps ts u k W h (by omega)
  rw [h1] at q1
  have q2 := fun x W h => Read_any x cap psD tsD u k W h (by omega)
  rw [h2] at q2
  clear hF hM hG hD h1 h2 ll
  subst hE g2 g3
  have g1' : (u != d) = true := by simpa using g1
  go_enter Try.func7, Try.ntmps7
  have hA0 := ((Below.refl w.heap.size w).alloc (Nat.le_refl _) (.cells #[.int .i64 cap, .slice A0 ps.length c0, .slice B0 ts.length e0] 28))
  replace hst0 := hst0.keep hA0
  have kC := Blk.new_ w 28 #[.int .i64 cap, .slice A0 ps.length c0, .slice B0 ts.length e0] (w.heap.size) (by simp)
  have hZ0 : Below w.heap.size w _ := hA0
  go_wp2_with fail
  refine (tawake_any _).mono ?_
  rintro e w1 ⟨rfl, hb1⟩
  obtain ⟨hc1, hf1⟩ := bcell hb1
  have hz1 := hb1.size
  simp at hz1
  replace hst0 := hst0.keep hb1
  replace kC := kC.keep hb1
  have hY1 := hZ0.trans (hb1.mono hZ0.size)
  have zkC_1 : w.heap.size < w1.heap.size := by omega
  have hZ1 : Below w.heap.size w w1 := hY1
  go_wp2_with fail
  refine (qF _ _ hst0).mono ?_
  rintro e w2 ⟨rfl, hb2⟩
  obtain ⟨hc2, hf2⟩ := bcell hb2
  have hz2 := hb2.size
  replace hst0 := hst0.keep hb2
  replace kC := kC.keep hb2
  have hY2 := hZ1.trans (hb2.mono hZ1.size)
  have zkC_2 : w.heap.size < w2.heap.size := by omega
  have hZ2 : Below w.heap.size w w2 := hY2
  go_wp2_with fail
  refine (qM _ _ hst0).mono ?_
  rintro e w3 ⟨rfl, hb3⟩
  obtain ⟨hc3, hf3⟩ := bcell hb3
  have hz3 := hb3.size
  replace hst0 := hst0.keep hb3
  replace kC := kC.keep hb3
  have hY3 := hZ2.trans (hb3.mono hZ2.size)
  have zkC_3 : w.heap.size < w3.heap.size := by omega
  have hZ3 : Below w.heap.size w w3 := hY3
  go_wp2_with fail
  refine (qG _ _ hst0).mono ?_
  rintro e w4 ⟨v4, rfl, hstG, hb4⟩
  obtain ⟨hc4, hf4⟩ := bcell hb4
  have hz4 := hb4.size
  replace hst0 := hst0.keep hb4
  replace kC := kC.keep hb4
  have hY4 := hZ3.trans (hb4.mono hZ3.size)
  have zkC_4 : w.heap.size < w4.heap.size := by omega
  replace hstG := hstG.to
  try dsimp only at hstG
  obtain ⟨AG, cG, BG, eG, rfl, hstG⟩ := hstG.form
  have hA4 := ((Below.refl w4.heap.size w4).alloc (Nat.le_refl _) (.cells #[.int .i64 cap, .slice AG psG.length cG, .slice BG tsG.length eG] 28))
  replace hst0 := hst0.keep hA4
  replace kC := kC.keep hA4
  replace hstG := hstG.keep hA4
  have kG := Blk.new_ w4 28 #[.int .i64 cap, .slice AG psG.length cG, .slice BG tsG.length eG] (w4.heap.size) (by simp)
  have hZ4 : Below w.heap.size w _ := hY4.trans (hA4.mono hY4.size)
  go_wp2_with fail
  refine (qD _ _ hst0).mono ?_
  rintro e w5 ⟨v5, rfl, hstD, hb5⟩
  obtain ⟨hc5, hf5⟩ := bcell hb5
  have hz5 := hb5.size
  simp at hz5
  replace hst0 := hst0.keep hb5
  replace kC := kC.keep hb5
  replace hstG := hstG.keep hb5
  replace kG := kG.keep hb5
  have hY5 := hZ4.trans (hb5.mono hZ4.size)
  have zkC_5 : w.heap.size < w5.heap.size := by omega
  have zkG_5 : w4.heap.size < w5.heap.size := by omega
  replace hstD := hstD.to
  try dsimp only at hstD
  obtain ⟨AD, cD, BD, eD, rfl, hstD⟩ := hstD.form
  have hA5 := ((Below.refl w5.heap.size w5).alloc (Nat.le_refl _) (.cells #[.int .i64 cap, .slice AD psD.length cD, .slice BD tsD.length eD] 28))
  replace hst0 := hst0.keep hA5
  replace kC := kC.keep hA5
  replace hstG := hstG.keep hA5
  replace kG := kG.keep hA5
  replace hstD := hstD.keep hA5
  have kD := Blk.new_ w5 28 #[.int .i64 cap, .slice AD psD.length cD, .slice BD tsD.length eD] (w5.heap.size) (by simp)
  have hZ5 : Below w.heap.size w _ := hY5.trans (hA5.mono hY5.size)
  go_wp2_with fail
  refine (q1 _ _ hst0).mono ?_
  rintro e w6 ⟨rfl, hb6⟩
  obtain ⟨hc6, hf6⟩ := bcell hb6
  have hz6 := hb6.size
  simp at hz6
  replace hst0 := hst0.keep hb6
  replace kC := kC.keep hb6
  replace hstG := hstG.keep hb6
  replace kG := kG.keep hb6
  replace hstD := hstD.keep hb6
  replace kD := kD.keep hb6
  have hY6 := hZ5.trans (hb6.mono hZ5.size)
  have zkC_6 : w.heap.size < w6.heap.size := by omega
  have zkG_6 : w4.heap.size < w6.heap.size := by omega
  have zkD_6 : w5.heap.size < w6.heap.size := by omega
  have hZ6 : Below w.heap.size w w6 := hY6
  go_wp2_with fail
  refine (q2 _ _ hstD).mono ?_
  rintro e w7 ⟨rfl, hb7⟩
  obtain ⟨hc7, hf7⟩ := bcell hb7
  have hz7 := hb7.size
  replace hst0 := hst0.keep hb7
  replace kC := kC.keep hb7
  replace hstG := hstG.keep hb7
  replace kG := kG.keep hb7
  replace hstD := hstD.keep hb7
  replace kD := kD.keep hb7
  have hY7 := hZ6.trans (hb7.mono hZ6.size)
  have zkC_7 : w.heap.size < w7.heap.size := by omega
  have zkG_7 : w4.heap.size < w7.heap.size := by omega
  have zkD_7 : w5.heap.size < w7.heap.size := by omega
  go_wp2
  go_ret
  exact ⟨by first | rfl | (simp [*]; done), hY7⟩

set_option maxRecDepth 100000 in
set_option maxHeartbeats 4000000 in
theorem tableFork_n_other (w : World) (A0 B0 : Option Addr) (c0 e0 : Nat) (cap : Int) (ps : List Pg) (ts : List (List Int)) (hst0 : HpV w (.agg #[.int .i64 cap, .slice A0 ps.length c0, .slice B0 ts.length e0]) cap ps ts) (t d u k : Int) (hF : fewH ps ts = true) (hM : mayH cap ps ts = true) (ln : ps.length ≤ 20) (lm : ts.length ≤ 5) (ll : ∀ t ∈ ts, t.length ≤ 4) (n eG nD eD r1 f1 r2 f2 : Int) (psG psD : List Pg) (tsG tsD : List (List Int)) (lG : psG.length ≤ 1000) (lD : psD.length ≤ 1000) (hG : forkH cap ps ts t = (n, eG, psG, tsG)) (hD : dropH cap ps ts d = (nD, eD, psD, tsD)) (h1 : readH cap ps ts u k = (r1, f1)) (h2 : readH cap psD tsD u k = (r2, f2)) (ra fa rb fb : Int) (hE2 : eG = 0) (hn : n = (ts.length : Int)) (h3 : readH cap psG tsG u k = (ra, fa)) (h4 : readH cap psG tsG n k = (rb, fb)) (h5 : readH cap psG tsG t k = (rb, fb)) (m1 : u = n) (hE : eD = 0) (g1 : (u == d) = false) (g2 : r2 = r1) (g3 : f1 = f2) :
    Calls Try.prog 7 #[.agg #[.int .i64 cap, .slice A0 ps.length c0, .slice B0 ts.length e0], .int .i64 t, .int .i64 d, .int .i64 u, .int .i64 k] w fun e w' => e = .returned (.bool true) ∧ Below w.heap.size w w' := by
  have qF := fun v W h => few_any v cap ps ts W h
  rw [hF] at qF
  have qM := fun v W h => tmay_any v cap ps ts W h (by omega)
  rw [hM] at qM
  have qG := fun x W h => Fork_any x cap ps ts t W h (by omega) (by omega) (fun t ht => by have := ll t ht; omega)
  rw [hG] at qG
  have qD := fun x W h => Drop_any x cap ps ts d W h (by omega) (by omega) (fun t ht => by have := ll t ht; omega)
  rw [hD] at qD
  have q1 := fun x W h => Read_any x cap ps ts u k W h (by omega)
  rw [h1] at q1
  have q2 := fun x W h => Read_any x cap psD tsD u k W h (by omega)
  rw [h2] at q2
  have q3 := fun x W h => Read_any x cap psG tsG u k W h (by omega)
  rw [h3] at q3
  have q4 := fun x W h => Read_any x cap psG tsG n k W h (by omega)
  rw [h4] at q4
  have q5 := fun x W h => Read_any x cap psG tsG t k W h (by omega)
  rw [h5] at q5
  clear h3 h4 h5
  clear hF hM hG hD h1 h2 ll
  subst hE2
  subst m1
  subst hE g2 g3
  have g1' : (u != d) = true := by simpa using g1
  subst hn
  go_enter Try.func7, Try.ntmps7
  have hA0 := ((Below.refl w.heap.size w).alloc (Nat.le_refl _) (.cells #[.int .i64 cap, .slice A0 ps.length c0, .slice B0 ts.length e0] 28))
  replace hst0 := hst0.keep hA0
  have kC := Blk.new_ w 28 #[.int .i64 cap, .slice A0 ps.length c0, .slice B0 ts.length e0] (w.heap.size) (by simp)
  have hZ0 : Below w.heap.size w _ := hA0
  go_wp2_with fail
  refine (tawake_any _).mono ?_
  rintro e w1 ⟨rfl, hb1⟩
  obtain ⟨hc1, hf1⟩ := bcell hb1
  have hz1 := hb1.size
  simp at hz1
  replace hst0 := hst0.keep hb1
  replace kC := kC.keep hb1
  have hY1 := hZ0.trans (hb1.mono hZ0.size)
  have zkC_1 : w.heap.size < w1.heap.size := by omega
  have hZ1 : Below w.heap.size w w1 := hY1
  go_wp2_with fail
  refine (qF _ _ hst0).mono ?_
  rintro e w2 ⟨rfl, hb2⟩
  obtain ⟨hc2, hf2⟩ := bcell hb2
  have hz2 := hb2.size
  replace hst0 := hst0.keep hb2
  replace kC := kC.keep hb2
  have hY2 := hZ1.trans (hb2.mono hZ1.size)
  have zkC_2 : w.heap.size < w2.heap.size := by omega
  have hZ2 : Below w.heap.size w w2 := hY2
  go_wp2_with fail
  refine (qM _ _ hst0).mono ?_
  rintro e w3 ⟨rfl, hb3⟩
  obtain ⟨hc3, hf3⟩ := bcell hb3
  have hz3 := hb3.size
  replace hst0 := hst0.keep hb3
  replace kC := kC.keep hb3
  have hY3 := hZ2.trans (hb3.mono hZ2.size)
  have zkC_3 : w.heap.size < w3.heap.size := by omega
  have hZ3 : Below w.heap.size w w3 := hY3
  go_wp2_with fail
  refine (qG _ _ hst0).mono ?_
  rintro e w4 ⟨v4, rfl, hstG, hb4⟩
  obtain ⟨hc4, hf4⟩ := bcell hb4
  have hz4 := hb4.size
  replace hst0 := hst0.keep hb4
  replace kC := kC.keep hb4
  have hY4 := hZ3.trans (hb4.mono hZ3.size)
  have zkC_4 : w.heap.size < w4.heap.size := by omega
  replace hstG := hstG.to
  try dsimp only at hstG
  obtain ⟨AG, cG, BG, eG, rfl, hstG⟩ := hstG.form
  have hA4 := ((Below.refl w4.heap.size w4).alloc (Nat.le_refl _) (.cells #[.int .i64 cap, .slice AG psG.length cG, .slice BG tsG.length eG] 28))
  replace hst0 := hst0.keep hA4
  replace kC := kC.keep hA4
  replace hstG := hstG.keep hA4
  have kG := Blk.new_ w4 28 #[.int .i64 cap, .slice AG psG.length cG, .slice BG tsG.length eG] (w4.heap.size) (by simp)
  have hZ4 : Below w.heap.size w _ := hY4.trans (hA4.mono hY4.size)
  go_wp2_with fail
  refine (qD _ _ hst0).mono ?_
  rintro e w5 ⟨v5, rfl, hstD, hb5⟩
  obtain ⟨hc5, hf5⟩ := bcell hb5
  have hz5 := hb5.size
  simp at hz5
  replace hst0 := hst0.keep hb5
  replace kC := kC.keep hb5
  replace hstG := hstG.keep hb5
  replace kG := kG.keep hb5
  have hY5 := hZ4.trans (hb5.mono hZ4.size)
  have zkC_5 : w.heap.size < w5.heap.size := by omega
  have zkG_5 : w4.heap.size < w5.heap.size := by omega
  replace hstD := hstD.to
  try dsimp only at hstD
  obtain ⟨AD, cD, BD, eD, rfl, hstD⟩ := hstD.form
  have hA5 := ((Below.refl w5.heap.size w5).alloc (Nat.le_refl _) (.cells #[.int .i64 cap, .slice AD psD.length cD, .slice BD tsD.length eD] 28))
  replace hst0 := hst0.keep hA5
  replace kC := kC.keep hA5
  replace hstG := hstG.keep hA5
  replace kG := kG.keep hA5
  replace hstD := hstD.keep hA5
  have kD := Blk.new_ w5 28 #[.int .i64 cap, .slice AD psD.length cD, .slice BD tsD.length eD] (w5.heap.size) (by simp)
  have hZ5 : Below w.heap.size w _ := hY5.trans (hA5.mono hY5.size)
  go_wp2_with fail
  refine (q1 _ _ hst0).mono ?_
  rintro e w6 ⟨rfl, hb6⟩
  obtain ⟨hc6, hf6⟩ := bcell hb6
  have hz6 := hb6.size
  simp at hz6
  replace hst0 := hst0.keep hb6
  replace kC := kC.keep hb6
  replace hstG := hstG.keep hb6
  replace kG := kG.keep hb6
  replace hstD := hstD.keep hb6
  replace kD := kD.keep hb6
  have hY6 := hZ5.trans (hb6.mono hZ5.size)
  have zkC_6 : w.heap.size < w6.heap.size := by omega
  have zkG_6 : w4.heap.size < w6.heap.size := by omega
  have zkD_6 : w5.heap.size < w6.heap.size := by omega
  have hZ6 : Below w.heap.size w w6 := hY6
  go_wp2_with fail
  refine (q3 _ _ hstG).mono ?_
  rintro e w7 ⟨rfl, hb7⟩
  obtain ⟨hc7, hf7⟩ := bcell hb7
  have hz7 := hb7.size
  replace hst0 := hst0.keep hb7
  replace kC := kC.keep hb7
  replace hstG := hstG.keep hb7
  replace kG := kG.keep hb7
  replace hstD := hstD.keep hb7
  replace kD := kD.keep hb7
  have hY7 := hZ6.trans (hb7.mono hZ6.size)
  have zkC_7 : w.heap.size < w7.heap.size := by omega
  have zkG_7 : w4.heap.size < w7.heap.size := by omega
  have zkD_7 : w5.heap.size < w7.heap.size := by omega
  have hZ7 : Below w.heap.size w w7 := hY7
  go_wp2_with fail
  refine (q4 _ _ hstG).mono ?_
  rintro e w8 ⟨rfl, hb8⟩
  obtain ⟨hc8, hf8⟩ := bcell hb8
  have hz8 := hb8.size
  replace hst0 := hst0.keep hb8
  replace kC := kC.keep hb8
  replace hstG := hstG.keep hb8
  replace kG := kG.keep hb8
  replace hstD := hstD.keep hb8
  replace kD := kD.keep hb8
  have hY8 := hZ7.trans (hb8.mono hZ7.size)
  have zkC_8 : w.heap.size < w8.heap.size := by omega
  have zkG_8 : w4.heap.size < w8.heap.size := by omega
  have zkD_8 : w5.heap.size < w8.heap.size := by omega
  have hZ8 : Below w.heap.size w w8 := hY8
  go_wp2_with fail
  refine (q5 _ _ hstG).mono ?_
  rintro e w9 ⟨rfl, hb9⟩
  obtain ⟨hc9, hf9⟩ := bcell hb9
  have hz9 := hb9.size
  replace hst0 := hst0.keep hb9
  replace kC := kC.keep hb9
  replace hstG := hstG.keep hb9
  replace kG := kG.keep hb9
  replace hstD := hstD.keep hb9
  replace kD := kD.keep hb9
  have hY9 := hZ8.trans (hb9.mono hZ8.size)
  have zkC_9 : w.heap.size < w9.heap.size := by omega
  have zkG_9 : w4.heap.size < w9.heap.size := by omega
  have zkD_9 : w5.heap.size < w9.heap.size := by omega
  have kC_0 : w9.cell? ⟨w.heap.size, 0, none⟩ = some (.int .i64 cap) := by rw [kC.cell]; rfl
  have kC_1 : w9.cell? ⟨w.heap.size, 1, none⟩ = some (.slice A0 ps.length c0) := by rw [kC.cell]; rfl
  have kC_2 : w9.cell? ⟨w.heap.size, 2, none⟩ = some (.slice B0 ts.length e0) := by rw [kC.cell]; rfl
  have kG_0 : w9.cell? ⟨w4.heap.size, 0, none⟩ = some (.int .i64 cap) := by rw [kG.cell]; rfl
  have kG_1 : w9.cell? ⟨w4.heap.size, 1, none⟩ = some (.slice AG psG.length cG) := by rw [kG.cell]; rfl
  have kG_2 : w9.cell? ⟨w4.heap.size, 2, none⟩ = some (.slice BG tsG.length eG) := by rw [kG.cell]; rfl
  have kD_0 : w9.cell? ⟨w5.heap.size, 0, none⟩ = some (.int .i64 cap) := by rw [kD.cell]; rfl
  have kD_1 : w9.cell? ⟨w5.heap.size, 1, none⟩ = some (.slice AD psD.length cD) := by rw [kD.cell]; rfl
  have kD_2 : w9.cell? ⟨w5.heap.size, 2, none⟩ = some (.slice BD tsD.length eD) := by rw [kD.cell]; rfl
  have hZ9 : Below w.heap.size w w9 := hY9
  go_wp2_with fail
  refine (q2 _ _ hstD).mono ?_
  rintro e w10 ⟨rfl, hb10⟩
  obtain ⟨hc10, hf10⟩ := bcell hb10
  have hz10 := hb10.size
  replace hst0 := hst0.keep hb10
  replace kC := kC.keep hb10
  replace hstG := hstG.keep hb10
  replace kG := kG.keep hb10
  replace hstD := hstD.keep hb10
  replace kD := kD.keep hb10
  have hY10 := hZ9.trans (hb10.mono hZ9.size)
  have zkC_10 : w.heap.size < w10.heap.size := by omega
  have zkG_10 : w4.heap.size < w10.heap.size := by omega
  have zkD_10 : w5.heap.size < w10.heap.size := by omega
  go_wp2
  go_ret
  exact ⟨by first | rfl | (simp [*]; done), hY10⟩

set_option maxRecDepth 100000 in
set_option maxHeartbeats 4000000 in
theorem tableFork_u_other (w : World) (A0 B0 : Option Addr) (c0 e0 : Nat) (cap : Int) (ps : List Pg) (ts : List (List Int)) (hst0 : HpV w (.agg #[.int .i64 cap, .slice A0 ps.length c0, .slice B0 ts.length e0]) cap ps ts) (t d u k : Int) (hF : fewH ps ts = true) (hM : mayH cap ps ts = true) (ln : ps.length ≤ 20) (lm : ts.length ≤ 5) (ll : ∀ t ∈ ts, t.length ≤ 4) (n eG nD eD r1 f1 r2 f2 : Int) (psG psD : List Pg) (tsG tsD : List (List Int)) (lG : psG.length ≤ 1000) (lD : psD.length ≤ 1000) (hG : forkH cap ps ts t = (n, eG, psG, tsG)) (hD : dropH cap ps ts d = (nD, eD, psD, tsD)) (h1 : readH cap ps ts u k = (r1, f1)) (h2 : readH cap psD tsD u k = (r2, f2)) (ra fa rb fb : Int) (hE2 : eG = 0) (hn : n = (ts.length : Int)) (h3 : readH cap psG tsG u k = (ra, fa)) (h4 : readH cap psG tsG n k = (rb, fb)) (h5 : readH cap psG tsG t k = (rb, fb)) (m1 : (u != n) = true) (m2 : ra = r1) (m3 : fa = f1) (hE : eD = 0) (g1 : (u == d) = false) (g2 : r2 = r1) (g3 : f1 = f2) :
    Calls Try.prog 7 #[.agg #[.int .i64 cap, .slice A0 ps.length c0, .slice B0 ts.length e0], .int .i64 t, .int .i64 d, .int .i64 u, .int .i64 k] w fun e w' => e = .returned (.bool true) ∧ Below w.heap.size w w' := by
  have qF := fun v W h => few_any v cap ps ts W h
  rw [hF] at qF
  have qM := fun v W h => tmay_any v cap ps ts W h (by omega)
  rw [hM] at qM
  have qG := fun x W h => Fork_any x cap ps ts t W h (by omega) (by omega) (fun t ht => by have := ll t ht; omega)
  rw [hG] at qG
  have qD := fun x W h => Drop_any x cap ps ts d W h (by omega) (by omega) (fun t ht => by have := ll t ht; omega)
  rw [hD] at qD
  have q1 := fun x W h => Read_any x cap ps ts u k W h (by omega)
  rw [h1] at q1
  have q2 := fun x W h => Read_any x cap psD tsD u k W h (by omega)
  rw [h2] at q2
  have q3 := fun x W h => Read_any x cap psG tsG u k W h (by omega)
  rw [h3] at q3
  have q4 := fun x W h => Read_any x cap psG tsG n k W h (by omega)
  rw [h4] at q4
  have q5 := fun x W h => Read_any x cap psG tsG t k W h (by omega)
  rw [h5] at q5
  clear h3 h4 h5
  clear hF hM hG hD h1 h2 ll
  subst hE2
  subst m2 m3
  subst hE g2 g3
  have g1' : (u != d) = true := by simpa using g1
  subst hn
  go_enter Try.func7, Try.ntmps7
  have hA0 := ((Below.refl w.heap.size w).alloc (Nat.le_refl _) (.cells #[.int .i64 cap, .slice A0 ps.length c0, .slice B0 ts.length e0] 28))
  replace hst0 := hst0.keep hA0
  have kC := Blk.new_ w 28 #[.int .i64 cap, .slice A0 ps.length c0, .slice B0 ts.length e0] (w.heap.size) (by simp)
  have hZ0 : Below w.heap.size w _ := hA0
  go_wp2_with fail
  refine (tawake_any _).mono ?_
  rintro e w1 ⟨rfl, hb1⟩
  obtain ⟨hc1, hf1⟩ := bcell hb1
  have hz1 := hb1.size
  simp at hz1
  replace hst0 := hst0.keep hb1
  replace kC := kC.keep hb1
  have hY1 := hZ0.trans (hb1.mono hZ0.size)
  have zkC_1 : w.heap.size < w1.heap.size := by omega
  have hZ1 : Below w.heap.size w w1 := hY1
  go_wp2_with fail
  refine (qF _ _ hst0).mono ?_
  rintro e w2 ⟨rfl, hb2⟩
  obtain ⟨hc2, hf2⟩ := bcell hb2
  have hz2 := hb2.size
  replace hst0 := hst0.keep hb2
  replace kC := kC.keep hb2
  have hY2 := hZ1.trans (hb2.mono hZ1.size)
  have zkC_2 : w.heap.size < w2.heap.size := by omega
  have hZ2 : Below w.heap.size w w2 := hY2
  go_wp2_with fail
  refine (qM _ _ hst0).mono ?_
  rintro e w3 ⟨rfl, hb3⟩
  obtain ⟨hc3, hf3⟩ := bcell hb3
  have hz3 := hb3.size
  replace hst0 := hst0.keep hb3
  replace kC := kC.keep hb3
  have hY3 := hZ2.trans (hb3.mono hZ2.size)
  have zkC_3 : w.heap.size < w3.heap.size := by omega
  have hZ3 : Below w.heap.size w w3 := hY3
  go_wp2_with fail
  refine (qG _ _ hst0).mono ?_
  rintro e w4 ⟨v4, rfl, hstG, hb4⟩
  obtain ⟨hc4, hf4⟩ := bcell hb4
  have hz4 := hb4.size
  replace hst0 := hst0.keep hb4
  replace kC := kC.keep hb4
  have hY4 := hZ3.trans (hb4.mono hZ3.size)
  have zkC_4 : w.heap.size < w4.heap.size := by omega
  replace hstG := hstG.to
  try dsimp only at hstG
  obtain ⟨AG, cG, BG, eG, rfl, hstG⟩ := hstG.form
  have hA4 := ((Below.refl w4.heap.size w4).alloc (Nat.le_refl _) (.cells #[.int .i64 cap, .slice AG psG.length cG, .slice BG tsG.length eG] 28))
  replace hst0 := hst0.keep hA4
  replace kC := kC.keep hA4
  replace hstG := hstG.keep hA4
  have kG := Blk.new_ w4 28 #[.int .i64 cap, .slice AG psG.length cG, .slice BG tsG.length eG] (w4.heap.size) (by simp)
  have hZ4 : Below w.heap.size w _ := hY4.trans (hA4.mono hY4.size)
  go_wp2_with fail
  refine (qD _ _ hst0).mono ?_
  rintro e w5 ⟨v5, rfl, hstD, hb5⟩
  obtain ⟨hc5, hf5⟩ := bcell hb5
  have hz5 := hb5.size
  simp at hz5
  replace hst0 := hst0.keep hb5
  replace kC := kC.keep hb5
  replace hstG := hstG.keep hb5
  replace kG := kG.keep hb5
  have hY5 := hZ4.trans (hb5.mono hZ4.size)
  have zkC_5 : w.heap.size < w5.heap.size := by omega
  have zkG_5 : w4.heap.size < w5.heap.size := by omega
  replace hstD := hstD.to
  try dsimp only at hstD
  obtain ⟨AD, cD, BD, eD, rfl, hstD⟩ := hstD.form
  have hA5 := ((Below.refl w5.heap.size w5).alloc (Nat.le_refl _) (.cells #[.int .i64 cap, .slice AD psD.length cD, .slice BD tsD.length eD] 28))
  replace hst0 := hst0.keep hA5
  replace kC := kC.keep hA5
  replace hstG := hstG.keep hA5
  replace kG := kG.keep hA5
  replace hstD := hstD.keep hA5
  have kD := Blk.new_ w5 28 #[.int .i64 cap, .slice AD psD.length cD, .slice BD tsD.length eD] (w5.heap.size) (by simp)
  have hZ5 : Below w.heap.size w _ := hY5.trans (hA5.mono hY5.size)
  go_wp2_with fail
  refine (q1 _ _ hst0).mono ?_
  rintro e w6 ⟨rfl, hb6⟩
  obtain ⟨hc6, hf6⟩ := bcell hb6
  have hz6 := hb6.size
  simp at hz6
  replace hst0 := hst0.keep hb6
  replace kC := kC.keep hb6
  replace hstG := hstG.keep hb6
  replace kG := kG.keep hb6
  replace hstD := hstD.keep hb6
  replace kD := kD.keep hb6
  have hY6 := hZ5.trans (hb6.mono hZ5.size)
  have zkC_6 : w.heap.size < w6.heap.size := by omega
  have zkG_6 : w4.heap.size < w6.heap.size := by omega
  have zkD_6 : w5.heap.size < w6.heap.size := by omega
  have hZ6 : Below w.heap.size w w6 := hY6
  go_wp2_with fail
  refine (q3 _ _ hstG).mono ?_
  rintro e w7 ⟨rfl, hb7⟩
  obtain ⟨hc7, hf7⟩ := bcell hb7
  have hz7 := hb7.size
  replace hst0 := hst0.keep hb7
  replace kC := kC.keep hb7
  replace hstG := hstG.keep hb7
  replace kG := kG.keep hb7
  replace hstD := hstD.keep hb7
  replace kD := kD.keep hb7
  have hY7 := hZ6.trans (hb7.mono hZ6.size)
  have zkC_7 : w.heap.size < w7.heap.size := by omega
  have zkG_7 : w4.heap.size < w7.heap.size := by omega
  have zkD_7 : w5.heap.size < w7.heap.size := by omega
  have hZ7 : Below w.heap.size w w7 := hY7
  go_wp2_with fail
  refine (q4 _ _ hstG).mono ?_
  rintro e w8 ⟨rfl, hb8⟩
  obtain ⟨hc8, hf8⟩ := bcell hb8
  have hz8 := hb8.size
  replace hst0 := hst0.keep hb8
  replace kC := kC.keep hb8
  replace hstG := hstG.keep hb8
  replace kG := kG.keep hb8
  replace hstD := hstD.keep hb8
  replace kD := kD.keep hb8
  have hY8 := hZ7.trans (hb8.mono hZ7.size)
  have zkC_8 : w.heap.size < w8.heap.size := by omega
  have zkG_8 : w4.heap.size < w8.heap.size := by omega
  have zkD_8 : w5.heap.size < w8.heap.size := by omega
  have hZ8 : Below w.heap.size w w8 := hY8
  go_wp2_with fail
  refine (q5 _ _ hstG).mono ?_
  rintro e w9 ⟨rfl, hb9⟩
  obtain ⟨hc9, hf9⟩ := bcell hb9
  have hz9 := hb9.size
  replace hst0 := hst0.keep hb9
  replace kC := kC.keep hb9
  replace hstG := hstG.keep hb9
  replace kG := kG.keep hb9
  replace hstD := hstD.keep hb9
  replace kD := kD.keep hb9
  have hY9 := hZ8.trans (hb9.mono hZ8.size)
  have zkC_9 : w.heap.size < w9.heap.size := by omega
  have zkG_9 : w4.heap.size < w9.heap.size := by omega
  have zkD_9 : w5.heap.size < w9.heap.size := by omega
  have kC_0 : w9.cell? ⟨w.heap.size, 0, none⟩ = some (.int .i64 cap) := by rw [kC.cell]; rfl
  have kC_1 : w9.cell? ⟨w.heap.size, 1, none⟩ = some (.slice A0 ps.length c0) := by rw [kC.cell]; rfl
  have kC_2 : w9.cell? ⟨w.heap.size, 2, none⟩ = some (.slice B0 ts.length e0) := by rw [kC.cell]; rfl
  have kG_0 : w9.cell? ⟨w4.heap.size, 0, none⟩ = some (.int .i64 cap) := by rw [kG.cell]; rfl
  have kG_1 : w9.cell? ⟨w4.heap.size, 1, none⟩ = some (.slice AG psG.length cG) := by rw [kG.cell]; rfl
  have kG_2 : w9.cell? ⟨w4.heap.size, 2, none⟩ = some (.slice BG tsG.length eG) := by rw [kG.cell]; rfl
  have kD_0 : w9.cell? ⟨w5.heap.size, 0, none⟩ = some (.int .i64 cap) := by rw [kD.cell]; rfl
  have kD_1 : w9.cell? ⟨w5.heap.size, 1, none⟩ = some (.slice AD psD.length cD) := by rw [kD.cell]; rfl
  have kD_2 : w9.cell? ⟨w5.heap.size, 2, none⟩ = some (.slice BD tsD.length eD) := by rw [kD.cell]; rfl
  have hZ9 : Below w.heap.size w w9 := hY9
  go_wp2_with fail
  refine (q2 _ _ hstD).mono ?_
  rintro e w10 ⟨rfl, hb10⟩
  obtain ⟨hc10, hf10⟩ := bcell hb10
  have hz10 := hb10.size
  replace hst0 := hst0.keep hb10
  replace kC := kC.keep hb10
  replace hstG := hstG.keep hb10
  replace kG := kG.keep hb10
  replace hstD := hstD.keep hb10
  replace kD := kD.keep hb10
  have hY10 := hZ9.trans (hb10.mono hZ9.size)
  have zkC_10 : w.heap.size < w10.heap.size := by omega
  have zkG_10 : w4.heap.size < w10.heap.size := by omega
  have zkD_10 : w5.heap.size < w10.heap.size := by omega
  go_wp2
  go_ret
  exact ⟨by first | rfl | (simp [*]; done), hY10⟩

theorem tableFork_walk (w : World) (v0 : Value) (cap : Int) (ps : List Pg) (ts : List (List Int)) (hst0 : HpV w v0 cap ps ts) (_wc : okI cap) (_wp : ∀ q ∈ ps, pgOk q) (_wt : ∀ t ∈ ts, ∀ q ∈ t, okI q) (t : Int) (_w0 : (Lit.int .i64 t).wf = true) (d : Int) (_w1 : (Lit.int .i64 d).wf = true) (u : Int) (_w2 : (Lit.int .i64 u).wf = true) (k : Int) (_w3 : (Lit.int .i64 k).wf = true) :
    Calls Try.prog 7 #[v0, .int .i64 t, .int .i64 d, .int .i64 u, .int .i64 k] w fun e w' => e = .returned (.bool true) ∧ Below w.heap.size w w' := by
  obtain ⟨A0, c0, B0, e0, rfl, hst0⟩ := hst0.form
  cases hF : fewH ps ts with
  | false => exact tableFork_many w A0 B0 c0 e0 cap ps ts hst0 t d u k hF
  | true =>
  have ln : ps.length ≤ 20 := (few_iff.1 hF).2.1
  cases hM : mayH cap ps ts with
  | false => exact tableFork_bad w A0 B0 c0 e0 cap ps ts hst0 t d u k hF hM ln
  | true =>
  have HM := mayH_iff.1 hM
  have lm : ts.length ≤ 5 := HM.five
  have ll : ∀ t ∈ ts, t.length ≤ 4 := fun t ht => by rcases HM.len t ht with h | h <;> omega
  rcases hG : forkH cap ps ts t with ⟨n, eG, psG, tsG⟩
  rcases hD : dropH cap ps ts d with ⟨nD, eD, psD, tsD⟩
  rcases h1 : readH cap ps ts u k with ⟨r1, f1⟩
  rcases h2 : readH cap psD tsD u k with ⟨r2, f2⟩
  have lD : psD.length ≤ 1000 := by
    by_cases hE : eD = 0
    · have := (read_drop (cap := cap) (ps := ps) (ts := ts) (t := d) (u := u) (b := k) (by rw [hD]; exact hE)).1
      rw [hD] at this
      have := may_len this.may
      dsimp only at this
      omega
    · have := drop_err (cap := cap) (ps := ps) (ts := ts) (t := d) (by rw [hD]; exact hE)
      rw [hD] at this
      simp only [Prod.mk.injEq] at this
      rw [this.1]; omega
  by_cases hE2 : eG = 0
  · obtain ⟨j1, j2, j3, j4⟩ := read_fork (cap := cap) (ps := ps) (ts := ts) (t := t) (u := u) (b := k) (by rw [hG]; exact hE2)
    rw [hG] at j1 j2 j3 j4
    dsimp only at j1 j2 j3 j4
    have lG : psG.length ≤ 1000 := by have := may_len j2.may; omega
    rcases h3 : readH cap psG tsG u k with ⟨ra, fa⟩
    rcases h4 : readH cap psG tsG n k with ⟨rb, fb⟩
    have h5 : readH cap psG tsG t k = (rb, fb) := by rw [← j4, ← j1, h4]
    by_cases m1 : u = n
    · by_cases hE : eD = 0
      · obtain ⟨_, k2, k3⟩ := read_drop (cap := cap) (ps := ps) (ts := ts) (t := d) (u := u) (b := k) (by rw [hD]; exact hE)
        rw [hD] at k2 k3
        dsimp only at k2 k3
        by_cases g : u = d
        · have e := h2.symm.trans (k3 g)
          simp only [Prod.mk.injEq] at e
          exact tableFork_n_at w A0 B0 c0 e0 cap ps ts hst0 t d u k hF hM ln lm ll n eG nD eD r1 f1 r2 f2 psG psD tsG tsD lG lD hG hD h1 h2 ra fa rb fb hE2 j1 h3 h4 h5 m1 hE g e.2
        · have e := h2.symm.trans ((k2 g).trans h1)
          simp only [Prod.mk.injEq] at e
          exact tableFork_n_other w A0 B0 c0 e0 cap ps ts hst0 t d u k hF hM ln lm ll n eG nD eD r1 f1 r2 f2 psG psD tsG tsD lG lD hG hD h1 h2 ra fa rb fb hE2 j1 h3 h4 h5 m1 hE (by simpa using g) e.1 e.2.symm
      · exact tableFork_n_err w A0 B0 c0 e0 cap ps ts hst0 t d u k hF hM ln lm ll n eG nD eD r1 f1 r2 f2 psG psD tsG tsD lG lD hG hD h1 h2 ra fa rb fb hE2 j1 h3 h4 h5 m1 (by simpa using hE)
    · have e3 := h3.symm.trans ((j3 (fun h => m1 (h.trans j1.symm))).trans h1)
      simp only [Prod.mk.injEq] at e3
      by_cases hE : eD = 0
      · obtain ⟨_, k2, k3⟩ := read_drop (cap := cap) (ps := ps) (ts := ts) (t := d) (u := u) (b := k) (by rw [hD]; exact hE)
        rw [hD] at k2 k3
        dsimp only at k2 k3
        by_cases g : u = d
        · have e := h2.symm.trans (k3 g)
          simp only [Prod.mk.injEq] at e
          exact tableFork_u_at w A0 B0 c0 e0 cap ps ts hst0 t d u k hF hM ln lm ll n eG nD eD r1 f1 r2 f2 psG psD tsG tsD lG lD hG hD h1 h2 ra fa rb fb hE2 j1 h3 h4 h5 (by simpa using m1) e3.1 e3.2 hE g e.2
        · have e := h2.symm.trans ((k2 g).trans h1)
          simp only [Prod.mk.injEq] at e
          exact tableFork_u_other w A0 B0 c0 e0 cap ps ts hst0 t d u k hF hM ln lm ll n eG nD eD r1 f1 r2 f2 psG psD tsG tsD lG lD hG hD h1 h2 ra fa rb fb hE2 j1 h3 h4 h5 (by simpa using m1) e3.1 e3.2 hE (by simpa using g) e.1 e.2.symm
      · exact tableFork_u_err w A0 B0 c0 e0 cap ps ts hst0 t d u k hF hM ln lm ll n eG nD eD r1 f1 r2 f2 psG psD tsG tsD lG lD hG hD h1 h2 ra fa rb fb hE2 j1 h3 h4 h5 (by simpa using m1) e3.1 e3.2 (by simpa using hE)
  · have e := fork_err (cap := cap) (ps := ps) (ts := ts) (t := t) (by rw [hG]; exact hE2)
    rw [hG] at e
    simp only [Prod.mk.injEq] at e
    have lG : psG.length ≤ 1000 := by rw [e.1]; omega
    by_cases hE : eD = 0
    · obtain ⟨_, k2, k3⟩ := read_drop (cap := cap) (ps := ps) (ts := ts) (t := d) (u := u) (b := k) (by rw [hD]; exact hE)
      rw [hD] at k2 k3
      dsimp only at k2 k3
      by_cases g : u = d
      · have e := h2.symm.trans (k3 g)
        simp only [Prod.mk.injEq] at e
        exact tableFork_no_at w A0 B0 c0 e0 cap ps ts hst0 t d u k hF hM ln lm ll n eG nD eD r1 f1 r2 f2 psG psD tsG tsD lG lD hG hD h1 h2 (by simpa using hE2) hE g e.2
      · have e := h2.symm.trans ((k2 g).trans h1)
        simp only [Prod.mk.injEq] at e
        exact tableFork_no_other w A0 B0 c0 e0 cap ps ts hst0 t d u k hF hM ln lm ll n eG nD eD r1 f1 r2 f2 psG psD tsG tsD lG lD hG hD h1 h2 (by simpa using hE2) hE (by simpa using g) e.1 e.2.symm
    · exact tableFork_no_err w A0 B0 c0 e0 cap ps ts hst0 t d u k hF hM ln lm ll n eG nD eD r1 f1 r2 f2 psG psD tsG tsD lG lD hG hD h1 h2 (by simpa using hE2) (by simpa using hE)
end Go.Proofs.Ytoogobenjhmjjaa
