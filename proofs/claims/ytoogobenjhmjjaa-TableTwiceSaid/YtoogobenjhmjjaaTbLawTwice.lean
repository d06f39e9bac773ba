/- The walk of TableTwice. -/
import Derived.Test.YtoogobenjhmjjaaTbPlain3
import Derived.Test.YtoogobenjhmjjaaTbOpen
namespace Go.Proofs.Ytoogobenjhmjjaa
open Go Go.RowKit
set_option linter.unusedVariables false

set_option maxRecDepth 100000 in
set_option maxHeartbeats 4000000 in
theorem tableTwice_many (w : World) (A0 B0 : Option Addr) (c0 e0 : Nat) (cap : Int) (ps : List Pg) (ts : List (List Int)) (hst0 : HpV w (.agg #[.int .i64 cap, .slice A0 ps.length c0, .slice B0 ts.length e0]) cap ps ts) (t a v b u : Int) (hF : fewH ps ts = false) :
    Calls Try.prog 5 #[.agg #[.int .i64 cap, .slice A0 ps.length c0, .slice B0 ts.length e0], .int .i64 t, .int .i64 a, .int .i64 v, .int .i64 b, .int .i64 u] w fun e w' => e = .returned (.bool true) ∧ Below w.heap.size w w' := by
  have qF := fun v W h => few_any v cap ps ts W h
  rw [hF] at qF
  go_enter Try.func5, Try.ntmps5
  have hA0 := ((Below.refl w.heap.size w).alloc (Nat.le_refl _) (.cells #[.int .i64 cap, .slice A0 ps.length c0, .slice B0 ts.length e0] 28))
  replace hst0 := hst0.keep hA0
  have kC := Blk.new_ w 28 #[.int .i64 cap, .slice A0 ps.length c0, .slice B0 ts.length e0] (w.heap.size) (by simp)
  have hZ0 : Below w.heap.size w _ := hA0
  go_wp2_with fail
  refine (tawake_any _).mono ?_
  rintro e w1 ⟨rfl, hb1⟩
  obtain ⟨hc1, hf1⟩ := bcell hb1
  have hz1 := hb1.size
  simp at hz1
  replace hst0 := hst0.keep hb1
  replace kC := kC.keep hb1
  have hY1 := hZ0.trans (hb1.mono hZ0.size)
  have zkC_1 : w.heap.size < w1.heap.size := by omega
  have hZ1 : Below w.heap.size w w1 := hY1
  go_wp2_with fail
  refine (qF _ _ hst0).mono ?_
  rintro e w2 ⟨rfl, hb2⟩
  obtain ⟨hc2, hf2⟩ := bcell hb2
  have hz2 := hb2.size
  replace hst0 := hst0.keep hb2
  replace kC := kC.keep hb2
  have hY2 := hZ1.trans (hb2.mono hZ1.size)
  have zkC_2 : w.heap.size < w2.heap.size := by omega
  go_wp2
  go_ret
  exact ⟨by first | rfl | (simp [*]; done), hY2⟩

set_option maxRecDepth 100000 in
set_option maxHeartbeats 4000000 in
theorem tableTwice_bad (w : World) (A0 B0 : Option Addr) (c0 e0 : Nat) (cap : Int) (ps : List Pg) (ts : List (List Int)) (hst0 : HpV w (.agg #[.int .i64 cap, .slice A0 ps.length c0, .slice B0 ts.length e0]) cap ps ts) (t a v b u : Int) (hF : fewH ps ts = true) (hM : mayH cap ps ts = false) (ln : ps.length ≤ 20) :
    Calls Try.prog 5 #[.agg #[.int .i64 cap, .slice A0 ps.length c0, .slice B0 ts.length e0], .int .i64 t, .int .i64 a, .int .i64 v, .int .i64 b, .int .i64 u] w fun e w' => e = .returned (.bool true) ∧ Below w.heap.size w w' := by
  have qF := fun v W h => few_any v cap ps ts W h
  rw [hF] at qF
  have qM := fun v W h => tmay_any v cap ps ts W h (by omega)
  rw [hM] at qM
  go_enter Try.func5, Try.ntmps5
  have hA0 := ((Below.refl w.heap.size w).alloc (Nat.le_refl _) (.cells #[.int .i64 cap, .slice A0 ps.length c0, .slice B0 ts.length e0] 28))
  replace hst0 := hst0.keep hA0
  have kC := Blk.new_ w 28 #[.int .i64 cap, .slice A0 ps.length c0, .slice B0 ts.length e0] (w.heap.size) (by simp)
  have hZ0 : Below w.heap.size w _ := hA0
  go_wp2_with fail
  refine (tawake_any _).mono ?_
  rintro e w1 ⟨rfl, hb1⟩
  obtain ⟨hc1, hf1⟩ := bcell hb1
  have hz1 := hb1.size
  simp at hz1
  replace hst0 := hst0.keep hb1
  replace kC := kC.keep hb1
  have hY1 := hZ0.trans (hb1.mono hZ0.size)
  have zkC_1 : w.heap.size < w1.heap.size := by omega
  have hZ1 : Below w.heap.size w w1 := hY1
  go_wp2_with fail
  refine (qF _ _ hst0).mono ?_
  rintro e w2 ⟨rfl, hb2⟩
  obtain ⟨hc2, hf2⟩ := bcell hb2
  have hz2 := hb2.size
  replace hst0 := hst0.keep hb2
  replace kC := kC.keep hb2
  have hY2 := hZ1.trans (hb2.mono hZ1.size)
  have zkC_2 : w.heap.size < w2.heap.size := by omega
  have hZ2 : Below w.heap.size w w2 := hY2
  go_wp2_with fail
  refine (qM _ _ hst0).mono ?_
  rintro e w3 ⟨rfl, hb3⟩
  obtain ⟨hc3, hf3⟩ := bcell hb3
  have hz3 := hb3.size
  replace hst0 := hst0.keep hb3
  replace kC := kC.keep hb3
  have hY3 := hZ2.trans (hb3.mono hZ2.size)
  have zkC_3 : w.heap.size < w3.heap.size := by omega
  go_wp2
  go_ret
  exact ⟨by first | rfl | (simp [*]; done), hY3⟩

set_option maxRecDepth 100000 in
set_option maxHeartbeats 4000000 in
theorem tableTwice_same (w : World) (A0 B0 : Option Addr) (c0 e0 : Nat) (cap : Int) (ps : List Pg) (ts : List (List Int)) (hst0 : HpV w (.agg #[.int .i64 cap, .slice A0 ps.length c0, .slice B0 ts.length e0]) cap ps ts) (t a v b u : Int) (hF : fewH ps ts = true) (hM : mayH cap ps ts = true) (ln : ps.length ≤ 20) (lm : ts.length ≤ 5) (ll : ∀ t ∈ ts, t.length ≤ 4) (g : a = b) :
    Calls Try.prog 5 #[.agg #[.int .i64 cap, .slice A0 ps.length c0, .slice B0 ts.length e0], .int .i64 t, .int .i64 a, .int .i64 v, .int .i64 b, .int .i64 u] w fun e w' => e = .returned (.bool true) ∧ Below w.heap.size w w' := by
  have qF := fun v W h => few_any v cap ps ts W h
  rw [hF] at qF
  have qM := fun v W h => tmay_any v cap ps ts W h (by omega)
  rw [hM] at qM
  subst g
  clear hF hM ll
  go_enter Try.func5, Try.ntmps5
  have hA0 := ((Below.refl w.heap.size w).alloc (Nat.le_refl _) (.cells #[.int .i64 cap, .slice A0 ps.length c0, .slice B0 ts.length e0] 28))
  replace hst0 := hst0.keep hA0
  have kC := Blk.new_ w 28 #[.int .i64 cap, .slice A0 ps.length c0, .slice B0 ts.length e0] (w.heap.size) (by simp)
  have hZ0 : Below w.heap.size w _ := hA0
  go_wp2_with fail
  refine (tawake_any _).mono ?_
  rintro e w1 ⟨rfl, hb1⟩
  obtain ⟨hc1, hf1⟩ := bcell hb1
  have hz1 := hb1.size
  simp at hz1
  replace hst0 := hst0.keep hb1
  replace kC := kC.keep hb1
  have hY1 := hZ0.trans (hb1.mono hZ0.size)
  have zkC_1 : w.heap.size < w1.heap.size := by omega
  have hZ1 : Below w.heap.size w w1 := hY1
  go_wp2_with fail
  refine (qF _ _ hst0).mono ?_
  rintro e w2 ⟨rfl, hb2⟩
  obtain ⟨hc2, hf2⟩ := bcell hb2
  have hz2 := hb2.size
  replace hst0 := hst0.keep hb2
  replace kC := kC.keep hb2
  have hY2 := hZ1.trans (hb2.mono hZ1.size)
  have zkC_2 : w.heap.size < w2.heap.size := by omega
  have hZ2 : Below w.heap.size w w2 := hY2
  go_wp2_with fail
  refine (qM _ _ hst0).mono ?_
  rintro e w3 ⟨rfl, hb3⟩
  obtain ⟨hc3, hf3⟩ := bcell hb3
  have hz3 := hb3.size
  replace hst0 := hst0.keep hb3
  replace kC := kC.keep hb3
  have hY3 := hZ2.trans (hb3.mono hZ2.size)
  have zkC_3 : w.heap.size < w3.heap.size := by omega
  go_wp2
  go_ret
  exact ⟨by first | rfl | (simp [*]; done), hY3⟩

set_option maxRecDepth 100000 in
set_option maxHeartbeats 4000000 in
theorem tableTwice_eX (w : World) (A0 B0 : Option Addr) (c0 e0 : Nat) (cap : Int) (ps : List Pg) (ts : List (List Int)) (hst0 : HpV w (.agg #[.int .i64 cap, .slice A0 ps.length c0, .slice B0 ts.length e0]) cap ps ts) (t a v b u : Int) (hF : fewH ps ts = true) (hM : mayH cap ps ts = true) (ln : ps.length ≤ 20) (lm : ts.length ≤ 5) (ll : ∀ t ∈ ts, t.length ≤ 4) (g : ¬ a = b) (eX eY eP eQ : Int) (psX psY psP psQ : List Pg) (tsX tsY tsP tsQ : List (List Int)) (hX : writeH cap ps ts t a v = (eX, psX, tsX)) (hY : writeH cap psX tsX t b u = (eY, psY, tsY)) (hP : writeH cap ps ts t b u = (eP, psP, tsP)) (hQ : writeH cap psP tsP t a v = (eQ, psQ, tsQ)) (lX : psX.length ≤ 900 ∧ tsX.length ≤ 1000 ∧ ∀ t ∈ tsX, t.length ≤ 1000) (lP : psP.length ≤ 900 ∧ tsP.length ≤ 1000 ∧ ∀ t ∈ tsP, t.length ≤ 1000)  (zX : (eX != 0) = true) :
    Calls Try.prog 5 #[.agg #[.int .i64 cap, .slice A0 ps.length c0, .slice B0 ts.length e0], .int .i64 t, .int .i64 a, .int .i64 v, .int .i64 b, .int .i64 u] w fun e w' => e = .returned (.bool true) ∧ Below w.heap.size w w' := by
  have qF := fun v W h => few_any v cap ps ts W h
  rw [hF] at qF
  have qM := fun v W h => tmay_any v cap ps ts W h (by omega)
  rw [hM] at qM
  have g' : (a == b) = false := by simpa using g
  have qX := fun x W h => tWrite_any x cap ps ts t a v W h (by omega) (by omega) (fun t ht => by have := ll t ht; omega)
  rw [hX] at qX
  have qP := fun x W h => tWrite_any x cap ps ts t b u W h (by omega) (by omega) (fun t ht => by have := ll t ht; omega)
  rw [hP] at qP
  have qY := fun x W h => tWrite_any x cap psX tsX t b u W h lX.1 lX.2.1 lX.2.2
  rw [hY] at qY
  have qQ := fun x W h => tWrite_any x cap psP tsP t a v W h lP.1 lP.2.1 lP.2.2
  rw [hQ] at qQ
  clear hF hM hX hY hP hQ ll lX lP g
  go_enter Try.func5, Try.ntmps5
  have hA0 := ((Below.refl w.heap.size w).alloc (Nat.le_refl _) (.cells #[.int .i64 cap, .slice A0 ps.length c0, .slice B0 ts.length e0] 28))
  replace hst0 := hst0.keep hA0
  have kC := Blk.new_ w 28 #[.int .i64 cap, .slice A0 ps.length c0, .slice B0 ts.length e0] (w.heap.size) (by simp)
  have hZ0 : Below w.heap.size w _ := hA0
  go_wp2_with fail
  refine (tawake_any _).mono ?_
  rintro e w1 ⟨rfl, hb1⟩
  obtain ⟨hc1, hf1⟩ := bcell hb1
  have hz1 := hb1.size
  simp at hz1
  replace hst0 := hst0.keep hb1
  replace kC := kC.keep hb1
  have hY1 := hZ0.trans (hb1.mono hZ0.size)
  have zkC_1 : w.heap.size < w1.heap.size := by omega
  have hZ1 : Below w.heap.size w w1 := hY1
  go_wp2_with fail
  refine (qF _ _ hst0).mono ?_
  rintro e w2 ⟨rfl, hb2⟩
  obtain ⟨hc2, hf2⟩ := bcell hb2
  have hz2 := hb2.size
  replace hst0 := hst0.keep hb2
  replace kC := kC.keep hb2
  have hY2 := hZ1.trans (hb2.mono hZ1.size)
  have zkC_2 : w.heap.size < w2.heap.size := by omega
  have hZ2 : Below w.heap.size w w2 := hY2
  go_wp2_with fail
  refine (qM _ _ hst0).mono ?_
  rintro e w3 ⟨rfl, hb3⟩
  obtain ⟨hc3, hf3⟩ := bcell hb3
  have hz3 := hb3.size
  replace hst0 := hst0.keep hb3
  replace kC := kC.keep hb3
  have hY3 := hZ2.trans (hb3.mono hZ2.size)
  have zkC_3 : w.heap.size < w3.heap.size := by omega
  have hZ3 : Below w.heap.size w w3 := hY3
  go_wp2_with fail
  refine (qX _ _ hst0).mono ?_
  rintro e w4 ⟨v4, rfl, hstX, hb4⟩
  obtain ⟨hc4, hf4⟩ := bcell hb4
  have hz4 := hb4.size
  replace hst0 := hst0.keep hb4
  replace kC := kC.keep hb4
  have hY4 := hZ3.trans (hb4.mono hZ3.size)
  have zkC_4 : w.heap.size < w4.heap.size := by omega
  replace hstX := hstX.to
  try dsimp only at hstX
  obtain ⟨AX, cX, BX, eX, rfl, hstX⟩ := hstX.form
  have hA4 := ((Below.refl w4.heap.size w4).alloc (Nat.le_refl _) (.cells #[.int .i64 cap, .slice AX psX.length cX, .slice BX tsX.length eX] 28))
  replace hst0 := hst0.keep hA4
  replace kC := kC.keep hA4
  replace hstX := hstX.keep hA4
  have kX := Blk.new_ w4 28 #[.int .i64 cap, .slice AX psX.length cX, .slice BX tsX.length eX] (w4.heap.size) (by simp)
  have hZ4 : Below w.heap.size w _ := hY4.trans (hA4.mono hY4.size)
  go_wp2_with fail
  refine (qY _ _ hstX).mono ?_
  rintro e w5 ⟨v5, rfl, hstY, hb5⟩
  obtain ⟨hc5, hf5⟩ := bcell hb5
  have hz5 := hb5.size
  simp at hz5
  replace hst0 := hst0.keep hb5
  replace kC := kC.keep hb5
  replace hstX := hstX.keep hb5
  replace kX := kX.keep hb5
  have hY5 := hZ4.trans (hb5.mono hZ4.size)
  have zkC_5 : w.heap.size < w5.heap.size := by omega
  have zkX_5 : w4.heap.size < w5.heap.size := by omega
  replace hstY := hstY.to
  try dsimp only at hstY
  obtain ⟨AY, cY, BY, eY, rfl, hstY⟩ := hstY.form
  have hA5 := ((Below.refl w5.heap.size w5).alloc (Nat.le_refl _) (.cells #[.int .i64 cap, .slice AY psY.length cY, .slice BY tsY.length eY] 28))
  replace hst0 := hst0.keep hA5
  replace kC := kC.keep hA5
  replace hstX := hstX.keep hA5
  replace kX := kX.keep hA5
  replace hstY := hstY.keep hA5
  have kY := Blk.new_ w5 28 #[.int .i64 cap, .slice AY psY.length cY, .slice BY tsY.length eY] (w5.heap.size) (by simp)
  have hZ5 : Below w.heap.size w _ := hY5.trans (hA5.mono hY5.size)
  go_wp2_with fail
  refine (qP _ _ hst0).mono ?_
  rintro e w6 ⟨v6, rfl, hstP, hb6⟩
  obtain ⟨hc6, hf6⟩ := bcell hb6
  have hz6 := hb6.size
  simp at hz6
  replace hst0 := hst0.keep hb6
  replace kC := kC.keep hb6
  replace hstX := hstX.keep hb6
  replace kX := kX.keep hb6
  replace hstY := hstY.keep hb6
  replace kY := kY.keep hb6
  have hY6 := hZ5.trans (hb6.mono hZ5.size)
  have zkC_6 : w.heap.size < w6.heap.size := by omega
  have zkX_6 : w4.heap.size < w6.heap.size := by omega
  have zkY_6 : w5.heap.size < w6.heap.size := by omega
  replace hstP := hstP.to
  try dsimp only at hstP
  obtain ⟨AP, cP, BP, eP, rfl, hstP⟩ := hstP.form
  have hA6 := ((Below.refl w6.heap.size w6).alloc (Nat.le_refl _) (.cells #[.int .i64 cap, .slice AP psP.length cP, .slice BP tsP.length eP] 28))
  replace hst0 := hst0.keep hA6
  replace kC := kC.keep hA6
  replace hstX := hstX.keep hA6
  replace kX := kX.keep hA6
  replace hstY := hstY.keep hA6
  replace kY := kY.keep hA6
  replace hstP := hstP.keep hA6
  have kP := Blk.new_ w6 28 #[.int .i64 cap, .slice AP psP.length cP, .slice BP tsP.length eP] (w6.heap.size) (by simp)
  have hZ6 : Below w.heap.size w _ := hY6.trans (hA6.mono hY6.size)
  go_wp2_with fail
  refine (qQ _ _ hstP).mono ?_
  rintro e w7 ⟨v7, rfl, hstQ, hb7⟩
  obtain ⟨hc7, hf7⟩ := bcell hb7
  have hz7 := hb7.size
  simp at hz7
  replace hst0 := hst0.keep hb7
  replace kC := kC.keep hb7
  replace hstX := hstX.keep hb7
  replace kX := kX.keep hb7
  replace hstY := hstY.keep hb7
  replace kY := kY.keep hb7
  replace hstP := hstP.keep hb7
  replace kP := kP.keep hb7
  have hY7 := hZ6.trans (hb7.mono hZ6.size)
  have zkC_7 : w.heap.size < w7.heap.size := by omega
  have zkX_7 : w4.heap.size < w7.heap.size := by omega
  have zkY_7 : w5.heap.size < w7.heap.size := by omega
  have zkP_7 : w6.heap.size < w7.heap.size := by omega
  replace hstQ := hstQ.to
  try dsimp only at hstQ
  obtain ⟨AQ, cQ, BQ, eQ, rfl, hstQ⟩ := hstQ.form
  have hA7 := ((Below.refl w7.heap.size w7).alloc (Nat.le_refl _) (.cells #[.int .i64 cap, .slice AQ psQ.length cQ, .slice BQ tsQ.length eQ] 28))
  replace hst0 := hst0.keep hA7
  replace kC := kC.keep hA7
  replace hstX := hstX.keep hA7
  replace kX := kX.keep hA7
  replace hstY := hstY.keep hA7
  replace kY := kY.keep hA7
  replace hstP := hstP.keep hA7
  replace kP := kP.keep hA7
  replace hstQ := hstQ.keep hA7
  have kQ := Blk.new_ w7 28 #[.int .i64 cap, .slice AQ psQ.length cQ, .slice BQ tsQ.length eQ] (w7.heap.size) (by simp)
  have hZ7 : Below w.heap.size w _ := hY7.trans (hA7.mono hY7.size)
  go_wp2
  go_ret
  exact ⟨by first | rfl | (simp [*]; done), hZ7⟩

set_option maxRecDepth 100000 in
set_option maxHeartbeats 4000000 in
theorem tableTwice_eY (w : World) (A0 B0 : Option Addr) (c0 e0 : Nat) (cap : Int) (ps : List Pg) (ts : List (List Int)) (hst0 : HpV w (.agg #[.int .i64 cap, .slice A0 ps.length c0, .slice B0 ts.length e0]) cap ps ts) (t a v b u : Int) (hF : fewH ps ts = true) (hM : mayH cap ps ts = true) (ln : ps.length ≤ 20) (lm : ts.length ≤ 5) (ll : ∀ t ∈ ts, t.length ≤ 4) (g : ¬ a = b) (eX eY eP eQ : Int) (psX psY psP psQ : List Pg) (tsX tsY tsP tsQ : List (List Int)) (hX : writeH cap ps ts t a v = (eX, psX, tsX)) (hY : writeH cap psX tsX t b u = (eY, psY, tsY)) (hP : writeH cap ps ts t b u = (eP, psP, tsP)) (hQ : writeH cap psP tsP t a v = (eQ, psQ, tsQ)) (lX : psX.length ≤ 900 ∧ tsX.length ≤ 1000 ∧ ∀ t ∈ tsX, t.length ≤ 1000) (lP : psP.length ≤ 900 ∧ tsP.length ≤ 1000 ∧ ∀ t ∈ tsP, t.length ≤ 1000) (zX : eX = 0) (zY : (eY != 0) = true) :
    Calls Try.prog 5 #[.agg #[.int .i64 cap, .slice A0 ps.length c0, .slice B0 ts.length e0], .int .i64 t, .int .i64 a, .int .i64 v, .int .i64 b, .int .i64 u] w fun e w' => e = .returned (.bool true) ∧ Below w.heap.size w w' := by
  have qF := fun v W h => few_any v cap ps ts W h
  rw [hF] at qF
  have qM := fun v W h => tmay_any v cap ps ts W h (by omega)
  rw [hM] at qM
  have g' : (a == b) = false := by simpa using g
  have qX := fun x W h => tWrite_any x cap ps ts t a v W h (by omega) (by omega) (fun t ht => by have := ll t ht; omega)
  rw [hX] at qX
  have qP := fun x W h => tWrite_any x cap ps ts t b u W h (by omega) (by omega) (fun t ht => by have := ll t ht; omega)
  rw [hP] at qP
  have qY := fun x W h => tWrite_any x cap psX tsX t b u W h lX.1 lX.2.1 lX.2.2
  rw [hY] at qY
  have qQ := fun x W h => tWrite_any x cap psP tsP t a v W h lP.1 lP.2.1 lP.2.2
  rw [hQ] at qQ
  clear hF hM hX hY hP hQ ll lX lP g
  subst zX
  go_enter Try.func5, Try.ntmps5
  have hA0 := ((Below.refl w.heap.size w).alloc (Nat.le_refl _) (.cells #[.int .i64 cap, .slice A0 ps.length c0, .slice B0 ts.length e0] 28))
  replace hst0 := hst0.keep hA0
  have kC := Blk.new_ w 28 #[.int .i64 cap, .slice A0 ps.length c0, .slice B0 ts.length e0] (w.heap.size) (by simp)
  have hZ0 : Below w.heap.size w _ := hA0
  go_wp2_with fail
  refine (tawake_any _).mono ?_
  rintro e w1 ⟨rfl, hb1⟩
  obtain ⟨hc1, hf1⟩ := bcell hb1
  have hz1 := hb1.size
  simp at hz1
  replace hst0 := hst0.keep hb1
  replace kC := kC.keep hb1
  have hY1 := hZ0.trans (hb1.mono hZ0.size)
  have zkC_1 : w.heap.size < w1.heap.size := by omega
  have hZ1 : Below w.heap.size w w1 := hY1
  go_wp2_with fail
  refine (qF _ _ hst0).mono ?_
  rintro e w2 ⟨rfl, hb2⟩
  obtain ⟨hc2, hf2⟩ := bcell hb2
  have hz2 := hb2.size
  replace hst0 := hst0.keep hb2
  replace kC := kC.keep hb2
  have hY2 := hZ1.trans (hb2.mono hZ1.size)
  have zkC_2 : w.heap.size < w2.heap.size := by omega
  have hZ2 : Below w.heap.size w w2 := hY2
  go_wp2_with fail
  refine (qM _ _ hst0).mono ?_
  rintro e w3 ⟨rfl, hb3⟩
  obtain ⟨hc3, hf3⟩ := bcell hb3
  have hz3 := hb3.size
  replace hst0 := hst0.keep hb3
  replace kC := kC.keep hb3
  have hY3 := hZ2.trans (hb3.mono hZ2.size)
  have zkC_3 : w.heap.size < w3.heap.size := by omega
  have hZ3 : Below w.heap.size w w3 := hY3
  go_wp2_with fail
  refine (qX _ _ hst0).mono ?_
  rintro e w4 ⟨v4, rfl, hstX, hb4⟩
  obtain ⟨hc4, hf4⟩ := bcell hb4
  have hz4 := hb4.size
  replace hst0 := hst0.keep hb4
  replace kC := kC.keep hb4
  have hY4 := hZ3.trans (hb4.mono hZ3.size)
  have zkC_4 : w.heap.size < w4.heap.size := by omega
  replace hstX := hstX.to
  try dsimp only at hstX
  obtain ⟨AX, cX, BX, eX, rfl, hstX⟩ := hstX.form
  have hA4 := ((Below.refl w4.heap.size w4).alloc (Nat.le_refl _) (.cells #[.int .i64 cap, .slice AX psX.length cX, .slice BX tsX.length eX] 28))
  replace hst0 := hst0.keep hA4
  replace kC := kC.keep hA4
  replace hstX := hstX.keep hA4
  have kX := Blk.new_ w4 28 #[.int .i64 cap, .slice AX psX.length cX, .slice BX tsX.length eX] (w4.heap.size) (by simp)
  have hZ4 : Below w.heap.size w _ := hY4.trans (hA4.mono hY4.size)
  go_wp2_with fail
  refine (qY _ _ hstX).mono ?_
  rintro e w5 ⟨v5, rfl, hstY, hb5⟩
  obtain ⟨hc5, hf5⟩ := bcell hb5
  have hz5 := hb5.size
  simp at hz5
  replace hst0 := hst0.keep hb5
  replace kC := kC.keep hb5
  replace hstX := hstX.keep hb5
  replace kX := kX.keep hb5
  have hY5 := hZ4.trans (hb5.mono hZ4.size)
  have zkC_5 : w.heap.size < w5.heap.size := by omega
  have zkX_5 : w4.heap.size < w5.heap.size := by omega
  replace hstY := hstY.to
  try dsimp only at hstY
  obtain ⟨AY, cY, BY, eY, rfl, hstY⟩ := hstY.form
  have hA5 := ((Below.refl w5.heap.size w5).alloc (Nat.le_refl _) (.cells #[.int .i64 cap, .slice AY psY.length cY, .slice BY tsY.length eY] 28))
  replace hst0 := hst0.keep hA5
  replace kC := kC.keep hA5
  replace hstX := hstX.keep hA5
  replace kX := kX.keep hA5
  replace hstY := hstY.keep hA5
  have kY := Blk.new_ w5 28 #[.int .i64 cap, .slice AY psY.length cY, .slice BY tsY.length eY] (w5.heap.size) (by simp)
  have hZ5 : Below w.heap.size w _ := hY5.trans (hA5.mono hY5.size)
  go_wp2_with fail
  refine (qP _ _ hst0).mono ?_
  rintro e w6 ⟨v6, rfl, hstP, hb6⟩
  obtain ⟨hc6, hf6⟩ := bcell hb6
  have hz6 := hb6.size
  simp at hz6
  replace hst0 := hst0.keep hb6
  replace kC := kC.keep hb6
  replace hstX := hstX.keep hb6
  replace kX := kX.keep hb6
  replace hstY := hstY.keep hb6
  replace kY := kY.keep hb6
  have hY6 := hZ5.trans (hb6.mono hZ5.size)
  have zkC_6 : w.heap.size < w6.heap.size := by omega
  have zkX_6 : w4.heap.size < w6.heap.size := by omega
  have zkY_6 : w5.heap.size < w6.heap.size := by omega
  replace hstP := hstP.to
  try dsimp only at hstP
  obtain ⟨AP, cP, BP, eP, rfl, hstP⟩ := hstP.form
  have hA6 := ((Below.refl w6.heap.size w6).alloc (Nat.le_refl _) (.cells #[.int .i64 cap, .slice AP psP.length cP, .slice BP tsP.length eP] 28))
  replace hst0 := hst0.keep hA6
  replace kC := kC.keep hA6
  replace hstX := hstX.keep hA6
  replace kX := kX.keep hA6
  replace hstY := hstY.keep hA6
  replace kY := kY.keep hA6
  replace hstP := hstP.keep hA6
  have kP := Blk.new_ w6 28 #[.int .i64 cap, .slice AP psP.length cP, .slice BP tsP.length eP] (w6.heap.size) (by simp)
  have hZ6 : Below w.heap.size w _ := hY6.trans (hA6.mono hY6.size)
  go_wp2_with fail
  refine (qQ _ _ hstP).mono ?_
  rintro e w7 ⟨v7, rfl, hstQ, hb7⟩
  obtain ⟨hc7, hf7⟩ := bcell hb7
  have hz7 := hb7.size
  simp at hz7
  replace hst0 := hst0.keep hb7
  replace kC := kC.keep hb7
  replace hstX := hstX.keep hb7
  replace kX := kX.keep hb7
  replace hstY := hstY.keep hb7
  replace kY := kY.keep hb7
  replace hstP := hstP.keep hb7
  replace kP := kP.keep hb7
  have hY7 := hZ6.trans (hb7.mono hZ6.size)
  have zkC_7 : w.heap.size < w7.heap.size := by omega
  have zkX_7 : w4.heap.size < w7.heap.size := by omega
  have zkY_7 : w5.heap.size < w7.heap.size := by omega
  have zkP_7 : w6.heap.size < w7.heap.size := by omega
  replace hstQ := hstQ.to
  try dsimp only at hstQ
  obtain ⟨AQ, cQ, BQ, eQ, rfl, hstQ⟩ := hstQ.form
  have hA7 := ((Below.refl w7.heap.size w7).alloc (Nat.le_refl _) (.cells #[.int .i64 cap, .slice AQ psQ.length cQ, .slice BQ tsQ.length eQ] 28))
  replace hst0 := hst0.keep hA7
  replace kC := kC.keep hA7
  replace hstX := hstX.keep hA7
  replace kX := kX.keep hA7
  replace hstY := hstY.keep hA7
  replace kY := kY.keep hA7
  replace hstP := hstP.keep hA7
  replace kP := kP.keep hA7
  replace hstQ := hstQ.keep hA7
  have kQ := Blk.new_ w7 28 #[.int .i64 cap, .slice AQ psQ.length cQ, .slice BQ tsQ.length eQ] (w7.heap.size) (by simp)
  have hZ7 : Below w.heap.size w _ := hY7.trans (hA7.mono hY7.size)
  go_wp2
  go_ret
  exact ⟨by first | rfl | (simp [*]; done), hZ7⟩

set_option maxRecDepth 100000 in
set_option maxHeartbeats 4000000 in
theorem tableTwice_eP (w : World) (A0 B0 : Option Addr) (c0 e0 : Nat) (cap : Int) (ps : List Pg) (ts : List (List Int)) (hst0 : HpV w (.agg #[.int .i64 cap, .slice A0 ps.length c0, .slice B0 ts.length e0]) cap ps ts) (t a v b u : Int) (hF : fewH ps ts = true) (hM : mayH cap ps ts = true) (ln : ps.length ≤ 20) (lm : ts.length ≤ 5) (ll : ∀ t ∈ ts, t.length ≤ 4) (g : ¬ a = b) (eX eY eP eQ : Int) (psX psY psP psQ : List Pg) (tsX tsY tsP tsQ : List (List Int)) (hX : writeH cap ps ts t a v = (eX, psX, tsX)) (hY : writeH cap psX tsX t b u = (eY, psY, tsY)) (hP : writeH cap ps ts t b u = (eP, psP, tsP)) (hQ : writeH cap psP tsP t a v = (eQ, psQ, tsQ)) (lX : psX.length ≤ 900 ∧ tsX.length ≤ 1000 ∧ ∀ t ∈ tsX, t.length ≤ 1000) (lP : psP.length ≤ 900 ∧ tsP.length ≤ 1000 ∧ ∀ t ∈ tsP, t.length ≤ 1000) (zX : eX = 0) (zY : eY = 0) (zP : (eP != 0) = true) :
    Calls Try.prog 5 #[.agg #[.int .i64 cap, .slice A0 ps.length c0, .slice B0 ts.length e0], .int .i64 t, .int .i64 a, .int .i64 v, .int .i64 b, .int .i64 u] w fun e w' => e = .returned (.bool true) ∧ Below w.heap.size w w' := by
  have qF := fun v W h => few_any v cap ps ts W h
  rw [hF] at qF
  have qM := fun v W h => tmay_any v cap ps ts W h (by omega)
  rw [hM] at qM
  have g' : (a == b) = false := by simpa using g
  have qX := fun x W h => tWrite_any x cap ps ts t a v W h (by omega) (by omega) (fun t ht => by have := ll t ht; omega)
  rw [hX] at qX
  have qP := fun x W h => tWrite_any x cap ps ts t b u W h (by omega) (by omega) (fun t ht => by have := ll t ht; omega)
  rw [hP] at qP
  have qY := fun x W h => tWrite_any x cap psX tsX t b u W h lX.1 lX.2.1 lX.2.2
  rw [hY] at qY
  have qQ := fun x W h => tWrite_any x cap psP tsP t a v W h lP.1 lP.2.1 lP.2.2
  rw [hQ] at qQ
  clear hF hM hX hY hP hQ ll lX lP g
  subst zX zY
  go_enter Try.func5, Try.ntmps5
  have hA0 := ((Below.refl w.heap.size w).alloc (Nat.le_refl _) (.cells #[.int .i64 cap, .slice A0 ps.length c0, .slice B0 ts.length e0] 28))
  replace hst0 := hst0.keep hA0
  have kC := Blk.new_ w 28 #[.int .i64 cap, .slice A0 ps.length c0, .slice B0 ts.length e0] (w.heap.size) (by simp)
  have hZ0 : Below w.heap.size w _ := hA0
  go_wp2_with fail
  refine (tawake_any _).mono ?_
  rintro e w1 ⟨rfl, hb1⟩
  obtain ⟨hc1, hf1⟩ := bcell hb1
  have hz1 := hb1.size
  simp at hz1
  replace hst0 := hst0.keep hb1
  replace kC := kC.keep hb1
  have hY1 := hZ0.trans (hb1.mono hZ0.size)
  have zkC_1 : w.heap.size < w1.heap.size := by omega
  have hZ1 : Below w.heap.size w w1 := hY1
  go_wp2_with fail
  refine (qF _ _ hst0).mono ?_
  rintro e w2 ⟨rfl, hb2⟩
  obtain ⟨hc2, hf2⟩ := bcell hb2
  have hz2 := hb2.size
  replace hst0 := hst0.keep hb2
  replace kC := kC.keep hb2
  have hY2 := hZ1.trans (hb2.mono hZ1.size)
  have zkC_2 : w.heap.size < w2.heap.size := by omega
  have hZ2 : Below w.heap.size w w2 := hY2
  go_wp2_with fail
  refine (qM _ _ hst0).mono ?_
  rintro e w3 ⟨rfl, hb3⟩
  obtain ⟨hc3, hf3⟩ := bcell hb3
  have hz3 := hb3.size
  replace hst0 := hst0.keep hb3
  replace kC := kC.keep hb3
  have hY3 := hZ2.trans (hb3.mono hZ2.size)
  have zkC_3 : w.heap.size < w3.heap.size := by omega
  have hZ3 : Below w.heap.size w w3 := hY3
  go_wp2_with fail
  refine (qX _ _ hst0).mono ?_
  rintro e w4 ⟨v4, rfl, hstX, hb4⟩
  obtain ⟨hc4, hf4⟩ := bcell hb4
  have hz4 := hb4.size
  replace hst0 := hst0.keep hb4
  replace kC := kC.keep hb4
  have hY4 := hZ3.trans (hb4.mono hZ3.size)
  have zkC_4 : w.heap.size < w4.heap.size := by omega
  replace hstX := hstX.to
  try dsimp only at hstX
  obtain ⟨AX, cX, BX, eX, rfl, hstX⟩ := hstX.form
  have hA4 := ((Below.refl w4.heap.size w4).alloc (Nat.le_refl _) (.cells #[.int .i64 cap, .slice AX psX.length cX, .slice BX tsX.length eX] 28))
  replace hst0 := hst0.keep hA4
  replace kC := kC.keep hA4
  replace hstX := hstX.keep hA4
  have kX := Blk.new_ w4 28 #[.int .i64 cap, .slice AX psX.length cX, .slice BX tsX.length eX] (w4.heap.size) (by simp)
  have hZ4 : Below w.heap.size w _ := hY4.trans (hA4.mono hY4.size)
  go_wp2_with fail
  refine (qY _ _ hstX).mono ?_
  rintro e w5 ⟨v5, rfl, hstY, hb5⟩
  obtain ⟨hc5, hf5⟩ := bcell hb5
  have hz5 := hb5.size
  simp at hz5
  replace hst0 := hst0.keep hb5
  replace kC := kC.keep hb5
  replace hstX := hstX.keep hb5
  replace kX := kX.keep hb5
  have hY5 := hZ4.trans (hb5.mono hZ4.size)
  have zkC_5 : w.heap.size < w5.heap.size := by omega
  have zkX_5 : w4.heap.size < w5.heap.size := by omega
  replace hstY := hstY.to
  try dsimp only at hstY
  obtain ⟨AY, cY, BY, eY, rfl, hstY⟩ := hstY.form
  have hA5 := ((Below.refl w5.heap.size w5).alloc (Nat.le_refl _) (.cells #[.int .i64 cap, .slice AY psY.length cY, .slice BY tsY.length eY] 28))
  replace hst0 := hst0.keep hA5
  replace kC := kC.keep hA5
  replace hstX := hstX.keep hA5
  replace kX := kX.keep hA5
  replace hstY := hstY.keep hA5
  have kY := Blk.new_ w5 28 #[.int .i64 cap, .slice AY psY.length cY, .slice BY tsY.length eY] (w5.heap.size) (by simp)
  have hZ5 : Below w.heap.size w _ := hY5.trans (hA5.mono hY5.size)
  go_wp2_with fail
  refine (qP _ _ hst0).mono ?_
  rintro e w6 ⟨v6, rfl, hstP, hb6⟩
  obtain ⟨hc6, hf6⟩ := bcell hb6
  have hz6 := hb6.size
  simp at hz6
  replace hst0 := hst0.keep hb6
  replace kC := kC.keep hb6
  replace hstX := hstX.keep hb6
  replace kX := kX.keep hb6
  replace hstY := hstY.keep hb6
  replace kY := kY.keep hb6
  have hY6 := hZ5.trans (hb6.mono hZ5.size)
  have zkC_6 : w.heap.size < w6.heap.size := by omega
  have zkX_6 : w4.heap.size < w6.heap.size := by omega
  have zkY_6 : w5.heap.size < w6.heap.size := by omega
  replace hstP := hstP.to
  try dsimp only at hstP
  obtain ⟨AP, cP, BP, eP, rfl, hstP⟩ := hstP.form
  have hA6 := ((Below.refl w6.heap.size w6).alloc (Nat.le_refl _) (.cells #[.int .i64 cap, .slice AP psP.length cP, .slice BP tsP.length eP] 28))
  replace hst0 := hst0.keep hA6
  replace kC := kC.keep hA6
  replace hstX := hstX.keep hA6
  replace kX := kX.keep hA6
  replace hstY := hstY.keep hA6
  replace kY := kY.keep hA6
  replace hstP := hstP.keep hA6
  have kP := Blk.new_ w6 28 #[.int .i64 cap, .slice AP psP.length cP, .slice BP tsP.length eP] (w6.heap.size) (by simp)
  have hZ6 : Below w.heap.size w _ := hY6.trans (hA6.mono hY6.size)
  go_wp2_with fail
  refine (qQ _ _ hstP).mono ?_
  rintro e w7 ⟨v7, rfl, hstQ, hb7⟩
  obtain ⟨hc7, hf7⟩ := bcell hb7
  have hz7 := hb7.size
  simp at hz7
  replace hst0 := hst0.keep hb7
  replace kC := kC.keep hb7
  replace hstX := hstX.keep hb7
  replace kX := kX.keep hb7
  replace hstY := hstY.keep hb7
  replace kY := kY.keep hb7
  replace hstP := hstP.keep hb7
  replace kP := kP.keep hb7
  have hY7 := hZ6.trans (hb7.mono hZ6.size)
  have zkC_7 : w.heap.size < w7.heap.size := by omega
  have zkX_7 : w4.heap.size < w7.heap.size := by omega
  have zkY_7 : w5.heap.size < w7.heap.size := by omega
  have zkP_7 : w6.heap.size < w7.heap.size := by omega
  replace hstQ := hstQ.to
  try dsimp only at hstQ
  obtain ⟨AQ, cQ, BQ, eQ, rfl, hstQ⟩ := hstQ.form
  have hA7 := ((Below.refl w7.heap.size w7).alloc (Nat.le_refl _) (.cells #[.int .i64 cap, .slice AQ psQ.length cQ, .slice BQ tsQ.length eQ] 28))
  replace hst0 := hst0.keep hA7
  replace kC := kC.keep hA7
  replace hstX := hstX.keep hA7
  replace kX := kX.keep hA7
  replace hstY := hstY.keep hA7
  replace kY := kY.keep hA7
  replace hstP := hstP.keep hA7
  replace kP := kP.keep hA7
  replace hstQ := hstQ.keep hA7
  have kQ := Blk.new_ w7 28 #[.int .i64 cap, .slice AQ psQ.length cQ, .slice BQ tsQ.length eQ] (w7.heap.size) (by simp)
  have hZ7 : Below w.heap.size w _ := hY7.trans (hA7.mono hY7.size)
  go_wp2
  go_ret
  exact ⟨by first | rfl | (simp [*]; done), hZ7⟩

set_option maxRecDepth 100000 in
set_option maxHeartbeats 4000000 in
theorem tableTwice_eQ (w : World) (A0 B0 : Option Addr) (c0 e0 : Nat) (cap : Int) (ps : List Pg) (ts : List (List Int)) (hst0 : HpV w (.agg #[.int .i64 cap, .slice A0 ps.length c0, .slice B0 ts.length e0]) cap ps ts) (t a v b u : Int) (hF : fewH ps ts = true) (hM : mayH cap ps ts = true) (ln : ps.length ≤ 20) (lm : ts.length ≤ 5) (ll : ∀ t ∈ ts, t.length ≤ 4) (g : ¬ a = b) (eX eY eP eQ : Int) (psX psY psP psQ : List Pg) (tsX tsY tsP tsQ : List (List Int)) (hX : writeH cap ps ts t a v = (eX, psX, tsX)) (hY : writeH cap psX tsX t b u = (eY, psY, tsY)) (hP : writeH cap ps ts t b u = (eP, psP, tsP)) (hQ : writeH cap psP tsP t a v = (eQ, psQ, tsQ)) (lX : psX.length ≤ 900 ∧ tsX.length ≤ 1000 ∧ ∀ t ∈ tsX, t.length ≤ 1000) (lP : psP.length ≤ 900 ∧ tsP.length ≤ 1000 ∧ ∀ t ∈ tsP, t.length ≤ 1000) (zX : eX = 0) (zY : eY = 0) (zP : eP = 0) (zQ : (eQ != 0) = true) :
    Calls Try.prog 5 #[.agg #[.int .i64 cap, .slice A0 ps.length c0, .slice B0 ts.length e0], .int .i64 t, .int .i64 a, .int .i64 v, .int .i64 b, .int .i64 u] w fun e w' => e = .returned (.bool true) ∧ Below w.heap.size w w' := by
  have qF := fun v W h => few_any v cap ps ts W h
  rw [hF] at qF
  have qM := fun v W h => tmay_any v cap ps ts W h (by omega)
  rw [hM] at qM
  have g' : (a == b) = false := by simpa using g
  have qX := fun x W h => tWrite_any x cap ps ts t a v W h (by omega) (by omega) (fun t ht => by have := ll t ht; omega)
  rw [hX] at qX
  have qP := fun x W h => tWrite_any x cap ps ts t b u W h (by omega) (by omega) (fun t ht => by have := ll t ht; omega)
  rw [hP] at qP
  have qY := fun x W h => tWrite_any x cap psX tsX t b u W h lX.1 lX.2.1 lX.2.2
  rw [hY] at qY
  have qQ := fun x W h => tWrite_any x cap psP tsP t a v W h lP.1 lP.2.1 lP.2.2
  rw [hQ] at qQ
  clear hF hM hX hY hP hQ ll lX lP g
  subst zX zY zP
  go_enter Try.func5, Try.ntmps5
  have hA0 := ((Below.refl w.heap.size w).alloc (Nat.le_refl _) (.cells #[.int .i64 cap, .slice A0 ps.length c0, .slice B0 ts.length e0] 28))
  replace hst0 := hst0.keep hA0
  have kC := Blk.new_ w 28 #[.int .i64 cap, .slice A0 ps.length c0, .slice B0 ts.length e0] (w.heap.size) (by simp)
  have hZ0 : Below w.heap.size w _ := hA0
  go_wp2_with fail
  refine (tawake_any _).mono ?_
  rintro e w1 ⟨rfl, hb1⟩
  obtain ⟨hc1, hf1⟩ := bcell hb1
  have hz1 := hb1.size
  simp at hz1
  replace hst0 := hst0.keep hb1
  replace kC := kC.keep hb1
  have hY1 := hZ0.trans (hb1.mono hZ0.size)
  have zkC_1 : w.heap.size < w1.heap.size := by omega
  have hZ1 : Below w.heap.size w w1 := hY1
  go_wp2_with fail
  refine (qF _ _ hst0).mono ?_
  rintro e w2 ⟨rfl, hb2⟩
  obtain ⟨hc2, hf2⟩ := bcell hb2
  have hz2 := hb2.size
  replace hst0 := hst0.keep hb2
  replace kC := kC.keep hb2
  have hY2 := hZ1.trans (hb2.mono hZ1.size)
  have zkC_2 : w.heap.size < w2.heap.size := by omega
  have hZ2 : Below w.heap.size w w2 := hY2
  go_wp2_with fail
  refine (qM _ _ hst0).mono ?_
  rintro e w3 ⟨rfl, hb3⟩
  obtain ⟨hc3, hf3⟩ := bcell hb3
  have hz3 := hb3.size
  replace hst0 := hst0.keep hb3
  replace kC := kC.keep hb3
  have hY3 := hZ2.trans (hb3.mono hZ2.size)
  have zkC_3 : w.heap.size < w3.heap.size := by omega
  have hZ3 : Below w.heap.size w w3 := hY3
  go_wp2_with fail
  refine (qX _ _ hst0).mono ?_
  rintro e w4 ⟨v4, rfl, hstX, hb4⟩
  obtain ⟨hc4, hf4⟩ := bcell hb4
  have hz4 := hb4.size
  replace hst0 := hst0.keep hb4
  replace kC := kC.keep hb4
  have hY4 := hZ3.trans (hb4.mono hZ3.size)
  have zkC_4 : w.heap.size < w4.heap.size := by omega
  replace hstX := hstX.to
  try dsimp only at hstX
  obtain ⟨AX, cX, BX, eX, rfl, hstX⟩ := hstX.form
  have hA4 := ((Below.refl w4.heap.size w4).alloc (Nat.le_refl _) (.cells #[.int .i64 cap, .slice AX psX.length cX, .slice BX tsX.length eX] 28))
  replace hst0 := hst0.keep hA4
  replace kC := kC.keep hA4
  replace hstX := hstX.keep hA4
  have kX := Blk.new_ w4 28 #[.int .i64 cap, .slice AX psX.length cX, .slice BX tsX.length eX] (w4.heap.size) (by simp)
  have hZ4 : Below w.heap.size w _ := hY4.trans (hA4.mono hY4.size)
  go_wp2_with fail
  refine (qY _ _ hstX).mono ?_
  rintro e w5 ⟨v5, rfl, hstY, hb5⟩
  obtain ⟨hc5, hf5⟩ := bcell hb5
  have hz5 := hb5.size
  simp at hz5
  replace hst0 := hst0.keep hb5
  replace kC := kC.keep hb5
  replace hstX := hstX.keep hb5
  replace kX := kX.keep hb5
  have hY5 := hZ4.trans (hb5.mono hZ4.size)
  have zkC_5 : w.heap.size < w5.heap.size := by omega
  have zkX_5 : w4.heap.size < w5.heap.size := by omega
  replace hstY := hstY.to
  try dsimp only at hstY
  obtain ⟨AY, cY, BY, eY, rfl, hstY⟩ := hstY.form
  have hA5 := ((Below.refl w5.heap.size w5).alloc (Nat.le_refl _) (.cells #[.int .i64 cap, .slice AY psY.length cY, .slice BY tsY.length eY] 28))
  replace hst0 := hst0.keep hA5
  replace kC := kC.keep hA5
  replace hstX := hstX.keep hA5
  replace kX := kX.keep hA5
  replace hstY := hstY.keep hA5
  have kY := Blk.new_ w5 28 #[.int .i64 cap, .slice AY psY.length cY, .slice BY tsY.length eY] (w5.heap.size) (by simp)
  have hZ5 : Below w.heap.size w _ := hY5.trans (hA5.mono hY5.size)
  go_wp2_with fail
  refine (qP _ _ hst0).mono ?_
  rintro e w6 ⟨v6, rfl, hstP, hb6⟩
  obtain ⟨hc6, hf6⟩ := bcell hb6
  have hz6 := hb6.size
  simp at hz6
  replace hst0 := hst0.keep hb6
  replace kC := kC.keep hb6
  replace hstX := hstX.keep hb6
  replace kX := kX.keep hb6
  replace hstY := hstY.keep hb6
  replace kY := kY.keep hb6
  have hY6 := hZ5.trans (hb6.mono hZ5.size)
  have zkC_6 : w.heap.size < w6.heap.size := by omega
  have zkX_6 : w4.heap.size < w6.heap.size := by omega
  have zkY_6 : w5.heap.size < w6.heap.size := by omega
  replace hstP := hstP.to
  try dsimp only at hstP
  obtain ⟨AP, cP, BP, eP, rfl, hstP⟩ := hstP.form
  have hA6 := ((Below.refl w6.heap.size w6).alloc (Nat.le_refl _) (.cells #[.int .i64 cap, .slice AP psP.length cP, .slice BP tsP.length eP] 28))
  replace hst0 := hst0.keep hA6
  replace kC := kC.keep hA6
  replace hstX := hstX.keep hA6
  replace kX := kX.keep hA6
  replace hstY := hstY.keep hA6
  replace kY := kY.keep hA6
  replace hstP := hstP.keep hA6
  have kP := Blk.new_ w6 28 #[.int .i64 cap, .slice AP psP.length cP, .slice BP tsP.length eP] (w6.heap.size) (by simp)
  have hZ6 : Below w.heap.size w _ := hY6.trans (hA6.mono hY6.size)
  go_wp2_with fail
  refine (qQ _ _ hstP).mono ?_
  rintro e w7 ⟨v7, rfl, hstQ, hb7⟩
  obtain ⟨hc7, hf7⟩ := bcell hb7
  have hz7 := hb7.size
  simp at hz7
  replace hst0 := hst0.keep hb7
  replace kC := kC.keep hb7
  replace hstX := hstX.keep hb7
  replace kX := kX.keep hb7
  replace hstY := hstY.keep hb7
  replace kY := kY.keep hb7
  replace hstP := hstP.keep hb7
  replace kP := kP.keep hb7
  have hY7 := hZ6.trans (hb7.mono hZ6.size)
  have zkC_7 : w.heap.size < w7.heap.size := by omega
  have zkX_7 : w4.heap.size < w7.heap.size := by omega
  have zkY_7 : w5.heap.size < w7.heap.size := by omega
  have zkP_7 : w6.heap.size < w7.heap.size := by omega
  replace hstQ := hstQ.to
  try dsimp only at hstQ
  obtain ⟨AQ, cQ, BQ, eQ, rfl, hstQ⟩ := hstQ.form
  have hA7 := ((Below.refl w7.heap.size w7).alloc (Nat.le_refl _) (.cells #[.int .i64 cap, .slice AQ psQ.length cQ, .slice BQ tsQ.length eQ] 28))
  replace hst0 := hst0.keep hA7
  replace kC := kC.keep hA7
  replace hstX := hstX.keep hA7
  replace kX := kX.keep hA7
  replace hstY := hstY.keep hA7
  replace kY := kY.keep hA7
  replace hstP := hstP.keep hA7
  replace kP := kP.keep hA7
  replace hstQ := hstQ.keep hA7
  have kQ := Blk.new_ w7 28 #[.int .i64 cap, .slice AQ psQ.length cQ, .slice BQ tsQ.length eQ] (w7.heap.size) (by simp)
  have hZ7 : Below w.heap.size w _ := hY7.trans (hA7.mono hY7.size)
  go_wp2
  go_ret
  exact ⟨by first | rfl | (simp [*]; done), hZ7⟩

set_option maxRecDepth 100000 in
set_option maxHeartbeats 4000000 in
theorem tableTwice_main (w : World) (A0 B0 : Option Addr) (c0 e0 : Nat) (cap : Int) (ps : List Pg) (ts : List (List Int)) (hst0 : HpV w (.agg #[.int .i64 cap, .slice A0 ps.length c0, .slice B0 ts.length e0]) cap ps ts) (t a v b u : Int) (hF : fewH ps ts = true) (hM : mayH cap ps ts = true) (ln : ps.length ≤ 20) (lm : ts.length ≤ 5) (ll : ∀ t ∈ ts, t.length ≤ 4) (g : ¬ a = b) (eX eY eP eQ : Int) (psX psY psP psQ : List Pg) (tsX tsY tsP tsQ : List (List Int)) (hX : writeH cap ps ts t a v = (eX, psX, tsX)) (hY : writeH cap psX tsX t b u = (eY, psY, tsY)) (hP : writeH cap ps ts t b u = (eP, psP, tsP)) (hQ : writeH cap psP tsP t a v = (eQ, psQ, tsQ)) (lX : psX.length ≤ 900 ∧ tsX.length ≤ 1000 ∧ ∀ t ∈ tsX, t.length ≤ 1000) (lP : psP.length ≤ 900 ∧ tsP.length ≤ 1000 ∧ ∀ t ∈ tsP, t.length ≤ 1000) (zX : eX = 0) (zY : eY = 0) (zP : eP = 0) (zQ : eQ = 0) (lY : psY.length ≤ 1000) (lQ : psQ.length ≤ 1000) (hR : ∀ at1 : Int, ∃ m f, readH cap psY tsY t at1 = (m, f) ∧ readH cap psQ tsQ t at1 = (m, f) ∧ (at1 = a → m = v) ∧ (at1 = b → m = u)) :
    Calls Try.prog 5 #[.agg #[.int .i64 cap, .slice A0 ps.length c0, .slice B0 ts.length e0], .int .i64 t, .int .i64 a, .int .i64 v, .int .i64 b, .int .i64 u] w fun e w' => e = .returned (.bool true) ∧ Below w.heap.size w w' := by
  have HR := Lib.hid hR
  clear hR
  have qF := fun v W h => few_any v cap ps ts W h
  rw [hF] at qF
  have qM := fun v W h => tmay_any v cap ps ts W h (by omega)
  rw [hM] at qM
  have g' : (a == b) = false := by simpa using g
  have qX := fun x W h => tWrite_any x cap ps ts t a v W h (by omega) (by omega) (fun t ht => by have := ll t ht; omega)
  rw [hX] at qX
  have qP := fun x W h => tWrite_any x cap ps ts t b u W h (by omega) (by omega) (fun t ht => by have := ll t ht; omega)
  rw [hP] at qP
  have qY := fun x W h => tWrite_any x cap psX tsX t b u W h lX.1 lX.2.1 lX.2.2
  rw [hY] at qY
  have qQ := fun x W h => tWrite_any x cap psP tsP t a v W h lP.1 lP.2.1 lP.2.2
  rw [hQ] at qQ
  clear hF hM hX hY hP hQ ll lX lP g
  subst zX zY zP zQ
  go_enter Try.func5, Try.ntmps5
  have hA0 := ((Below.refl w.heap.size w).alloc (Nat.le_refl _) (.cells #[.int .i64 cap, .slice A0 ps.length c0, .slice B0 ts.length e0] 28))
  replace hst0 := hst0.keep hA0
  have kC := Blk.new_ w 28 #[.int .i64 cap, .slice A0 ps.length c0, .slice B0 ts.length e0] (w.heap.size) (by simp)
  have hZ0 : Below w.heap.size w _ := hA0
  go_wp2_with fail
  refine (tawake_any _).mono ?_
  rintro e w1 ⟨rfl, hb1⟩
  obtain ⟨hc1, hf1⟩ := bcell hb1
  have hz1 := hb1.size
  simp at hz1
  replace hst0 := hst0.keep hb1
  replace kC := kC.keep hb1
  have hY1 := hZ0.trans (hb1.mono hZ0.size)
  have zkC_1 : w.heap.size < w1.heap.size := by omega
  have hZ1 : Below w.heap.size w w1 := hY1
  go_wp2_with fail
  refine (qF _ _ hst0).mono ?_
  rintro e w2 ⟨rfl, hb2⟩
  obtain ⟨hc2, hf2⟩ := bcell hb2
  have hz2 := hb2.size
  replace hst0 := hst0.keep hb2
  replace kC := kC.keep hb2
  have hY2 := hZ1.trans (hb2.mono hZ1.size)
  have zkC_2 : w.heap.size < w2.heap.size := by omega
  have hZ2 : Below w.heap.size w w2 := hY2
  go_wp2_with fail
  refine (qM _ _ hst0).mono ?_
  rintro e w3 ⟨rfl, hb3⟩
  obtain ⟨hc3, hf3⟩ := bcell hb3
  have hz3 := hb3.size
  replace hst0 := hst0.keep hb3
  replace kC := kC.keep hb3
  have hY3 := hZ2.trans (hb3.mono hZ2.size)
  have zkC_3 : w.heap.size < w3.heap.size := by omega
  have hZ3 : Below w.heap.size w w3 := hY3
  go_wp2_with fail
  refine (qX _ _ hst0).mono ?_
  rintro e w4 ⟨v4, rfl, hstX, hb4⟩
  obtain ⟨hc4, hf4⟩ := bcell hb4
  have hz4 := hb4.size
  replace hst0 := hst0.keep hb4
  replace kC := kC.keep hb4
  have hY4 := hZ3.trans (hb4.mono hZ3.size)
  have zkC_4 : w.heap.size < w4.heap.size := by omega
  replace hstX := hstX.to
  try dsimp only at hstX
  obtain ⟨AX, cX, BX, eX, rfl, hstX⟩ := hstX.form
  have hA4 := ((Below.refl w4.heap.size w4).alloc (Nat.le_refl _) (.cells #[.int .i64 cap, .slice AX psX.length cX, .slice BX tsX.length eX] 28))
  replace hst0 := hst0.keep hA4
  replace kC := kC.keep hA4
  replace hstX := hstX.keep hA4
  have kX := Blk.new_ w4 28 #[.int .i64 cap, .slice AX psX.length cX, .slice BX tsX.length eX] (w4.heap.size) (by simp)
  have hZ4 : Below w.heap.size w _ := hY4.trans (hA4.mono hY4.size)
  go_wp2_with fail
  refine (qY _ _ hstX).mono ?_
  rintro e w5 ⟨v5, rfl, hstY, hb5⟩
  obtain ⟨hc5, hf5⟩ := bcell hb5
  have hz5 := hb5.size
  simp at hz5
  replace hst0 := hst0.keep hb5
  replace kC := kC.keep hb5
  replace hstX := hstX.keep hb5
  replace kX := kX.keep hb5
  have hY5 := hZ4.trans (hb5.mono hZ4.size)
  have zkC_5 : w.heap.size < w5.heap.size := by omega
  have zkX_5 : w4.heap.size < w5.heap.size := by omega
  replace hstY := hstY.to
  try dsimp only at hstY
  obtain ⟨AY, cY, BY, eY, rfl, hstY⟩ := hstY.form
  have hA5 := ((Below.refl w5.heap.size w5).alloc (Nat.le_refl _) (.cells #[.int .i64 cap, .slice AY psY.length cY, .slice BY tsY.length eY] 28))
  replace hst0 := hst0.keep hA5
  replace kC := kC.keep hA5
  replace hstX := hstX.keep hA5
  replace kX := kX.keep hA5
  replace hstY := hstY.keep hA5
  have kY := Blk.new_ w5 28 #[.int .i64 cap, .slice AY psY.length cY, .slice BY tsY.length eY] (w5.heap.size) (by simp)
  have hZ5 : Below w.heap.size w _ := hY5.trans (hA5.mono hY5.size)
  go_wp2_with fail
  refine (qP _ _ hst0).mono ?_
  rintro e w6 ⟨v6, rfl, hstP, hb6⟩
  obtain ⟨hc6, hf6⟩ := bcell hb6
  have hz6 := hb6.size
  simp at hz6
  replace hst0 := hst0.keep hb6
  replace kC := kC.keep hb6
  replace hstX := hstX.keep hb6
  replace kX := kX.keep hb6
  replace hstY := hstY.keep hb6
  replace kY := kY.keep hb6
  have hY6 := hZ5.trans (hb6.mono hZ5.size)
  have zkC_6 : w.heap.size < w6.heap.size := by omega
  have zkX_6 : w4.heap.size < w6.heap.size := by omega
  have zkY_6 : w5.heap.size < w6.heap.size := by omega
  replace hstP := hstP.to
  try dsimp only at hstP
  obtain ⟨AP, cP, BP, eP, rfl, hstP⟩ := hstP.form
  have hA6 := ((Below.refl w6.heap.size w6).alloc (Nat.le_refl _) (.cells #[.int .i64 cap, .slice AP psP.length cP, .slice BP tsP.length eP] 28))
  replace hst0 := hst0.keep hA6
  replace kC := kC.keep hA6
  replace hstX := hstX.keep hA6
  replace kX := kX.keep hA6
  replace hstY := hstY.keep hA6
  replace kY := kY.keep hA6
  replace hstP := hstP.keep hA6
  have kP := Blk.new_ w6 28 #[.int .i64 cap, .slice AP psP.length cP, .slice BP tsP.length eP] (w6.heap.size) (by simp)
  have hZ6 : Below w.heap.size w _ := hY6.trans (hA6.mono hY6.size)
  go_wp2_with fail
  refine (qQ _ _ hstP).mono ?_
  rintro e w7 ⟨v7, rfl, hstQ, hb7⟩
  obtain ⟨hc7, hf7⟩ := bcell hb7
  have hz7 := hb7.size
  simp at hz7
  replace hst0 := hst0.keep hb7
  replace kC := kC.keep hb7
  replace hstX := hstX.keep hb7
  replace kX := kX.keep hb7
  replace hstY := hstY.keep hb7
  replace kY := kY.keep hb7
  replace hstP := hstP.keep hb7
  replace kP := kP.keep hb7
  have hY7 := hZ6.trans (hb7.mono hZ6.size)
  have zkC_7 : w.heap.size < w7.heap.size := by omega
  have zkX_7 : w4.heap.size < w7.heap.size := by omega
  have zkY_7 : w5.heap.size < w7.heap.size := by omega
  have zkP_7 : w6.heap.size < w7.heap.size := by omega
  replace hstQ := hstQ.to
  try dsimp only at hstQ
  obtain ⟨AQ, cQ, BQ, eQ, rfl, hstQ⟩ := hstQ.form
  go_wp2_with fail
  have hA7 := ((Below.refl w7.heap.size w7).alloc (Nat.le_refl _) (.cells #[.int .i64 cap, .slice AQ psQ.length cQ, .slice BQ tsQ.length eQ] 28))
  replace hst0 := hst0.keep hA7
  replace kC := kC.keep hA7
  replace hstX := hstX.keep hA7
  replace kX := kX.keep hA7
  replace hstY := hstY.keep hA7
  replace kY := kY.keep hA7
  replace hstP := hstP.keep hA7
  replace kP := kP.keep hA7
  replace hstQ := hstQ.keep hA7
  have kQ := Blk.new_ w7 28 #[.int .i64 cap, .slice AQ psQ.length cQ, .slice BQ tsQ.length eQ] (w7.heap.size) (by simp)
  have hZ7 : Below w.heap.size w _ := hY7.trans (hA7.mono hY7.size)
  obtain ⟨w8, hw8⟩ : ∃ x, (w7.alloc (.cells #[.int .i64 cap, .slice AQ psQ.length cQ, .slice BQ tsQ.length eQ] 28)) = x := ⟨_, rfl⟩
  rw [hw8] at hst0
  rw [hw8] at kC
  rw [hw8] at hstX
  rw [hw8] at kX
  rw [hw8] at hstY
  rw [hw8] at kY
  rw [hw8] at hstP
  rw [hw8] at kP
  rw [hw8] at hstQ
  rw [hw8] at kQ
  have hY8 := hZ7
  rw [hw8] at hY8 ⊢
  have kC_lt := kC.lt
  have kC_0 : w8.cell? ⟨w.heap.size, 0, none⟩ = some (.int .i64 cap) := by rw [kC.cell]; rfl
  have kC_1 : w8.cell? ⟨w.heap.size, 1, none⟩ = some (.slice A0 ps.length c0) := by rw [kC.cell]; rfl
  have kC_2 : w8.cell? ⟨w.heap.size, 2, none⟩ = some (.slice B0 ts.length e0) := by rw [kC.cell]; rfl
  have kX_lt := kX.lt
  have kX_0 : w8.cell? ⟨w4.heap.size, 0, none⟩ = some (.int .i64 cap) := by rw [kX.cell]; rfl
  have kX_1 : w8.cell? ⟨w4.heap.size, 1, none⟩ = some (.slice AX psX.length cX) := by rw [kX.cell]; rfl
  have kX_2 : w8.cell? ⟨w4.heap.size, 2, none⟩ = some (.slice BX tsX.length eX) := by rw [kX.cell]; rfl
  have kY_lt := kY.lt
  have kY_0 : w8.cell? ⟨w5.heap.size, 0, none⟩ = some (.int .i64 cap) := by rw [kY.cell]; rfl
  have kY_1 : w8.cell? ⟨w5.heap.size, 1, none⟩ = some (.slice AY psY.length cY) := by rw [kY.cell]; rfl
  have kY_2 : w8.cell? ⟨w5.heap.size, 2, none⟩ = some (.slice BY tsY.length eY) := by rw [kY.cell]; rfl
  have kP_lt := kP.lt
  have kP_0 : w8.cell? ⟨w6.heap.size, 0, none⟩ = some (.int .i64 cap) := by rw [kP.cell]; rfl
  have kP_1 : w8.cell? ⟨w6.heap.size, 1, none⟩ = some (.slice AP psP.length cP) := by rw [kP.cell]; rfl
  have kP_2 : w8.cell? ⟨w6.heap.size, 2, none⟩ = some (.slice BP tsP.length eP) := by rw [kP.cell]; rfl
  have kQ_lt := kQ.lt
  have kQ_0 : w8.cell? ⟨w7.heap.size, 0, none⟩ = some (.int .i64 cap) := by rw [kQ.cell]; rfl
  have kQ_1 : w8.cell? ⟨w7.heap.size, 1, none⟩ = some (.slice AQ psQ.length cQ) := by rw [kQ.cell]; rfl
  have kQ_2 : w8.cell? ⟨w7.heap.size, 2, none⟩ = some (.slice BQ tsQ.length eQ) := by rw [kQ.cell]; rfl
  have HWY := Lib.hid hY8
  have HKY := Lib.hid kY
  have HKQ := Lib.hid kQ
  have HSY := Lib.hid hstY
  have HSQ := Lib.hid hstQ
  clear hY8 kC kX kY kP kQ hst0 hstX hstY hstP hstQ
  go_loopg [23] 16 (fun gg s23 wr => ∃ kk : Nat, kk ≤ 16 ∧ 16 - kk ≤ gg ∧ s23 = .int .i64 kk ∧ Hid (Below w8.heap.size w8 wr))
  case atStart => exact ⟨0, by omega, by omega, rfl, Lib.hid (Below.refl _ _)⟩
  case round =>
    obtain ⟨kk, hk, hg, rfl, BW⟩ := hrel
    have kY := HKY.out.keep BW.out
    have kQ := HKQ.out.keep BW.out
    have z1 := kY.lt
    have z2 := kQ.lt
    have p0 : wr.cell? ⟨w5.heap.size, 0, none⟩ = some (.int .i64 cap) := (by rw [kY.cell]; rfl)
    have p1 : wr.cell? ⟨w5.heap.size, 1, none⟩ = some (.slice AY psY.length cY) := (by rw [kY.cell]; rfl)
    have p2 : wr.cell? ⟨w5.heap.size, 2, none⟩ = some (.slice BY tsY.length eY) := (by rw [kY.cell]; rfl)
    by_cases hlt : kk < 16
    · have hltz : (kk : Int) < 16 := (by omega)
      obtain ⟨m, f, r1, r2, ra, rb⟩ := HR.out (kk : Int)
      have q1 := fun x W h => Read_any x cap psY tsY t kk W h lY
      rw [r1] at q1
      have q2 := fun x W h => Read_any x cap psQ tsQ t kk W h lQ
      rw [r2] at q2
      have HRA := Lib.hid ra
      have HRB := Lib.hid rb
      clear r1 r2 ra rb kY
      go_wp2_with fail
      refine (q1 _ _ (HSY.out.keep BW.out)).mono ?_
      rintro x w1 ⟨rfl, hb1⟩
      have B1 := BW.out.trans (hb1.mono BW.out.size)
      have kQ1 := kQ.keep hb1
      have s0 : w1.cell? ⟨w7.heap.size, 0, none⟩ = some (.int .i64 cap) := (by rw [kQ1.cell]; rfl)
      have s1 : w1.cell? ⟨w7.heap.size, 1, none⟩ = some (.slice AQ psQ.length cQ) := (by rw [kQ1.cell]; rfl)
      have s2 : w1.cell? ⟨w7.heap.size, 2, none⟩ = some (.slice BQ tsQ.length eQ) := (by rw [kQ1.cell]; rfl)
      clear kQ kQ1 p0 p1 p2
      go_wp2_with fail
      refine (q2 _ _ (HSQ.out.keep B1)).mono ?_
      rintro x w2 ⟨rfl, hb2⟩
      have B2 := Lib.hid (B1.trans (hb2.mono B1.size))
      clear s0 s1 s2 B1 hb1 hb2
      by_cases ga : (kk : Int) = a
      · have ma := HRA.out ga
        have gb : ((kk : Int) == b) = false := (by rw [ga]; exact g')
        have ga' : ((kk : Int) == a) = true := (by simpa using ga)
        have ma' : (m != v) = false := (by simpa using ma)
        clear ga ma g'
        go_wp2
        go_roundg (16 - (kk + 1))
        case measure => omega
        case rel => exact ⟨kk + 1, by omega, by omega, by go_num, B2⟩
      · have ga' : ((kk : Int) == a) = false := (by simpa using ga)
        by_cases gb : (kk : Int) = b
        · have mb := HRB.out gb
          have gb' : ((kk : Int) == b) = true := (by simpa using gb)
          have mb' : (m != u) = false := (by simpa using mb)
          clear ga gb mb g'
          go_wp2
          go_roundg (16 - (kk + 1))
          case measure => omega
          case rel => exact ⟨kk + 1, by omega, by omega, by go_num, B2⟩
        · have gb' : ((kk : Int) == b) = false := (by simpa using gb)
          clear ga gb g'
          go_wp2
          go_roundg (16 - (kk + 1))
          case measure => omega
          case rel => exact ⟨kk + 1, by omega, by omega, by go_num, B2⟩
    · obtain rfl : kk = 16 := (by omega)
      go_wp2
      go_ret
      exact ⟨rfl, HWY.out.trans (BW.out.mono HWY.out.size)⟩

theorem tableTwice_walk (w : World) (v0 : Value) (cap : Int) (ps : List Pg) (ts : List (List Int)) (hst0 : HpV w v0 cap ps ts) (_wc : okI cap) (_wp : ∀ q ∈ ps, pgOk q) (_wt : ∀ t ∈ ts, ∀ q ∈ t, okI q) (t : Int) (_w0 : (Lit.int .i64 t).wf = true) (a : Int) (_w1 : (Lit.int .i64 a).wf = true) (v : Int) (_w2 : (Lit.int .i64 v).wf = true) (b : Int) (_w3 : (Lit.int .i64 b).wf = true) (u : Int) (_w4 : (Lit.int .i64 u).wf = true) :
    Calls Try.prog 5 #[v0, .int .i64 t, .int .i64 a, .int .i64 v, .int .i64 b, .int .i64 u] w fun e w' => e = .returned (.bool true) ∧ Below w.heap.size w w' := by
  obtain ⟨A0, c0, B0, e0, rfl, hst0⟩ := hst0.form
  cases hF : fewH ps ts with
  | false => exact tableTwice_many w A0 B0 c0 e0 cap ps ts hst0 t a v b u hF
  | true =>
  have ln : ps.length ≤ 20 := (few_iff.1 hF).2.1
  cases hM : mayH cap ps ts with
  | false => exact tableTwice_bad w A0 B0 c0 e0 cap ps ts hst0 t a v b u hF hM ln
  | true =>
  have HM := mayH_iff.1 hM
  have lm : ts.length ≤ 5 := HM.five
  have ll : ∀ t ∈ ts, t.length ≤ 4 := fun t ht => by rcases HM.len t ht with h | h <;> omega
  by_cases g : a = b
  · exact tableTwice_same w A0 B0 c0 e0 cap ps ts hst0 t a v b u hF hM ln lm ll g
  rcases hX : writeH cap ps ts t a v with ⟨eX, psX, tsX⟩
  rcases hY : writeH cap psX tsX t b u with ⟨eY, psY, tsY⟩
  rcases hP : writeH cap ps ts t b u with ⟨eP, psP, tsP⟩
  rcases hQ : writeH cap psP tsP t a v with ⟨eQ, psQ, tsQ⟩
  have HX := write_mh HM hX
  have HP := write_mh HM hP
  have HY := write_mh HX hY
  have HQ := write_mh HP hQ
  have lX := HX.lens
  have lP := HP.lens
  by_cases zX : eX = 0
  · by_cases zY : eY = 0
    · by_cases zP : eP = 0
      · by_cases zQ : eQ = 0
        · refine tableTwice_main w A0 B0 c0 e0 cap ps ts hst0 t a v b u hF hM ln lm ll g eX eY eP eQ psX psY psP psQ tsX tsY tsP tsQ hX hY hP hQ lX lP zX zY zP zQ (by have := HY.lens.1; omega) (by have := HQ.lens.1; omega) fun at1 => ?_
          subst zX zY zP zQ
          have rX := read_write (cap := cap) (ps := ps) (ts := ts) (t := t) (a := a) (v := v) (u := t) (b := at1) (by rw [hX])
          have rP := read_write (cap := cap) (ps := ps) (ts := ts) (t := t) (a := b) (v := u) (u := t) (b := at1) (by rw [hP])
          have rY := read_write (cap := cap) (ps := psX) (ts := tsX) (t := t) (a := b) (v := u) (u := t) (b := at1) (by rw [hY])
          have rQ := read_write (cap := cap) (ps := psP) (ts := tsP) (t := t) (a := a) (v := v) (u := t) (b := at1) (by rw [hQ])
          rw [hX] at rX
          rw [hP] at rP
          rw [hY] at rY
          rw [hQ] at rQ
          dsimp only at rX rP rY rQ
          by_cases ga : at1 = a
          · have gb : ¬ (t = t ∧ at1 = b) := fun h => g (ga.symm.trans h.2)
            exact ⟨v, 0, by rw [rY.2.1 gb, rX.1 ⟨rfl, ga⟩], by rw [rQ.1 ⟨rfl, ga⟩], fun _ => rfl, fun h => absurd (ga.symm.trans h) g⟩
          · have ga' : ¬ (t = t ∧ at1 = a) := fun h => ga h.2
            by_cases gb : at1 = b
            · exact ⟨u, 0, by rw [rY.1 ⟨rfl, gb⟩], by rw [rQ.2.1 ga', rP.1 ⟨rfl, gb⟩], fun h => absurd h ga, fun _ => rfl⟩
            · have gb' : ¬ (t = t ∧ at1 = b) := fun h => gb h.2
              exact ⟨(readH cap ps ts t at1).1, (readH cap ps ts t at1).2, by rw [rY.2.1 gb', rX.2.1 ga'], by rw [rQ.2.1 ga', rP.2.1 gb'], fun h => absurd h ga, fun h => absurd h gb⟩
        · exact tableTwice_eQ w A0 B0 c0 e0 cap ps ts hst0 t a v b u hF hM ln lm ll g eX eY eP eQ psX psY psP psQ tsX tsY tsP tsQ hX hY hP hQ lX lP zX zY zP (by simpa using zQ)
      · exact tableTwice_eP w A0 B0 c0 e0 cap ps ts hst0 t a v b u hF hM ln lm ll g eX eY eP eQ psX psY psP psQ tsX tsY tsP tsQ hX hY hP hQ lX lP zX zY (by simpa using zP)
    · exact tableTwice_eY w A0 B0 c0 e0 cap ps ts hst0 t a v b u hF hM ln lm ll g eX eY eP eQ psX psY psP psQ tsX tsY tsP tsQ hX hY hP hQ lX lP zX (by simpa using zY)
  · exact tableTwice_eX w A0 B0 c0 e0 cap ps ts hst0 t a v b u hF hM ln lm ll g eX eY eP eQ psX psY psP psQ tsX tsY tsP tsQ hX hY hP hQ lX lP (by simpa using zX)

end Go.Proofs.Ytoogobenjhmjjaa
