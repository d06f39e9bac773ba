/- The walk of TableApart. -/
import Derived.Test.YtoogobenjhmjjaaTbPlain3
import Derived.Test.YtoogobenjhmjjaaTbOpen
namespace Go.Proofs.Ytoogobenjhmjjaa
open Go Go.RowKit
set_option linter.unusedVariables false

set_option maxRecDepth 100000 in
set_option maxHeartbeats 4000000 in
theorem tableApart_many (w : World) (A0 B0 : Option Addr) (c0 e0 : Nat) (cap : Int) (ps : List Pg) (ts : List (List Int)) (hst0 : HpV w (.agg #[.int .i64 cap, .slice A0 ps.length c0, .slice B0 ts.length e0]) cap ps ts) (t a v u k : Int) (hF : fewH ps ts = false) :
    Calls Try.prog 4 #[.agg #[.int .i64 cap, .slice A0 ps.length c0, .slice B0 ts.length e0], .int .i64 t, .int .i64 a, .int .i64 v, .int .i64 u, .int .i64 k] w fun e w' => e = .returned (.bool true) ∧ Below w.heap.size w w' := by
  have qF := fun v W h => few_any v cap ps ts W h
  rw [hF] at qF
  go_enter Try.func4, Try.ntmps4
  have hA0 := ((Below.refl w.heap.size w).alloc (Nat.le_refl _) (.cells #[.int .i64 cap, .slice A0 ps.length c0, .slice B0 ts.length e0] 28))
  replace hst0 := hst0.keep hA0
  have kC := Blk.new_ w 28 #[.int .i64 cap, .slice A0 ps.length c0, .slice B0 ts.length e0] (w.heap.size) (by simp)
  have hZ0 : Below w.heap.size w _ := hA0
  go_wp2_with fail
  refine (tawake_any _).mono ?_
  rintro e w1 ⟨rfl, hb1⟩
  obtain ⟨hc1, hf1⟩ := bcell hb1
  have hz1 := hb1.size
  simp at hz1
  replace hst0 := hst0.keep hb1
  replace kC := kC.keep hb1
  have hY1 := hZ0.trans (hb1.mono hZ0.size)
  have zkC_1 : w.heap.size < w1.heap.size := by omega
  have hZ1 : Below w.heap.size w w1 := hY1
  go_wp2_with fail
  refine (qF _ _ hst0).mono ?_
  rintro e w2 ⟨rfl, hb2⟩
  obtain ⟨hc2, hf2⟩ := bcell hb2
  have hz2 := hb2.size
  replace hst0 := hst0.keep hb2
  replace kC := kC.keep hb2
  have hY2 := hZ1.trans (hb2.mono hZ1.size)
  have zkC_2 : w.heap.size < w2.heap.size := by omega
  go_wp2
  go_ret
  exact ⟨by first | rfl | (simp [*]; done), hY2⟩

set_option maxRecDepth 100000 in
set_option maxHeartbeats 4000000 in
theorem tableApart_bad (w : World) (A0 B0 : Option Addr) (c0 e0 : Nat) (cap : Int) (ps : List Pg) (ts : List (List Int)) (hst0 : HpV w (.agg #[.int .i64 cap, .slice A0 ps.length c0, .slice B0 ts.length e0]) cap ps ts) (t a v u k : Int) (hF : fewH ps ts = true) (hM : mayH cap ps ts = false) (ln : ps.length ≤ 20) :
    Calls Try.prog 4 #[.agg #[.int .i64 cap, .slice A0 ps.length c0, .slice B0 ts.length e0], .int .i64 t, .int .i64 a, .int .i64 v, .int .i64 u, .int .i64 k] w fun e w' => e = .returned (.bool true) ∧ Below w.heap.size w w' := by
  have qF := fun v W h => few_any v cap ps ts W h
  rw [hF] at qF
  have qM := fun v W h => tmay_any v cap ps ts W h (by omega)
  rw [hM] at qM
  go_enter Try.func4, Try.ntmps4
  have hA0 := ((Below.refl w.heap.size w).alloc (Nat.le_refl _) (.cells #[.int .i64 cap, .slice A0 ps.length c0, .slice B0 ts.length e0] 28))
  replace hst0 := hst0.keep hA0
  have kC := Blk.new_ w 28 #[.int .i64 cap, .slice A0 ps.length c0, .slice B0 ts.length e0] (w.heap.size) (by simp)
  have hZ0 : Below w.heap.size w _ := hA0
  go_wp2_with fail
  refine (tawake_any _).mono ?_
  rintro e w1 ⟨rfl, hb1⟩
  obtain ⟨hc1, hf1⟩ := bcell hb1
  have hz1 := hb1.size
  simp at hz1
  replace hst0 := hst0.keep hb1
  replace kC := kC.keep hb1
  have hY1 := hZ0.trans (hb1.mono hZ0.size)
  have zkC_1 : w.heap.size < w1.heap.size := by omega
  have hZ1 : Below w.heap.size w w1 := hY1
  go_wp2_with fail
  refine (qF _ _ hst0).mono ?_
  rintro e w2 ⟨rfl, hb2⟩
  obtain ⟨hc2, hf2⟩ := bcell hb2
  have hz2 := hb2.size
  replace hst0 := hst0.keep hb2
  replace kC := kC.keep hb2
  have hY2 := hZ1.trans (hb2.mono hZ1.size)
  have zkC_2 : w.heap.size < w2.heap.size := by omega
  have hZ2 : Below w.heap.size w w2 := hY2
  go_wp2_with fail
  refine (qM _ _ hst0).mono ?_
  rintro e w3 ⟨rfl, hb3⟩
  obtain ⟨hc3, hf3⟩ := bcell hb3
  have hz3 := hb3.size
  replace hst0 := hst0.keep hb3
  replace kC := kC.keep hb3
  have hY3 := hZ2.trans (hb3.mono hZ2.size)
  have zkC_3 : w.heap.size < w3.heap.size := by omega
  go_wp2
  go_ret
  exact ⟨by first | rfl | (simp [*]; done), hY3⟩

set_option maxRecDepth 100000 in
set_option maxHeartbeats 4000000 in
theorem tableApart_err (w : World) (A0 B0 : Option Addr) (c0 e0 : Nat) (cap : Int) (ps : List Pg) (ts : List (List Int)) (hst0 : HpV w (.agg #[.int .i64 cap, .slice A0 ps.length c0, .slice B0 ts.length e0]) cap ps ts) (t a v u k : Int) (hF : fewH ps ts = true) (hM : mayH cap ps ts = true) (ln : ps.length ≤ 20) (lm : ts.length ≤ 5) (ll : ∀ t ∈ ts, t.length ≤ 4) (eW r1 f1 r2 f2 : Int) (psW : List Pg) (tsW : List (List Int)) (lW : psW.length ≤ 1000) (hW : writeH cap ps ts t a v = (eW, psW, tsW)) (h1 : readH cap ps ts u k = (r1, f1)) (h2 : readH cap psW tsW u k = (r2, f2)) (hE : (eW != 0) = true) (hS : sameH cap psW tsW cap ps ts = true) :
    Calls Try.prog 4 #[.agg #[.int .i64 cap, .slice A0 ps.length c0, .slice B0 ts.length e0], .int .i64 t, .int .i64 a, .int .i64 v, .int .i64 u, .int .i64 k] w fun e w' => e = .returned (.bool true) ∧ Below w.heap.size w w' := by
  have qF := fun v W h => few_any v cap ps ts W h
  rw [hF] at qF
  have qM := fun v W h => tmay_any v cap ps ts W h (by omega)
  rw [hM] at qM
  have qW := fun x W h => tWrite_any x cap ps ts t a v W h (by omega) (by omega) (fun t ht => by have := ll t ht; omega)
  rw [hW] at qW
  have q1 := fun x W h => Read_any x cap ps ts u k W h (by omega)
  rw [h1] at q1
  have q2 := fun x W h => Read_any x cap psW tsW u k W h (by omega)
  rw [h2] at q2
  clear hF hM hW h1 h2 ll
  have qS := fun x y W h g => tsame_any x y cap psW tsW cap ps ts W h g
  rw [hS] at qS
  clear hS
  go_enter Try.func4, Try.ntmps4
  have hA0 := ((Below.refl w.heap.size w).alloc (Nat.le_refl _) (.cells #[.int .i64 cap, .slice A0 ps.length c0, .slice B0 ts.length e0] 28))
  replace hst0 := hst0.keep hA0
  have kC := Blk.new_ w 28 #[.int .i64 cap, .slice A0 ps.length c0, .slice B0 ts.length e0] (w.heap.size) (by simp)
  have hZ0 : Below w.heap.size w _ := hA0
  go_wp2_with fail
  refine (tawake_any _).mono ?_
  rintro e w1 ⟨rfl, hb1⟩
  obtain ⟨hc1, hf1⟩ := bcell hb1
  have hz1 := hb1.size
  simp at hz1
  replace hst0 := hst0.keep hb1
  replace kC := kC.keep hb1
  have hY1 := hZ0.trans (hb1.mono hZ0.size)
  have zkC_1 : w.heap.size < w1.heap.size := by omega
  have hZ1 : Below w.heap.size w w1 := hY1
  go_wp2_with fail
  refine (qF _ _ hst0).mono ?_
  rintro e w2 ⟨rfl, hb2⟩
  obtain ⟨hc2, hf2⟩ := bcell hb2
  have hz2 := hb2.size
  replace hst0 := hst0.keep hb2
  replace kC := kC.keep hb2
  have hY2 := hZ1.trans (hb2.mono hZ1.size)
  have zkC_2 : w.heap.size < w2.heap.size := by omega
  have hZ2 : Below w.heap.size w w2 := hY2
  go_wp2_with fail
  refine (qM _ _ hst0).mono ?_
  rintro e w3 ⟨rfl, hb3⟩
  obtain ⟨hc3, hf3⟩ := bcell hb3
  have hz3 := hb3.size
  replace hst0 := hst0.keep hb3
  replace kC := kC.keep hb3
  have hY3 := hZ2.trans (hb3.mono hZ2.size)
  have zkC_3 : w.heap.size < w3.heap.size := by omega
  have hZ3 : Below w.heap.size w w3 := hY3
  go_wp2_with fail
  refine (qW _ _ hst0).mono ?_
  rintro e w4 ⟨v4, rfl, hstW, hb4⟩
  obtain ⟨hc4, hf4⟩ := bcell hb4
  have hz4 := hb4.size
  replace hst0 := hst0.keep hb4
  replace kC := kC.keep hb4
  have hY4 := hZ3.trans (hb4.mono hZ3.size)
  have zkC_4 : w.heap.size < w4.heap.size := by omega
  replace hstW := hstW.to
  try dsimp only at hstW
  obtain ⟨AW, cW, BW, eW, rfl, hstW⟩ := hstW.form
  have hA4 := ((Below.refl w4.heap.size w4).alloc (Nat.le_refl _) (.cells #[.int .i64 cap, .slice AW psW.length cW, .slice BW tsW.length eW] 28))
  replace hst0 := hst0.keep hA4
  replace kC := kC.keep hA4
  replace hstW := hstW.keep hA4
  have kW := Blk.new_ w4 28 #[.int .i64 cap, .slice AW psW.length cW, .slice BW tsW.length eW] (w4.heap.size) (by simp)
  have hZ4 : Below w.heap.size w _ := hY4.trans (hA4.mono hY4.size)
  go_wp2_with fail
  refine (q1 _ _ hst0).mono ?_
  rintro e w5 ⟨rfl, hb5⟩
  obtain ⟨hc5, hf5⟩ := bcell hb5
  have hz5 := hb5.size
  simp at hz5
  replace hst0 := hst0.keep hb5
  replace kC := kC.keep hb5
  replace hstW := hstW.keep hb5
  replace kW := kW.keep hb5
  have hY5 := hZ4.trans (hb5.mono hZ4.size)
  have zkC_5 : w.heap.size < w5.heap.size := by omega
  have zkW_5 : w4.heap.size < w5.heap.size := by omega
  have hZ5 : Below w.heap.size w w5 := hY5
  go_wp2_with fail
  refine (q2 _ _ hstW).mono ?_
  rintro e w6 ⟨rfl, hb6⟩
  obtain ⟨hc6, hf6⟩ := bcell hb6
  have hz6 := hb6.size
  replace hst0 := hst0.keep hb6
  replace kC := kC.keep hb6
  replace hstW := hstW.keep hb6
  replace kW := kW.keep hb6
  have hY6 := hZ5.trans (hb6.mono hZ5.size)
  have zkC_6 : w.heap.size < w6.heap.size := by omega
  have zkW_6 : w4.heap.size < w6.heap.size := by omega
  have hZ6 : Below w.heap.size w w6 := hY6
  go_wp2_with fail
  refine (qS _ _ _ hstW hst0).mono ?_
  rintro e w7 ⟨rfl, hb7⟩
  obtain ⟨hc7, hf7⟩ := bcell hb7
  have hz7 := hb7.size
  replace hst0 := hst0.keep hb7
  replace kC := kC.keep hb7
  replace hstW := hstW.keep hb7
  replace kW := kW.keep hb7
  have hY7 := hZ6.trans (hb7.mono hZ6.size)
  have zkC_7 : w.heap.size < w7.heap.size := by omega
  have zkW_7 : w4.heap.size < w7.heap.size := by omega
  go_wp2
  go_ret
  exact ⟨by first | rfl | (simp [*]; done), hY7⟩

set_option maxRecDepth 100000 in
set_option maxHeartbeats 4000000 in
theorem tableApart_at (w : World) (A0 B0 : Option Addr) (c0 e0 : Nat) (cap : Int) (ps : List Pg) (ts : List (List Int)) (hst0 : HpV w (.agg #[.int .i64 cap, .slice A0 ps.length c0, .slice B0 ts.length e0]) cap ps ts) (t a v u k : Int) (hF : fewH ps ts = true) (hM : mayH cap ps ts = true) (ln : ps.length ≤ 20) (lm : ts.length ≤ 5) (ll : ∀ t ∈ ts, t.length ≤ 4) (eW r1 f1 r2 f2 : Int) (psW : List Pg) (tsW : List (List Int)) (lW : psW.length ≤ 1000) (hW : writeH cap ps ts t a v = (eW, psW, tsW)) (h1 : readH cap ps ts u k = (r1, f1)) (h2 : readH cap psW tsW u k = (r2, f2)) (hE : eW = 0) (g1 : u = t) (g2 : k = a) (g3 : f2 = 0) (g4 : r2 = v) :
    Calls Try.prog 4 #[.agg #[.int .i64 cap, .slice A0 ps.length c0, .slice B0 ts.length e0], .int .i64 t, .int .i64 a, .int .i64 v, .int .i64 u, .int .i64 k] w fun e w' => e = .returned (.bool true) ∧ Below w.heap.size w w' := by
  have qF := fun v W h => few_any v cap ps ts W h
  rw [hF] at qF
  have qM := fun v W h => tmay_any v cap ps ts W h (by omega)
  rw [hM] at qM
  have qW := fun x W h => tWrite_any x cap ps ts t a v W h (by omega) (by omega) (fun t ht => by have := ll t ht; omega)
  rw [hW] at qW
  have q1 := fun x W h => Read_any x cap ps ts u k W h (by omega)
  rw [h1] at q1
  have q2 := fun x W h => Read_any x cap psW tsW u k W h (by omega)
  rw [h2] at q2
  clear hF hM hW h1 h2 ll
  subst hE g1 g2 g3 g4
  go_enter Try.func4, Try.ntmps4
  have hA0 := ((Below.refl w.heap.size w).alloc (Nat.le_refl _) (.cells #[.int .i64 cap, .slice A0 ps.length c0, .slice B0 ts.length e0] 28))
  replace hst0 := hst0.keep hA0
  have kC := Blk.new_ w 28 #[.int .i64 cap, .slice A0 ps.length c0, .slice B0 ts.length e0] (w.heap.size) (by simp)
  have hZ0 : Below w.heap.size w _ := hA0
  go_wp2_with fail
  refine (tawake_any _).mono ?_
  rintro e w1 ⟨rfl, hb1⟩
  obtain ⟨hc1, hf1⟩ := bcell hb1
  have hz1 := hb1.size
  simp at hz1
  replace hst0 := hst0.keep hb1
  replace kC := kC.keep hb1
  have hY1 := hZ0.trans (hb1.mono hZ0.size)
  have zkC_1 : w.heap.size < w1.heap.size := by omega
  have hZ1 : Below w.heap.size w w1 := hY1
  go_wp2_with fail
  refine (qF _ _ hst0).mono ?_
  rintro e w2 ⟨rfl, hb2⟩
  obtain ⟨hc2, hf2⟩ := bcell hb2
  have hz2 := hb2.size
  replace hst0 := hst0.keep hb2
  replace kC := kC.keep hb2
  have hY2 := hZ1.trans (hb2.mono hZ1.size)
  have zkC_2 : w.heap.size < w2.heap.size := by omega
  have hZ2 : Below w.heap.size w w2 := hY2
  go_wp2_with fail
  refine (qM _ _ hst0).mono ?_
  rintro e w3 ⟨rfl, hb3⟩
  obtain ⟨hc3, hf3⟩ := bcell hb3
  have hz3 := hb3.size
  replace hst0 := hst0.keep hb3
  replace kC := kC.keep hb3
  have hY3 := hZ2.trans (hb3.mono hZ2.size)
  have zkC_3 : w.heap.size < w3.heap.size := by omega
  have hZ3 : Below w.heap.size w w3 := hY3
  go_wp2_with fail
  refine (qW _ _ hst0).mono ?_
  rintro e w4 ⟨v4, rfl, hstW, hb4⟩
  obtain ⟨hc4, hf4⟩ := bcell hb4
  have hz4 := hb4.size
  replace hst0 := hst0.keep hb4
  replace kC := kC.keep hb4
  have hY4 := hZ3.trans (hb4.mono hZ3.size)
  have zkC_4 : w.heap.size < w4.heap.size := by omega
  replace hstW := hstW.to
  try dsimp only at hstW
  obtain ⟨AW, cW, BW, eW, rfl, hstW⟩ := hstW.form
  have hA4 := ((Below.refl w4.heap.size w4).alloc (Nat.le_refl _) (.cells #[.int .i64 cap, .slice AW psW.length cW, .slice BW tsW.length eW] 28))
  replace hst0 := hst0.keep hA4
  replace kC := kC.keep hA4
  replace hstW := hstW.keep hA4
  have kW := Blk.new_ w4 28 #[.int .i64 cap, .slice AW psW.length cW, .slice BW tsW.length eW] (w4.heap.size) (by simp)
  have hZ4 : Below w.heap.size w _ := hY4.trans (hA4.mono hY4.size)
  go_wp2_with fail
  refine (q1 _ _ hst0).mono ?_
  rintro e w5 ⟨rfl, hb5⟩
  obtain ⟨hc5, hf5⟩ := bcell hb5
  have hz5 := hb5.size
  simp at hz5
  replace hst0 := hst0.keep hb5
  replace kC := kC.keep hb5
  replace hstW := hstW.keep hb5
  replace kW := kW.keep hb5
  have hY5 := hZ4.trans (hb5.mono hZ4.size)
  have zkC_5 : w.heap.size < w5.heap.size := by omega
  have zkW_5 : w4.heap.size < w5.heap.size := by omega
  have hZ5 : Below w.heap.size w w5 := hY5
  go_wp2_with fail
  refine (q2 _ _ hstW).mono ?_
  rintro e w6 ⟨rfl, hb6⟩
  obtain ⟨hc6, hf6⟩ := bcell hb6
  have hz6 := hb6.size
  replace hst0 := hst0.keep hb6
  replace kC := kC.keep hb6
  replace hstW := hstW.keep hb6
  replace kW := kW.keep hb6
  have hY6 := hZ5.trans (hb6.mono hZ5.size)
  have zkC_6 : w.heap.size < w6.heap.size := by omega
  have zkW_6 : w4.heap.size < w6.heap.size := by omega
  go_wp2
  go_ret
  exact ⟨by first | rfl | (simp [*]; done), hY6⟩

set_option maxRecDepth 100000 in
set_option maxHeartbeats 4000000 in
theorem tableApart_other (w : World) (A0 B0 : Option Addr) (c0 e0 : Nat) (cap : Int) (ps : List Pg) (ts : List (List Int)) (hst0 : HpV w (.agg #[.int .i64 cap, .slice A0 ps.length c0, .slice B0 ts.length e0]) cap ps ts) (t a v u k : Int) (hF : fewH ps ts = true) (hM : mayH cap ps ts = true) (ln : ps.length ≤ 20) (lm : ts.length ≤ 5) (ll : ∀ t ∈ ts, t.length ≤ 4) (eW r1 f1 r2 f2 : Int) (psW : List Pg) (tsW : List (List Int)) (lW : psW.length ≤ 1000) (hW : writeH cap ps ts t a v = (eW, psW, tsW)) (h1 : readH cap ps ts u k = (r1, f1)) (h2 : readH cap psW tsW u k = (r2, f2)) (hE : eW = 0) (g1 : (u == t) = false) (g3 : f2 = f1) (g4 : r2 = r1) :
    Calls Try.prog 4 #[.agg #[.int .i64 cap, .slice A0 ps.length c0, .slice B0 ts.length e0], .int .i64 t, .int .i64 a, .int .i64 v, .int .i64 u, .int .i64 k] w fun e w' => e = .returned (.bool true) ∧ Below w.heap.size w w' := by
  have qF := fun v W h => few_any v cap ps ts W h
  rw [hF] at qF
  have qM := fun v W h => tmay_any v cap ps ts W h (by omega)
  rw [hM] at qM
  have qW := fun x W h => tWrite_any x cap ps ts t a v W h (by omega) (by omega) (fun t ht => by have := ll t ht; omega)
  rw [hW] at qW
  have q1 := fun x W h => Read_any x cap ps ts u k W h (by omega)
  rw [h1] at q1
  have q2 := fun x W h => Read_any x cap psW tsW u k W h (by omega)
  rw [h2] at q2
  clear hF hM hW h1 h2 ll
  subst hE g3 g4
  go_enter Try.func4, Try.ntmps4
  have hA0 := ((Below.refl w.heap.size w).alloc (Nat.le_refl _) (.cells #[.int .i64 cap, .slice A0 ps.length c0, .slice B0 ts.length e0] 28))
  replace hst0 := hst0.keep hA0
  have kC := Blk.new_ w 28 #[.int .i64 cap, .slice A0 ps.length c0, .slice B0 ts.length e0] (w.heap.size) (by simp)
  have hZ0 : Below w.heap.size w _ := hA0
  go_wp2_with fail
  refine (tawake_any _).mono ?_
  rintro e w1 ⟨rfl, hb1⟩
  obtain ⟨hc1, hf1⟩ := bcell hb1
  have hz1 := hb1.size
  simp at hz1
  replace hst0 := hst0.keep hb1
  replace kC := kC.keep hb1
  have hY1 := hZ0.trans (hb1.mono hZ0.size)
  have zkC_1 : w.heap.size < w1.heap.size := by omega
  have hZ1 : Below w.heap.size w w1 := hY1
  go_wp2_with fail
  refine (qF _ _ hst0).mono ?_
  rintro e w2 ⟨rfl, hb2⟩
  obtain ⟨hc2, hf2⟩ := bcell hb2
  have hz2 := hb2.size
  replace hst0 := hst0.keep hb2
  replace kC := kC.keep hb2
  have hY2 := hZ1.trans (hb2.mono hZ1.size)
  have zkC_2 : w.heap.size < w2.heap.size := by omega
  have hZ2 : Below w.heap.size w w2 := hY2
  go_wp2_with fail
  refine (qM _ _ hst0).mono ?_
  rintro e w3 ⟨rfl, hb3⟩
  obtain ⟨hc3, hf3⟩ := bcell hb3
  have hz3 := hb3.size
  replace hst0 := hst0.keep hb3
  replace kC := kC.keep hb3
  have hY3 := hZ2.trans (hb3.mono hZ2.size)
  have zkC_3 : w.heap.size < w3.heap.size := by omega
  have hZ3 : Below w.heap.size w w3 := hY3
  go_wp2_with fail
  refine (qW _ _ hst0).mono ?_
  rintro e w4 ⟨v4, rfl, hstW, hb4⟩
  obtain ⟨hc4, hf4⟩ := bcell hb4
  have hz4 := hb4.size
  replace hst0 := hst0.keep hb4
  replace kC := kC.keep hb4
  have hY4 := hZ3.trans (hb4.mono hZ3.size)
  have zkC_4 : w.heap.size < w4.heap.size := by omega
  replace hstW := hstW.to
  try dsimp only at hstW
  obtain ⟨AW, cW, BW, eW, rfl, hstW⟩ := hstW.form
  have hA4 := ((Below.refl w4.heap.size w4).alloc (Nat.le_refl _) (.cells #[.int .i64 cap, .slice AW psW.length cW, .slice BW tsW.length eW] 28))
  replace hst0 := hst0.keep hA4
  replace kC := kC.keep hA4
  replace hstW := hstW.keep hA4
  have kW := Blk.new_ w4 28 #[.int .i64 cap, .slice AW psW.length cW, .slice BW tsW.length eW] (w4.heap.size) (by simp)
  have hZ4 : Below w.heap.size w _ := hY4.trans (hA4.mono hY4.size)
  go_wp2_with fail
  refine (q1 _ _ hst0).mono ?_
  rintro e w5 ⟨rfl, hb5⟩
  obtain ⟨hc5, hf5⟩ := bcell hb5
  have hz5 := hb5.size
  simp at hz5
  replace hst0 := hst0.keep hb5
  replace kC := kC.keep hb5
  replace hstW := hstW.keep hb5
  replace kW := kW.keep hb5
  have hY5 := hZ4.trans (hb5.mono hZ4.size)
  have zkC_5 : w.heap.size < w5.heap.size := by omega
  have zkW_5 : w4.heap.size < w5.heap.size := by omega
  have hZ5 : Below w.heap.size w w5 := hY5
  go_wp2_with fail
  refine (q2 _ _ hstW).mono ?_
  rintro e w6 ⟨rfl, hb6⟩
  obtain ⟨hc6, hf6⟩ := bcell hb6
  have hz6 := hb6.size
  replace hst0 := hst0.keep hb6
  replace kC := kC.keep hb6
  replace hstW := hstW.keep hb6
  replace kW := kW.keep hb6
  have hY6 := hZ5.trans (hb6.mono hZ5.size)
  have zkC_6 : w.heap.size < w6.heap.size := by omega
  have zkW_6 : w4.heap.size < w6.heap.size := by omega
  go_wp2
  go_ret
  exact ⟨by first | rfl | (simp [*]; done), hY6⟩

set_option maxRecDepth 100000 in
set_option maxHeartbeats 4000000 in
theorem tableApart_else (w : World) (A0 B0 : Option Addr) (c0 e0 : Nat) (cap : Int) (ps : List Pg) (ts : List (List Int)) (hst0 : HpV w (.agg #[.int .i64 cap, .slice A0 ps.length c0, .slice B0 ts.length e0]) cap ps ts) (t a v u k : Int) (hF : fewH ps ts = true) (hM : mayH cap ps ts = true) (ln : ps.length ≤ 20) (lm : ts.length ≤ 5) (ll : ∀ t ∈ ts, t.length ≤ 4) (eW r1 f1 r2 f2 : Int) (psW : List Pg) (tsW : List (List Int)) (lW : psW.length ≤ 1000) (hW : writeH cap ps ts t a v = (eW, psW, tsW)) (h1 : readH cap ps ts u k = (r1, f1)) (h2 : readH cap psW tsW u k = (r2, f2)) (hE : eW = 0) (g1 : u = t) (g2 : (k == a) = false) (g3 : f2 = f1) (g4 : r2 = r1) :
    Calls Try.prog 4 #[.agg #[.int .i64 cap, .slice A0 ps.length c0, .slice B0 ts.length e0], .int .i64 t, .int .i64 a, .int .i64 v, .int .i64 u, .int .i64 k] w fun e w' => e = .returned (.bool true) ∧ Below w.heap.size w w' := by
  have qF := fun v W h => few_any v cap ps ts W h
  rw [hF] at qF
  have qM := fun v W h => tmay_any v cap ps ts W h (by omega)
  rw [hM] at qM
  have qW := fun x W h => tWrite_any x cap ps ts t a v W h (by omega) (by omega) (fun t ht => by have := ll t ht; omega)
  rw [hW] at qW
  have q1 := fun x W h => Read_any x cap ps ts u k W h (by omega)
  rw [h1] at q1
  have q2 := fun x W h => Read_any x cap psW tsW u k W h (by omega)
  rw [h2] at q2
  clear hF hM hW h1 h2 ll
  subst hE g1 g3 g4
  go_enter Try.func4, Try.ntmps4
  have hA0 := ((Below.refl w.heap.size w).alloc (Nat.le_refl _) (.cells #[.int .i64 cap, .slice A0 ps.length c0, .slice B0 ts.length e0] 28))
  replace hst0 := hst0.keep hA0
  have kC := Blk.new_ w 28 #[.int .i64 cap, .slice A0 ps.length c0, .slice B0 ts.length e0] (w.heap.size) (by simp)
  have hZ0 : Below w.heap.size w _ := hA0
  go_wp2_with fail
  refine (tawake_any _).mono ?_
  rintro e w1 ⟨rfl, hb1⟩
  obtain ⟨hc1, hf1⟩ := bcell hb1
  have hz1 := hb1.size
  simp at hz1
  replace hst0 := hst0.keep hb1
  replace kC := kC.keep hb1
  have hY1 := hZ0.trans (hb1.mono hZ0.size)
  have zkC_1 : w.heap.size < w1.heap.size := by omega
  have hZ1 : Below w.heap.size w w1 := hY1
  go_wp2_with fail
  refine (qF _ _ hst0).mono ?_
  rintro e w2 ⟨rfl, hb2⟩
  obtain ⟨hc2, hf2⟩ := bcell hb2
  have hz2 := hb2.size
  replace hst0 := hst0.keep hb2
  replace kC := kC.keep hb2
  have hY2 := hZ1.trans (hb2.mono hZ1.size)
  have zkC_2 : w.heap.size < w2.heap.size := by omega
  have hZ2 : Below w.heap.size w w2 := hY2
  go_wp2_with fail
  refine (qM _ _ hst0).mono ?_
  rintro e w3 ⟨rfl, hb3⟩
  obtain ⟨hc3, hf3⟩ := bcell hb3
  have hz3 := hb3.size
  replace hst0 := hst0.keep hb3
  replace kC := kC.keep hb3
  have hY3 := hZ2.trans (hb3.mono hZ2.size)
  have zkC_3 : w.heap.size < w3.heap.size := by omega
  have hZ3 : Below w.heap.size w w3 := hY3
  go_wp2_with fail
  refine (qW _ _ hst0).mono ?_
  rintro e w4 ⟨v4, rfl, hstW, hb4⟩
  obtain ⟨hc4, hf4⟩ := bcell hb4
  have hz4 := hb4.size
  replace hst0 := hst0.keep hb4
  replace kC := kC.keep hb4
  have hY4 := hZ3.trans (hb4.mono hZ3.size)
  have zkC_4 : w.heap.size < w4.heap.size := by omega
  replace hstW := hstW.to
  try dsimp only at hstW
  obtain ⟨AW, cW, BW, eW, rfl, hstW⟩ := hstW.form
  have hA4 := ((Below.refl w4.heap.size w4).alloc (Nat.le_refl _) (.cells #[.int .i64 cap, .slice AW psW.length cW, .slice BW tsW.length eW] 28))
  replace hst0 := hst0.keep hA4
  replace kC := kC.keep hA4
  replace hstW := hstW.keep hA4
  have kW := Blk.new_ w4 28 #[.int .i64 cap, .slice AW psW.length cW, .slice BW tsW.length eW] (w4.heap.size) (by simp)
  have hZ4 : Below w.heap.size w _ := hY4.trans (hA4.mono hY4.size)
  go_wp2_with fail
  refine (q1 _ _ hst0).mono ?_
  rintro e w5 ⟨rfl, hb5⟩
  obtain ⟨hc5, hf5⟩ := bcell hb5
  have hz5 := hb5.size
  simp at hz5
  replace hst0 := hst0.keep hb5
  replace kC := kC.keep hb5
  replace hstW := hstW.keep hb5
  replace kW := kW.keep hb5
  have hY5 := hZ4.trans (hb5.mono hZ4.size)
  have zkC_5 : w.heap.size < w5.heap.size := by omega
  have zkW_5 : w4.heap.size < w5.heap.size := by omega
  have hZ5 : Below w.heap.size w w5 := hY5
  go_wp2_with fail
  refine (q2 _ _ hstW).mono ?_
  rintro e w6 ⟨rfl, hb6⟩
  obtain ⟨hc6, hf6⟩ := bcell hb6
  have hz6 := hb6.size
  replace hst0 := hst0.keep hb6
  replace kC := kC.keep hb6
  replace hstW := hstW.keep hb6
  replace kW := kW.keep hb6
  have hY6 := hZ5.trans (hb6.mono hZ5.size)
  have zkC_6 : w.heap.size < w6.heap.size := by omega
  have zkW_6 : w4.heap.size < w6.heap.size := by omega
  go_wp2
  go_ret
  exact ⟨by first | rfl | (simp [*]; done), hY6⟩

theorem tableApart_walk (w : World) (v0 : Value) (cap : Int) (ps : List Pg) (ts : List (List Int)) (hst0 : HpV w v0 cap ps ts) (_wc : okI cap) (_wp : ∀ q ∈ ps, pgOk q) (_wt : ∀ t ∈ ts, ∀ q ∈ t, okI q) (t : Int) (_w0 : (Lit.int .i64 t).wf = true) (a : Int) (_w1 : (Lit.int .i64 a).wf = true) (v : Int) (_w2 : (Lit.int .i64 v).wf = true) (u : Int) (_w3 : (Lit.int .i64 u).wf = true) (k : Int) (_w4 : (Lit.int .i64 k).wf = true) :
    Calls Try.prog 4 #[v0, .int .i64 t, .int .i64 a, .int .i64 v, .int .i64 u, .int .i64 k] w fun e w' => e = .returned (.bool true) ∧ Below w.heap.size w w' := by
  obtain ⟨A0, c0, B0, e0, rfl, hst0⟩ := hst0.form
  cases hF : fewH ps ts with
  | false => exact tableApart_many w A0 B0 c0 e0 cap ps ts hst0 t a v u k hF
  | true =>
  have ln : ps.length ≤ 20 := (few_iff.1 hF).2.1
  cases hM : mayH cap ps ts with
  | false => exact tableApart_bad w A0 B0 c0 e0 cap ps ts hst0 t a v u k hF hM ln
  | true =>
  have HM := mayH_iff.1 hM
  have lm : ts.length ≤ 5 := HM.five
  have ll : ∀ t ∈ ts, t.length ≤ 4 := fun t ht => by rcases HM.len t ht with h | h <;> omega
  rcases hW : writeH cap ps ts t a v with ⟨eW, psW, tsW⟩
  rcases h1 : readH cap ps ts u k with ⟨r1, f1⟩
  rcases h2 : readH cap psW tsW u k with ⟨r2, f2⟩
  by_cases hE : eW = 0
  · obtain ⟨k1, k2, k3⟩ := read_write (cap := cap) (ps := ps) (ts := ts) (t := t) (a := a) (v := v) (u := u) (b := k) (by rw [hW]; exact hE)
    rw [hW] at k1 k2 k3
    dsimp only at k1 k2 k3
    have lW : psW.length ≤ 1000 := by have := may_len k3.may; omega
    by_cases g : u = t ∧ k = a
    · have e := (k1 g).symm.trans h2
      simp only [Prod.mk.injEq] at e
      exact tableApart_at w A0 B0 c0 e0 cap ps ts hst0 t a v u k hF hM ln lm ll eW r1 f1 r2 f2 psW tsW lW hW h1 h2 hE g.1 g.2 e.2.symm e.1.symm
    · have e := h2.symm.trans ((k2 g).trans h1)
      simp only [Prod.mk.injEq] at e
      by_cases g1 : u = t
      · exact tableApart_else w A0 B0 c0 e0 cap ps ts hst0 t a v u k hF hM ln lm ll eW r1 f1 r2 f2 psW tsW lW hW h1 h2 hE g1 (by simpa using fun h => g ⟨g1, h⟩) e.2 e.1
      · exact tableApart_other w A0 B0 c0 e0 cap ps ts hst0 t a v u k hF hM ln lm ll eW r1 f1 r2 f2 psW tsW lW hW h1 h2 hE (by simpa using g1) e.2 e.1
  · have e := write_err (cap := cap) (ps := ps) (ts := ts) (t := t) (a := a) (v := v) (by rw [hW]; exact hE)
    rw [hW] at e
    simp only [Prod.mk.injEq] at e
    obtain ⟨rfl, rfl⟩ := e
    exact tableApart_err w A0 B0 c0 e0 cap psW tsW hst0 t a v u k hF hM ln lm ll eW r1 f1 r2 f2 psW tsW (by omega) hW h1 h2 (by simpa using hE) (same_refl _ _ _)

end Go.Proofs.Ytoogobenjhmjjaa
