/- The walk of TableStays. -/
import Derived.Test.YtoogobenjhmjjaaTbPlain3
import Derived.Test.YtoogobenjhmjjaaTbOpen
import Derived.Deep.DeepCutAuto
namespace Go.Proofs.Ytoogobenjhmjjaa
open Go Go.RowKit
set_option linter.unusedVariables false

set_option maxRecDepth 100000 in
set_option maxHeartbeats 4000000 in
theorem tableStays_many (w : World) (A0 B0 : Option Addr) (c0 e0 : Nat) (cap : Int) (ps : List Pg) (ts : List (List Int)) (hst0 : HpV w (.agg #[.int .i64 cap, .slice A0 ps.length c0, .slice B0 ts.length e0]) cap ps ts) (t a v : Int) (hF : fewH ps ts = false) :
    Calls Try.prog 8 #[.agg #[.int .i64 cap, .slice A0 ps.length c0, .slice B0 ts.length e0], .int .i64 t, .int .i64 a, .int .i64 v] w fun e w' => e = .returned (.bool true) ∧ Below w.heap.size w w' := by
  have qF := fun v W h => few_any v cap ps ts W h
  rw [hF] at qF
  go_enter Try.func8, Try.ntmps8
  have hA0 := ((Below.refl w.heap.size w).alloc (Nat.le_refl _) (.cells #[.int .i64 cap, .slice A0 ps.length c0, .slice B0 ts.length e0] 28))
  replace hst0 := hst0.keep hA0
  have kC := Blk.new_ w 28 #[.int .i64 cap, .slice A0 ps.length c0, .slice B0 ts.length e0] (w.heap.size) (by simp)
  have hZ0 : Below w.heap.size w _ := hA0
  go_wp2_with fail
  refine (tawake_any _).mono ?_
  rintro e w1 ⟨rfl, hb1⟩
  obtain ⟨hc1, hf1⟩ := bcell hb1
  have hz1 := hb1.size
  simp at hz1
  replace hst0 := hst0.keep hb1
  replace kC := kC.keep hb1
  have hY1 := hZ0.trans (hb1.mono hZ0.size)
  have zkC_1 : w.heap.size < w1.heap.size := by omega
  have hZ1 : Below w.heap.size w w1 := hY1
  go_wp2_with fail
  refine (qF _ _ hst0).mono ?_
  rintro e w2 ⟨rfl, hb2⟩
  obtain ⟨hc2, hf2⟩ := bcell hb2
  have hz2 := hb2.size
  replace hst0 := hst0.keep hb2
  replace kC := kC.keep hb2
  have hY2 := hZ1.trans (hb2.mono hZ1.size)
  have zkC_2 : w.heap.size < w2.heap.size := by omega
  go_wp2
  go_ret
  exact ⟨by first | rfl | (simp [*]; done), hY2⟩

set_option maxRecDepth 100000 in
set_option maxHeartbeats 4000000 in
theorem tableStays_bad (w : World) (A0 B0 : Option Addr) (c0 e0 : Nat) (cap : Int) (ps : List Pg) (ts : List (List Int)) (hst0 : HpV w (.agg #[.int .i64 cap, .slice A0 ps.length c0, .slice B0 ts.length e0]) cap ps ts) (t a v : Int) (hF : fewH ps ts = true) (hM : mayH cap ps ts = false) (ln : ps.length ≤ 20) :
    Calls Try.prog 8 #[.agg #[.int .i64 cap, .slice A0 ps.length c0, .slice B0 ts.length e0], .int .i64 t, .int .i64 a, .int .i64 v] w fun e w' => e = .returned (.bool true) ∧ Below w.heap.size w w' := by
  have qF := fun v W h => few_any v cap ps ts W h
  rw [hF] at qF
  have qM := fun v W h => tmay_any v cap ps ts W h (by omega)
  rw [hM] at qM
  go_enter Try.func8, Try.ntmps8
  have hA0 := ((Below.refl w.heap.size w).alloc (Nat.le_refl _) (.cells #[.int .i64 cap, .slice A0 ps.length c0, .slice B0 ts.length e0] 28))
  replace hst0 := hst0.keep hA0
  have kC := Blk.new_ w 28 #[.int .i64 cap, .slice A0 ps.length c0, .slice B0 ts.length e0] (w.heap.size) (by simp)
  have hZ0 : Below w.heap.size w _ := hA0
  go_wp2_with fail
  refine (tawake_any _).mono ?_
  rintro e w1 ⟨rfl, hb1⟩
  obtain ⟨hc1, hf1⟩ := bcell hb1
  have hz1 := hb1.size
  simp at hz1
  replace hst0 := hst0.keep hb1
  replace kC := kC.keep hb1
  have hY1 := hZ0.trans (hb1.mono hZ0.size)
  have zkC_1 : w.heap.size < w1.heap.size := by omega
  have hZ1 : Below w.heap.size w w1 := hY1
  go_wp2_with fail
  refine (qF _ _ hst0).mono ?_
  rintro e w2 ⟨rfl, hb2⟩
  obtain ⟨hc2, hf2⟩ := bcell hb2
  have hz2 := hb2.size
  replace hst0 := hst0.keep hb2
  replace kC := kC.keep hb2
  have hY2 := hZ1.trans (hb2.mono hZ1.size)
  have zkC_2 : w.heap.size < w2.heap.size := by omega
  have hZ2 : Below w.heap.size w w2 := hY2
  go_wp2_with fail
  refine (qM _ _ hst0).mono ?_
  rintro e w3 ⟨rfl, hb3⟩
  obtain ⟨hc3, hf3⟩ := bcell hb3
  have hz3 := hb3.size
  replace hst0 := hst0.keep hb3
  replace kC := kC.keep hb3
  have hY3 := hZ2.trans (hb3.mono hZ2.size)
  have zkC_3 : w.heap.size < w3.heap.size := by omega
  go_wp2
  go_ret
  exact ⟨by first | rfl | (simp [*]; done), hY3⟩

set_option maxRecDepth 100000 in
set_option maxHeartbeats 4000000 in
theorem tableStays_ooo (w : World) (A0 B0 : Option Addr) (c0 e0 : Nat) (cap : Int) (ps : List Pg) (ts : List (List Int)) (hst0 : HpV w (.agg #[.int .i64 cap, .slice A0 ps.length c0, .slice B0 ts.length e0]) cap ps ts) (t a v : Int) (hF : fewH ps ts = true) (hM : mayH cap ps ts = true) (ln : ps.length ≤ 20) (lm : ts.length ≤ 5) (ll : ∀ t ∈ ts, t.length ≤ 4) (eA nB eB nD eD uH uA uD : Int) (psA psB psD : List Pg) (tsA tsB tsD : List (List Int)) (hA : writeH cap ps ts t a v = (eA, psA, tsA)) (hB : forkH cap ps ts t = (nB, eB, psB, tsB)) (hD : dropH cap ps ts t = (nD, eD, psD, tsD)) (lA : psA.length ≤ 900) (lB : psB.length ≤ 900) (lD : psD.length ≤ 900) (mA : mayH cap psA tsA = true) (mB : mayH cap psB tsB = true) (mD : mayH cap psD tsD = true) (vH : usedL cap ps = uH) (vA : usedL cap psA = uA) (vB : usedL cap psB = uH) (vD : usedL cap psD = uD) (b0 : 0 ≤ uH) (b1 : uH ≤ 20) (b2 : uD ≤ uH) (b3 : uA ≤ uH + 1) (hA1 : eA = 0) (hB1 : eB = 0) (hD1 : eD = 0)  :
    Calls Try.prog 8 #[.agg #[.int .i64 cap, .slice A0 ps.length c0, .slice B0 ts.length e0], .int .i64 t, .int .i64 a, .int .i64 v] w fun e w' => e = .returned (.bool true) ∧ Below w.heap.size w w' := by
  have qF := fun v W h => few_any v cap ps ts W h
  rw [hF] at qF
  have qM := fun v W h => tmay_any v cap ps ts W h (by omega)
  rw [hM] at qM
  have qA := fun x W h => tWrite_any x cap ps ts t a v W h (by omega) (by omega) (fun t ht => by have := ll t ht; omega)
  rw [hA] at qA
  have qB := fun x W h => Fork_any x cap ps ts t W h (by omega) (by omega) (fun t ht => by have := ll t ht; omega)
  rw [hB] at qB
  have qD := fun x W h => Drop_any x cap ps ts t W h (by omega) (by omega) (fun t ht => by have := ll t ht; omega)
  rw [hD] at qD
  have qMA := fun x W h => tmay_any x cap psA tsA W h (by omega)
  rw [mA] at qMA
  have qUA := fun x W h => Used_any x cap psA W h
  rw [vA] at qUA
  have qMB := fun x W h => tmay_any x cap psB tsB W h (by omega)
  rw [mB] at qMB
  have qUB := fun x W h => Used_any x cap psB W h
  rw [vB] at qUB
  have qMD := fun x W h => tmay_any x cap psD tsD W h (by omega)
  rw [mD] at qMD
  have qUD := fun x W h => Used_any x cap psD W h
  rw [vD] at qUD
  have qUH := fun x W h => Used_any x cap ps W h
  rw [vH] at qUH
  have hwr : IntKind.i64.wrap (uH + 1) = uH + 1 := by rw [IntKind.wrap_i64]; omega
  clear hF hM hA hB hD ll mA mB mD vH vA vB vD
  subst hA1
  subst hB1
  subst hD1
  go_enter Try.func8, Try.ntmps8
  have hA0 := ((Below.refl w.heap.size w).alloc (Nat.le_refl _) (.cells #[.int .i64 cap, .slice A0 ps.length c0, .slice B0 ts.length e0] 28))
  replace hst0 := hst0.keep hA0
  have kC := Blk.new_ w 28 #[.int .i64 cap, .slice A0 ps.length c0, .slice B0 ts.length e0] (w.heap.size) (by simp)
  have hZ0 : Below w.heap.size w _ := hA0
  go_wp2_with fail
  refine (tawake_any _).mono ?_
  rintro e w1 ⟨rfl, hb1⟩
  obtain ⟨hc1, hf1⟩ := bcell hb1
  have hz1 := hb1.size
  simp at hz1
  replace hst0 := hst0.keep hb1
  replace kC := kC.keep hb1
  have hY1 := hZ0.trans (hb1.mono hZ0.size)
  have zkC_1 : w.heap.size < w1.heap.size := by omega
  have hZ1 : Below w.heap.size w w1 := hY1
  go_wp2_with fail
  refine (qF _ _ hst0).mono ?_
  rintro e w2 ⟨rfl, hb2⟩
  obtain ⟨hc2, hf2⟩ := bcell hb2
  have hz2 := hb2.size
  replace hst0 := hst0.keep hb2
  replace kC := kC.keep hb2
  have hY2 := hZ1.trans (hb2.mono hZ1.size)
  have zkC_2 : w.heap.size < w2.heap.size := by omega
  have hZ2 : Below w.heap.size w w2 := hY2
  go_wp2_with fail
  refine (qM _ _ hst0).mono ?_
  rintro e w3 ⟨rfl, hb3⟩
  obtain ⟨hc3, hf3⟩ := bcell hb3
  have hz3 := hb3.size
  replace hst0 := hst0.keep hb3
  replace kC := kC.keep hb3
  have hY3 := hZ2.trans (hb3.mono hZ2.size)
  have zkC_3 : w.heap.size < w3.heap.size := by omega
  have hZ3 : Below w.heap.size w w3 := hY3
  go_wp2_with fail
  refine (qA _ _ hst0).mono ?_
  rintro e w4 ⟨v4, rfl, hstA, hb4⟩
  obtain ⟨hc4, hf4⟩ := bcell hb4
  have hz4 := hb4.size
  replace hst0 := hst0.keep hb4
  replace kC := kC.keep hb4
  have hY4 := hZ3.trans (hb4.mono hZ3.size)
  have zkC_4 : w.heap.size < w4.heap.size := by omega
  replace hstA := hstA.to
  try dsimp only at hstA
  obtain ⟨AA, cA, BA, eA, rfl, hstA⟩ := hstA.form
  have hA4 := ((Below.refl w4.heap.size w4).alloc (Nat.le_refl _) (.cells #[.int .i64 cap, .slice AA psA.length cA, .slice BA tsA.length eA] 28))
  replace hst0 := hst0.keep hA4
  replace kC := kC.keep hA4
  replace hstA := hstA.keep hA4
  have kA := Blk.new_ w4 28 #[.int .i64 cap, .slice AA psA.length cA, .slice BA tsA.length eA] (w4.heap.size) (by simp)
  have hZ4 : Below w.heap.size w _ := hY4.trans (hA4.mono hY4.size)
  go_wp2_with fail
  refine (qB _ _ hst0).mono ?_
  rintro e w5 ⟨v5, rfl, hstB, hb5⟩
  obtain ⟨hc5, hf5⟩ := bcell hb5
  have hz5 := hb5.size
  simp at hz5
  replace hst0 := hst0.keep hb5
  replace kC := kC.keep hb5
  replace hstA := hstA.keep hb5
  replace kA := kA.keep hb5
  have hY5 := hZ4.trans (hb5.mono hZ4.size)
  have zkC_5 : w.heap.size < w5.heap.size := by omega
  have zkA_5 : w4.heap.size < w5.heap.size := by omega
  replace hstB := hstB.to
  try dsimp only at hstB
  obtain ⟨AB, cB, BB, eB, rfl, hstB⟩ := hstB.form
  have hA5 := ((Below.refl w5.heap.size w5).alloc (Nat.le_refl _) (.cells #[.int .i64 cap, .slice AB psB.length cB, .slice BB tsB.length eB] 28))
  replace hst0 := hst0.keep hA5
  replace kC := kC.keep hA5
  replace hstA := hstA.keep hA5
  replace kA := kA.keep hA5
  replace hstB := hstB.keep hA5
  have kB := Blk.new_ w5 28 #[.int .i64 cap, .slice AB psB.length cB, .slice BB tsB.length eB] (w5.heap.size) (by simp)
  have hZ5 : Below w.heap.size w _ := hY5.trans (hA5.mono hY5.size)
  go_wp2_with fail
  refine (qD _ _ hst0).mono ?_
  rintro e w6 ⟨v6, rfl, hstD, hb6⟩
  obtain ⟨hc6, hf6⟩ := bcell hb6
  have hz6 := hb6.size
  simp at hz6
  replace hst0 := hst0.keep hb6
  replace kC := kC.keep hb6
  replace hstA := hstA.keep hb6
  replace kA := kA.keep hb6
  replace hstB := hstB.keep hb6
  replace kB := kB.keep hb6
  have hY6 := hZ5.trans (hb6.mono hZ5.size)
  have zkC_6 : w.heap.size < w6.heap.size := by omega
  have zkA_6 : w4.heap.size < w6.heap.size := by omega
  have zkB_6 : w5.heap.size < w6.heap.size := by omega
  replace hstD := hstD.to
  try dsimp only at hstD
  obtain ⟨AD, cD, BD, eD, rfl, hstD⟩ := hstD.form
  have hA6 := ((Below.refl w6.heap.size w6).alloc (Nat.le_refl _) (.cells #[.int .i64 cap, .slice AD psD.length cD, .slice BD tsD.length eD] 28))
  replace hst0 := hst0.keep hA6
  replace kC := kC.keep hA6
  replace hstA := hstA.keep hA6
  replace kA := kA.keep hA6
  replace hstB := hstB.keep hA6
  replace kB := kB.keep hA6
  replace hstD := hstD.keep hA6
  have kD := Blk.new_ w6 28 #[.int .i64 cap, .slice AD psD.length cD, .slice BD tsD.length eD] (w6.heap.size) (by simp)
  have hZ6 : Below w.heap.size w _ := hY6.trans (hA6.mono hY6.size)
  go_wp2_with fail
  refine (qMA _ _ hstA).mono ?_
  rintro e w7 ⟨rfl, hb7⟩
  obtain ⟨hc7, hf7⟩ := bcell hb7
  have hz7 := hb7.size
  simp at hz7
  replace hst0 := hst0.keep hb7
  replace kC := kC.keep hb7
  replace hstA := hstA.keep hb7
  replace kA := kA.keep hb7
  replace hstB := hstB.keep hb7
  replace kB := kB.keep hb7
  replace hstD := hstD.keep hb7
  replace kD := kD.keep hb7
  have hY7 := hZ6.trans (hb7.mono hZ6.size)
  have zkC_7 : w.heap.size < w7.heap.size := by omega
  have zkA_7 : w4.heap.size < w7.heap.size := by omega
  have zkB_7 : w5.heap.size < w7.heap.size := by omega
  have zkD_7 : w6.heap.size < w7.heap.size := by omega
  have hZ7 : Below w.heap.size w w7 := hY7
  go_wp2_with fail
  refine (qMB _ _ hstB).mono ?_
  rintro e w8 ⟨rfl, hb8⟩
  obtain ⟨hc8, hf8⟩ := bcell hb8
  have hz8 := hb8.size
  replace hst0 := hst0.keep hb8
  replace kC := kC.keep hb8
  replace hstA := hstA.keep hb8
  replace kA := kA.keep hb8
  replace hstB := hstB.keep hb8
  replace kB := kB.keep hb8
  replace hstD := hstD.keep hb8
  replace kD := kD.keep hb8
  have hY8 := hZ7.trans (hb8.mono hZ7.size)
  have zkC_8 : w.heap.size < w8.heap.size := by omega
  have zkA_8 : w4.heap.size < w8.heap.size := by omega
  have zkB_8 : w5.heap.size < w8.heap.size := by omega
  have zkD_8 : w6.heap.size < w8.heap.size := by omega
  have hZ8 : Below w.heap.size w w8 := hY8
  go_wp2_with fail
  refine (qMD _ _ hstD).mono ?_
  rintro e w9 ⟨rfl, hb9⟩
  obtain ⟨hc9, hf9⟩ := bcell hb9
  have hz9 := hb9.size
  replace hst0 := hst0.keep hb9
  replace kC := kC.keep hb9
  replace hstA := hstA.keep hb9
  replace kA := kA.keep hb9
  replace hstB := hstB.keep hb9
  replace kB := kB.keep hb9
  replace hstD := hstD.keep hb9
  replace kD := kD.keep hb9
  have hY9 := hZ8.trans (hb9.mono hZ8.size)
  have zkC_9 : w.heap.size < w9.heap.size := by omega
  have zkA_9 : w4.heap.size < w9.heap.size := by omega
  have zkB_9 : w5.heap.size < w9.heap.size := by omega
  have zkD_9 : w6.heap.size < w9.heap.size := by omega
  go_wp2_with fail
  have kC_0 : w9.cell? ⟨w.heap.size, 0, none⟩ = some (.int .i64 cap) := by rw [kC.cell]; rfl
  have kC_1 : w9.cell? ⟨w.heap.size, 1, none⟩ = some (.slice A0 ps.length c0) := by rw [kC.cell]; rfl
  have kC_lt := kC.lt
  have kA_0 : w9.cell? ⟨w4.heap.size, 0, none⟩ = some (.int .i64 cap) := by rw [kA.cell]; rfl
  have kA_1 : w9.cell? ⟨w4.heap.size, 1, none⟩ = some (.slice AA psA.length cA) := by rw [kA.cell]; rfl
  have kA_lt := kA.lt
  have kB_0 : w9.cell? ⟨w5.heap.size, 0, none⟩ = some (.int .i64 cap) := by rw [kB.cell]; rfl
  have kB_1 : w9.cell? ⟨w5.heap.size, 1, none⟩ = some (.slice AB psB.length cB) := by rw [kB.cell]; rfl
  have kB_lt := kB.lt
  have kD_0 : w9.cell? ⟨w6.heap.size, 0, none⟩ = some (.int .i64 cap) := by rw [kD.cell]; rfl
  have kD_1 : w9.cell? ⟨w6.heap.size, 1, none⟩ = some (.slice AD psD.length cD) := by rw [kD.cell]; rfl
  have kD_lt := kD.lt
  have G0 := (Below.refl w9.heap.size w9).drew
  refine wp_region_held_drew (S := fun w' => w'.cell? ⟨w.heap.size, 0, none⟩ = some (.int .i64 cap) ∧ w'.cell? ⟨w.heap.size, 1, none⟩ = some (.slice A0 ps.length c0) ∧ w'.cell? ⟨w4.heap.size, 0, none⟩ = some (.int .i64 cap) ∧ w'.cell? ⟨w4.heap.size, 1, none⟩ = some (.slice AA psA.length cA) ∧ w'.cell? ⟨w5.heap.size, 0, none⟩ = some (.int .i64 cap) ∧ w'.cell? ⟨w5.heap.size, 1, none⟩ = some (.slice AB psB.length cB) ∧ w'.cell? ⟨w6.heap.size, 0, none⟩ = some (.int .i64 cap) ∧ w'.cell? ⟨w6.heap.size, 1, none⟩ = some (.slice AD psD.length cD)) (by kernel_rfl) ?_ (fun hHeldbr => ?_)
  · exact ⟨(G0.cell (p := ⟨w.heap.size, 0, none⟩) kC_lt).trans kC_0, (G0.cell (p := ⟨w.heap.size, 1, none⟩) kC_lt).trans kC_1, (G0.cell (p := ⟨w4.heap.size, 0, none⟩) kA_lt).trans kA_0, (G0.cell (p := ⟨w4.heap.size, 1, none⟩) kA_lt).trans kA_1, (G0.cell (p := ⟨w5.heap.size, 0, none⟩) kB_lt).trans kB_0, (G0.cell (p := ⟨w5.heap.size, 1, none⟩) kB_lt).trans kB_1, (G0.cell (p := ⟨w6.heap.size, 0, none⟩) kD_lt).trans kD_0, (G0.cell (p := ⟨w6.heap.size, 1, none⟩) kD_lt).trans kD_1⟩
  refine wpAnyH_take (i := 0) (oi := { dst := some 96, op := Op.fieldAddr 28 (Operand.tmp 16) 0, type := 0, pos := "law.go:124", after := _, guard := none }) (v := ?vbr0) rfl (by kernel_rfl) (by kernel_rfl) (by kernel_rfl) (fun _ _ _ h => h) (Or.inl ⟨by rfl, ?hybr0⟩) (by assumption) ?restbr0
  case hybr0 => (intro w hSw; (try dsimp only at hSw); go_simp <;> with_reducible rfl)
  try simp only [Act.put, List.setIfInBounds_toArray, List.set_cons_zero, List.set_cons_succ]
  refine wpAnyH_take (i := 1) (oi := { dst := some 97, op := Op.load 25 (Operand.tmp 96), type := 25, pos := "law.go:124", after := _, guard := none }) (v := ?vbr1) rfl (by kernel_rfl) (by kernel_rfl) (by kernel_rfl) (fun _ _ _ h => h) (Or.inl ⟨by rfl, ?hybr1⟩) (by assumption) ?restbr1
  case hybr1 => (intro w hSw; (try dsimp only at hSw); go_simp <;> with_reducible rfl)
  try simp only [Act.put, List.setIfInBounds_toArray, List.set_cons_zero, List.set_cons_succ]
  refine wpAnyH_take (i := 3) (oi := { dst := some 99, op := Op.fieldAddr 28 (Operand.tmp 4) 0, type := 0, pos := "law.go:124", after := _, guard := none }) (v := ?vbr3) rfl (by kernel_rfl) (by kernel_rfl) (by kernel_rfl) (fun _ _ _ h => h) (Or.inl ⟨by rfl, ?hybr3⟩) (by assumption) ?restbr3
  case hybr3 => (intro w hSw; (try dsimp only at hSw); go_simp <;> with_reducible rfl)
  try simp only [Act.put, List.setIfInBounds_toArray, List.set_cons_zero, List.set_cons_succ]
  refine wpAnyH_take (i := 4) (oi := { dst := some 100, op := Op.load 25 (Operand.tmp 99), type := 25, pos := "law.go:124", after := _, guard := none }) (v := ?vbr4) rfl (by kernel_rfl) (by kernel_rfl) (by kernel_rfl) (fun _ _ _ h => h) (Or.inl ⟨by rfl, ?hybr4⟩) (by assumption) ?restbr4
  case hybr4 => (intro w hSw; (try dsimp only at hSw); go_simp <;> with_reducible rfl)
  try simp only [Act.put, List.setIfInBounds_toArray, List.set_cons_zero, List.set_cons_succ]
  refine wpAnyH_ready (rs := [2]) (by kernel_rfl) (by simp) ?_
  refine AllReadyH.cons (o := { dst := some 98, op := Op.call { callee := Callee.value (Operand.func 25), args := #[Operand.tmp 97], argTypes := #[25] }, type := 3, pos := "law.go:124", after := _, guard := none }) rfl (fun K hK => ?_) AllReadyH.nil
  go_simp
  refine (qUD _ _ (hstD.keep G0).store).mono ?_
  rintro x x1 ⟨rfl, hx1⟩
  have G1 := G0.trans (hx1.mono G0.size)
  try go_wp2_with fail
  refine hK.out _ _ ?_ (fun hHeldbr2 => ?_)
  · exact ⟨(G1.cell (p := ⟨w.heap.size, 0, none⟩) kC_lt).trans kC_0, (G1.cell (p := ⟨w.heap.size, 1, none⟩) kC_lt).trans kC_1, (G1.cell (p := ⟨w4.heap.size, 0, none⟩) kA_lt).trans kA_0, (G1.cell (p := ⟨w4.heap.size, 1, none⟩) kA_lt).trans kA_1, (G1.cell (p := ⟨w5.heap.size, 0, none⟩) kB_lt).trans kB_0, (G1.cell (p := ⟨w5.heap.size, 1, none⟩) kB_lt).trans kB_1, (G1.cell (p := ⟨w6.heap.size, 0, none⟩) kD_lt).trans kD_0, (G1.cell (p := ⟨w6.heap.size, 1, none⟩) kD_lt).trans kD_1⟩
  clear hK K hHeldbr
  try simp only [Act.put, List.setIfInBounds_toArray, List.set_cons_zero, List.set_cons_succ]
  refine wpAnyH_ready (rs := [5]) (by kernel_rfl) (by simp) ?_
  refine AllReadyH.cons (o := { dst := some 101, op := Op.call { callee := Callee.value (Operand.func 25), args := #[Operand.tmp 100], argTypes := #[25] }, type := 3, pos := "law.go:124", after := _, guard := none }) rfl (fun K hK => ?_) AllReadyH.nil
  go_simp
  refine (qUH _ _ (hst0.keep G1).store).mono ?_
  rintro x x2 ⟨rfl, hx2⟩
  have G2 := G1.trans (hx2.mono G1.size)
  try go_wp2_with fail
  refine hK.out _ _ ?_ (fun hHeldbr5 => ?_)
  · exact ⟨(G2.cell (p := ⟨w.heap.size, 0, none⟩) kC_lt).trans kC_0, (G2.cell (p := ⟨w.heap.size, 1, none⟩) kC_lt).trans kC_1, (G2.cell (p := ⟨w4.heap.size, 0, none⟩) kA_lt).trans kA_0, (G2.cell (p := ⟨w4.heap.size, 1, none⟩) kA_lt).trans kA_1, (G2.cell (p := ⟨w5.heap.size, 0, none⟩) kB_lt).trans kB_0, (G2.cell (p := ⟨w5.heap.size, 1, none⟩) kB_lt).trans kB_1, (G2.cell (p := ⟨w6.heap.size, 0, none⟩) kD_lt).trans kD_0, (G2.cell (p := ⟨w6.heap.size, 1, none⟩) kD_lt).trans kD_1⟩
  clear hK K hHeldbr2
  try simp only [Act.put, List.setIfInBounds_toArray, List.set_cons_zero, List.set_cons_succ]
  refine wpAnyH_take (i := 6) (oi := { dst := some 102, op := Op.binOp BinOp.leq 3 (Operand.tmp 98) (Operand.tmp 101) 3, type := 4, pos := "law.go:124", after := _, guard := none }) (v := .bool true) rfl (by kernel_rfl) (by kernel_rfl) (by kernel_rfl) (fun _ _ _ h => h) (Or.inl ⟨by rfl, ?hybr6⟩) (by assumption) ?restbr6
  case hybr6 => (intro w hSw; (try dsimp only at hSw); go_simp <;> first | done | with_reducible rfl | omega | (simp; done) | (simp; omega) | (simp [*]; done) | (simp [*]; omega) | exact decide_eq_false (by omega) | exact decide_eq_true (by omega))
  try simp only [Act.put, List.setIfInBounds_toArray, List.set_cons_zero, List.set_cons_succ]
  refine wpAnyH_take (i := 7) (oi := { dst := some 18, op := Op.assign (Operand.tmp 102), type := 4, pos := "law.go:124", after := _, guard := none }) (v := ?vbr7) rfl (by kernel_rfl) (by kernel_rfl) (by kernel_rfl) (fun _ _ _ h => h) (Or.inl ⟨by rfl, ?hybr7⟩) (by assumption) ?restbr7
  case hybr7 => (intro w hSw; (try dsimp only at hSw); go_simp <;> with_reducible rfl)
  try simp only [Act.put, List.setIfInBounds_toArray, List.set_cons_zero, List.set_cons_succ]
  refine wpAnyH_done (by kernel_rfl) ?_ _
  go_upto_region 13 with fail
  have G3 := G2.drew
  refine wp_region_held_drew (S := fun w' => w'.cell? ⟨w.heap.size, 0, none⟩ = some (.int .i64 cap) ∧ w'.cell? ⟨w.heap.size, 1, none⟩ = some (.slice A0 ps.length c0) ∧ w'.cell? ⟨w4.heap.size, 0, none⟩ = some (.int .i64 cap) ∧ w'.cell? ⟨w4.heap.size, 1, none⟩ = some (.slice AA psA.length cA) ∧ w'.cell? ⟨w5.heap.size, 0, none⟩ = some (.int .i64 cap) ∧ w'.cell? ⟨w5.heap.size, 1, none⟩ = some (.slice AB psB.length cB) ∧ w'.cell? ⟨w6.heap.size, 0, none⟩ = some (.int .i64 cap) ∧ w'.cell? ⟨w6.heap.size, 1, none⟩ = some (.slice AD psD.length cD)) (by kernel_rfl) ?_ (fun hHeldcr => ?_)
  · exact ⟨(G3.cell (p := ⟨w.heap.size, 0, none⟩) kC_lt).trans kC_0, (G3.cell (p := ⟨w.heap.size, 1, none⟩) kC_lt).trans kC_1, (G3.cell (p := ⟨w4.heap.size, 0, none⟩) kA_lt).trans kA_0, (G3.cell (p := ⟨w4.heap.size, 1, none⟩) kA_lt).trans kA_1, (G3.cell (p := ⟨w5.heap.size, 0, none⟩) kB_lt).trans kB_0, (G3.cell (p := ⟨w5.heap.size, 1, none⟩) kB_lt).trans kB_1, (G3.cell (p := ⟨w6.heap.size, 0, none⟩) kD_lt).trans kD_0, (G3.cell (p := ⟨w6.heap.size, 1, none⟩) kD_lt).trans kD_1⟩
  refine wpAnyH_take (i := 0) (oi := { dst := some 103, op := Op.move (Operand.tmp 18), type := 4, pos := "law.go:125", after := _, guard := none }) (v := ?vcr0) rfl (by kernel_rfl) (by kernel_rfl) (by kernel_rfl) (fun _ _ _ h => h) (Or.inl ⟨by rfl, ?hycr0⟩) (by assumption) ?restcr0
  case hycr0 => (intro w hSw; (try dsimp only at hSw); go_simp <;> with_reducible rfl)
  try simp only [Act.put, List.setIfInBounds_toArray, List.set_cons_zero, List.set_cons_succ]
  refine wpAnyH_take (i := 1) (oi := { dst := some 104, op := Op.move (Operand.tmp 103), type := 4, pos := "law.go:125", after := _, guard := none }) (v := ?vcr1) rfl (by kernel_rfl) (by kernel_rfl) (by kernel_rfl) (fun _ _ _ h => h) (Or.inl ⟨by rfl, ?hycr1⟩) (by assumption) ?restcr1
  case hycr1 => (intro w hSw; (try dsimp only at hSw); go_simp <;> with_reducible rfl)
  try simp only [Act.put, List.setIfInBounds_toArray, List.set_cons_zero, List.set_cons_succ]
  refine wpAnyH_take (i := 2) (oi := { dst := some 105, op := Op.fieldAddr 28 (Operand.tmp 13) 0, type := 0, pos := "law.go:125", after := _, guard := some (1, true) }) (v := ?vcr2) rfl (by kernel_rfl) (by kernel_rfl) (by kernel_rfl) (fun _ _ _ h => h) (Or.inl ⟨by rfl, ?hycr2⟩) (by assumption) ?restcr2
  case hycr2 => (intro w hSw; (try dsimp only at hSw); go_simp <;> with_reducible rfl)
  try simp only [Act.put, List.setIfInBounds_toArray, List.set_cons_zero, List.set_cons_succ]
  refine wpAnyH_take (i := 3) (oi := { dst := some 106, op := Op.load 25 (Operand.tmp 105), type := 25, pos := "law.go:125", after := _, guard := some (1, true) }) (v := ?vcr3) rfl (by kernel_rfl) (by kernel_rfl) (by kernel_rfl) (fun _ _ _ h => h) (Or.inl ⟨by rfl, ?hycr3⟩) (by assumption) ?restcr3
  case hycr3 => (intro w hSw; (try dsimp only at hSw); go_simp <;> with_reducible rfl)
  try simp only [Act.put, List.setIfInBounds_toArray, List.set_cons_zero, List.set_cons_succ]
  refine wpAnyH_take (i := 5) (oi := { dst := some 108, op := Op.fieldAddr 28 (Operand.tmp 4) 0, type := 0, pos := "law.go:125", after := _, guard := some (1, true) }) (v := ?vcr5) rfl (by kernel_rfl) (by kernel_rfl) (by kernel_rfl) (fun _ _ _ h => h) (Or.inl ⟨by rfl, ?hycr5⟩) (by assumption) ?restcr5
  case hycr5 => (intro w hSw; (try dsimp only at hSw); go_simp <;> with_reducible rfl)
  try simp only [Act.put, List.setIfInBounds_toArray, List.set_cons_zero, List.set_cons_succ]
  refine wpAnyH_take (i := 6) (oi := { dst := some 109, op := Op.load 25 (Operand.tmp 108), type := 25, pos := "law.go:125", after := _, guard := some (1, true) }) (v := ?vcr6) rfl (by kernel_rfl) (by kernel_rfl) (by kernel_rfl) (fun _ _ _ h => h) (Or.inl ⟨by rfl, ?hycr6⟩) (by assumption) ?restcr6
  case hycr6 => (intro w hSw; (try dsimp only at hSw); go_simp <;> with_reducible rfl)
  try simp only [Act.put, List.setIfInBounds_toArray, List.set_cons_zero, List.set_cons_succ]
  refine wpAnyH_ready (rs := [4]) (by kernel_rfl) (by simp) ?_
  refine AllReadyH.cons (o := { dst := some 107, op := Op.call { callee := Callee.value (Operand.func 25), args := #[Operand.tmp 106], argTypes := #[25] }, type := 3, pos := "law.go:125", after := _, guard := some (1, true) }) rfl (fun K hK => ?_) AllReadyH.nil
  go_simp
  refine (qUB _ _ (hstB.keep G3).store).mono ?_
  rintro x x4 ⟨rfl, hx4⟩
  have G4 := G3.trans (hx4.mono G3.size)
  try go_wp2_with fail
  refine hK.out _ _ ?_ (fun hHeldcr4 => ?_)
  · exact ⟨(G4.cell (p := ⟨w.heap.size, 0, none⟩) kC_lt).trans kC_0, (G4.cell (p := ⟨w.heap.size, 1, none⟩) kC_lt).trans kC_1, (G4.cell (p := ⟨w4.heap.size, 0, none⟩) kA_lt).trans kA_0, (G4.cell (p := ⟨w4.heap.size, 1, none⟩) kA_lt).trans kA_1, (G4.cell (p := ⟨w5.heap.size, 0, none⟩) kB_lt).trans kB_0, (G4.cell (p := ⟨w5.heap.size, 1, none⟩) kB_lt).trans kB_1, (G4.cell (p := ⟨w6.heap.size, 0, none⟩) kD_lt).trans kD_0, (G4.cell (p := ⟨w6.heap.size, 1, none⟩) kD_lt).trans kD_1⟩
  clear hK K hHeldcr
  try simp only [Act.put, List.setIfInBounds_toArray, List.set_cons_zero, List.set_cons_succ]
  refine wpAnyH_ready (rs := [7]) (by kernel_rfl) (by simp) ?_
  refine AllReadyH.cons (o := { dst := some 110, op := Op.call { callee := Callee.value (Operand.func 25), args := #[Operand.tmp 109], argTypes := #[25] }, type := 3, pos := "law.go:125", after := _, guard := some (1, true) }) rfl (fun K hK => ?_) AllReadyH.nil
  go_simp
  refine (qUH _ _ (hst0.keep G4).store).mono ?_
  rintro x x5 ⟨rfl, hx5⟩
  have G5 := G4.trans (hx5.mono G4.size)
  try go_wp2_with fail
  refine hK.out _ _ ?_ (fun hHeldcr7 => ?_)
  · exact ⟨(G5.cell (p := ⟨w.heap.size, 0, none⟩) kC_lt).trans kC_0, (G5.cell (p := ⟨w.heap.size, 1, none⟩) kC_lt).trans kC_1, (G5.cell (p := ⟨w4.heap.size, 0, none⟩) kA_lt).trans kA_0, (G5.cell (p := ⟨w4.heap.size, 1, none⟩) kA_lt).trans kA_1, (G5.cell (p := ⟨w5.heap.size, 0, none⟩) kB_lt).trans kB_0, (G5.cell (p := ⟨w5.heap.size, 1, none⟩) kB_lt).trans kB_1, (G5.cell (p := ⟨w6.heap.size, 0, none⟩) kD_lt).trans kD_0, (G5.cell (p := ⟨w6.heap.size, 1, none⟩) kD_lt).trans kD_1⟩
  clear hK K hHeldcr4
  try simp only [Act.put, List.setIfInBounds_toArray, List.set_cons_zero, List.set_cons_succ]
  refine wpAnyH_take (i := 8) (oi := { dst := some 111, op := Op.binOp BinOp.eql 3 (Operand.tmp 107) (Operand.tmp 110) 3, type := 4, pos := "law.go:125", after := _, guard := some (1, true) }) (v := .bool true) rfl (by kernel_rfl) (by kernel_rfl) (by kernel_rfl) (fun _ _ _ h => h) (Or.inl ⟨by rfl, ?hycr8⟩) (by assumption) ?restcr8
  case hycr8 => (intro w hSw; (try dsimp only at hSw); go_simp <;> first | done | with_reducible rfl | omega | (simp; done) | (simp; omega) | (simp [*]; done) | (simp [*]; omega) | exact decide_eq_false (by omega) | exact decide_eq_true (by omega))
  try simp only [Act.put, List.setIfInBounds_toArray, List.set_cons_zero, List.set_cons_succ]
  refine wpAnyH_take (i := 9) (oi := { dst := some 112, op := Op.pick (Operand.tmp 104) (Operand.tmp 111) (Operand.const (Value.bool false)), type := 4, pos := "law.go:125", after := _, guard := none }) (v := ?vcr9) rfl (by kernel_rfl) (by kernel_rfl) (by kernel_rfl) (fun _ _ _ h => h) (Or.inl ⟨by rfl, ?hycr9⟩) (by assumption) ?restcr9
  case hycr9 => (intro w hSw; (try dsimp only at hSw); go_simp <;> with_reducible rfl)
  try simp only [Act.put, List.setIfInBounds_toArray, List.set_cons_zero, List.set_cons_succ]
  refine wpAnyH_take (i := 10) (oi := { dst := some 113, op := Op.move (Operand.tmp 112), type := 4, pos := "law.go:125", after := _, guard := none }) (v := ?vcr10) rfl (by kernel_rfl) (by kernel_rfl) (by kernel_rfl) (fun _ _ _ h => h) (Or.inl ⟨by rfl, ?hycr10⟩) (by assumption) ?restcr10
  case hycr10 => (intro w hSw; (try dsimp only at hSw); go_simp <;> with_reducible rfl)
  try simp only [Act.put, List.setIfInBounds_toArray, List.set_cons_zero, List.set_cons_succ]
  refine wpAnyH_take (i := 11) (oi := { dst := some 114, op := Op.fieldAddr 28 (Operand.tmp 11) 0, type := 0, pos := "law.go:125", after := _, guard := some (10, true) }) (v := ?vcr11) rfl (by kernel_rfl) (by kernel_rfl) (by kernel_rfl) (fun _ _ _ h => h) (Or.inl ⟨by rfl, ?hycr11⟩) (by assumption) ?restcr11
  case hycr11 => (intro w hSw; (try dsimp only at hSw); go_simp <;> with_reducible rfl)
  try simp only [Act.put, List.setIfInBounds_toArray, List.set_cons_zero, List.set_cons_succ]
  refine wpAnyH_take (i := 12) (oi := { dst := some 115, op := Op.load 25 (Operand.tmp 114), type := 25, pos := "law.go:125", after := _, guard := some (10, true) }) (v := ?vcr12) rfl (by kernel_rfl) (by kernel_rfl) (by kernel_rfl) (fun _ _ _ h => h) (Or.inl ⟨by rfl, ?hycr12⟩) (by assumption) ?restcr12
  case hycr12 => (intro w hSw; (try dsimp only at hSw); go_simp <;> with_reducible rfl)
  try simp only [Act.put, List.setIfInBounds_toArray, List.set_cons_zero, List.set_cons_succ]
  refine wpAnyH_take (i := 14) (oi := { dst := some 117, op := Op.fieldAddr 28 (Operand.tmp 4) 0, type := 0, pos := "law.go:125", after := _, guard := some (10, true) }) (v := ?vcr14) rfl (by kernel_rfl) (by kernel_rfl) (by kernel_rfl) (fun _ _ _ h => h) (Or.inl ⟨by rfl, ?hycr14⟩) (by assumption) ?restcr14
  case hycr14 => (intro w hSw; (try dsimp only at hSw); go_simp <;> with_reducible rfl)
  try simp only [Act.put, List.setIfInBounds_toArray, List.set_cons_zero, List.set_cons_succ]
  refine wpAnyH_take (i := 15) (oi := { dst := some 118, op := Op.load 25 (Operand.tmp 117), type := 25, pos := "law.go:125", after := _, guard := some (10, true) }) (v := ?vcr15) rfl (by kernel_rfl) (by kernel_rfl) (by kernel_rfl) (fun _ _ _ h => h) (Or.inl ⟨by rfl, ?hycr15⟩) (by assumption) ?restcr15
  case hycr15 => (intro w hSw; (try dsimp only at hSw); go_simp <;> with_reducible rfl)
  try simp only [Act.put, List.setIfInBounds_toArray, List.set_cons_zero, List.set_cons_succ]
  refine wpAnyH_ready (rs := [13]) (by kernel_rfl) (by simp) ?_
  refine AllReadyH.cons (o := { dst := some 116, op := Op.call { callee := Callee.value (Operand.func 25), args := #[Operand.tmp 115], argTypes := #[25] }, type := 3, pos := "law.go:125", after := _, guard := some (10, true) }) rfl (fun K hK => ?_) AllReadyH.nil
  go_simp
  refine (qUA _ _ (hstA.keep G5).store).mono ?_
  rintro x x6 ⟨rfl, hx6⟩
  have G6 := G5.trans (hx6.mono G5.size)
  try go_wp2_with fail
  refine hK.out _ _ ?_ (fun hHeldcr13 => ?_)
  · exact ⟨(G6.cell (p := ⟨w.heap.size, 0, none⟩) kC_lt).trans kC_0, (G6.cell (p := ⟨w.heap.size, 1, none⟩) kC_lt).trans kC_1, (G6.cell (p := ⟨w4.heap.size, 0, none⟩) kA_lt).trans kA_0, (G6.cell (p := ⟨w4.heap.size, 1, none⟩) kA_lt).trans kA_1, (G6.cell (p := ⟨w5.heap.size, 0, none⟩) kB_lt).trans kB_0, (G6.cell (p := ⟨w5.heap.size, 1, none⟩) kB_lt).trans kB_1, (G6.cell (p := ⟨w6.heap.size, 0, none⟩) kD_lt).trans kD_0, (G6.cell (p := ⟨w6.heap.size, 1, none⟩) kD_lt).trans kD_1⟩
  clear hK K hHeldcr7
  try simp only [Act.put, List.setIfInBounds_toArray, List.set_cons_zero, List.set_cons_succ]
  refine wpAnyH_ready (rs := [16]) (by kernel_rfl) (by simp) ?_
  refine AllReadyH.cons (o := { dst := some 119, op := Op.call { callee := Callee.value (Operand.func 25), args := #[Operand.tmp 118], argTypes := #[25] }, type := 3, pos := "law.go:125", after := _, guard := some (10, true) }) rfl (fun K hK => ?_) AllReadyH.nil
  go_simp
  refine (qUH _ _ (hst0.keep G6).store).mono ?_
  rintro x x7 ⟨rfl, hx7⟩
  have G7 := G6.trans (hx7.mono G6.size)
  try go_wp2_with fail
  refine hK.out _ _ ?_ (fun hHeldcr16 => ?_)
  · exact ⟨(G7.cell (p := ⟨w.heap.size, 0, none⟩) kC_lt).trans kC_0, (G7.cell (p := ⟨w.heap.size, 1, none⟩) kC_lt).trans kC_1, (G7.cell (p := ⟨w4.heap.size, 0, none⟩) kA_lt).trans kA_0, (G7.cell (p := ⟨w4.heap.size, 1, none⟩) kA_lt).trans kA_1, (G7.cell (p := ⟨w5.heap.size, 0, none⟩) kB_lt).trans kB_0, (G7.cell (p := ⟨w5.heap.size, 1, none⟩) kB_lt).trans kB_1, (G7.cell (p := ⟨w6.heap.size, 0, none⟩) kD_lt).trans kD_0, (G7.cell (p := ⟨w6.heap.size, 1, none⟩) kD_lt).trans kD_1⟩
  clear hK K hHeldcr13
  try simp only [Act.put, List.setIfInBounds_toArray, List.set_cons_zero, List.set_cons_succ]
  refine wpAnyH_take (i := 17) (oi := { dst := some 120, op := Op.binOp BinOp.add 3 (Operand.tmp 119) (Operand.const (Value.int IntKind.i64 1)) 3, type := 3, pos := "law.go:125", after := _, guard := some (10, true) }) (v := ?vcr17) rfl (by kernel_rfl) (by kernel_rfl) (by kernel_rfl) (fun _ _ _ h => h) (Or.inl ⟨by rfl, ?hycr17⟩) (by assumption) ?restcr17
  case hycr17 => (intro w hSw; (try dsimp only at hSw); go_simp <;> with_reducible rfl)
  try simp only [Act.put, List.setIfInBounds_toArray, List.set_cons_zero, List.set_cons_succ]
  refine wpAnyH_take (i := 18) (oi := { dst := some 121, op := Op.binOp BinOp.leq 3 (Operand.tmp 116) (Operand.tmp 120) 3, type := 4, pos := "law.go:125", after := _, guard := some (10, true) }) (v := .bool true) rfl (by kernel_rfl) (by kernel_rfl) (by kernel_rfl) (fun _ _ _ h => h) (Or.inl ⟨by rfl, ?hycr18⟩) (by assumption) ?restcr18
  case hycr18 => (intro w hSw; (try dsimp only at hSw); go_simp <;> first | done | with_reducible rfl | omega | (simp; done) | (simp; omega) | (simp [*]; done) | (simp [*]; omega) | exact decide_eq_false (by omega) | exact decide_eq_true (by omega))
  try simp only [Act.put, List.setIfInBounds_toArray, List.set_cons_zero, List.set_cons_succ]
  refine wpAnyH_take (i := 19) (oi := { dst := some 122, op := Op.pick (Operand.tmp 113) (Operand.tmp 121) (Operand.const (Value.bool false)), type := 4, pos := "law.go:125", after := _, guard := none }) (v := ?vcr19) rfl (by kernel_rfl) (by kernel_rfl) (by kernel_rfl) (fun _ _ _ h => h) (Or.inl ⟨by rfl, ?hycr19⟩) (by assumption) ?restcr19
  case hycr19 => (intro w hSw; (try dsimp only at hSw); go_simp <;> with_reducible rfl)
  try simp only [Act.put, List.setIfInBounds_toArray, List.set_cons_zero, List.set_cons_succ]
  refine wpAnyH_take (i := 20) (oi := { dst := some 8, op := Op.assign (Operand.tmp 122), type := 4, pos := "law.go:125", after := _, guard := none }) (v := ?vcr20) rfl (by kernel_rfl) (by kernel_rfl) (by kernel_rfl) (fun _ _ _ h => h) (Or.inl ⟨by rfl, ?hycr20⟩) (by assumption) ?restcr20
  case hycr20 => (intro w hSw; (try dsimp only at hSw); go_simp <;> with_reducible rfl)
  try simp only [Act.put, List.setIfInBounds_toArray, List.set_cons_zero, List.set_cons_succ]
  refine wpAnyH_done (by kernel_rfl) ?_ _
  go_wp2
  go_ret
  exact ⟨rfl, hY9.trans (G7.mono hY9.size)⟩

set_option maxRecDepth 100000 in
set_option maxHeartbeats 4000000 in
theorem tableStays_Aoo (w : World) (A0 B0 : Option Addr) (c0 e0 : Nat) (cap : Int) (ps : List Pg) (ts : List (List Int)) (hst0 : HpV w (.agg #[.int .i64 cap, .slice A0 ps.length c0, .slice B0 ts.length e0]) cap ps ts) (t a v : Int) (hF : fewH ps ts = true) (hM : mayH cap ps ts = true) (ln : ps.length ≤ 20) (lm : ts.length ≤ 5) (ll : ∀ t ∈ ts, t.length ≤ 4) (eA nB eB nD eD uH uA uD : Int) (psA psB psD : List Pg) (tsA tsB tsD : List (List Int)) (hA : writeH cap ps ts t a v = (eA, psA, tsA)) (hB : forkH cap ps ts t = (nB, eB, psB, tsB)) (hD : dropH cap ps ts t = (nD, eD, psD, tsD)) (lA : psA.length ≤ 900) (lB : psB.length ≤ 900) (lD : psD.length ≤ 900) (mA : mayH cap psA tsA = true) (mB : mayH cap psB tsB = true) (mD : mayH cap psD tsD = true) (vH : usedL cap ps = uH) (vA : usedL cap psA = uA) (vB : usedL cap psB = uH) (vD : usedL cap psD = uD) (b0 : 0 ≤ uH) (b1 : uH ≤ 20) (b2 : uD ≤ uH) (b3 : uA ≤ uH + 1) (hA1 : (eA != 0) = true) (hA2 : sameH cap psA tsA cap ps ts = true) (hB1 : eB = 0) (hD1 : eD = 0)  :
    Calls Try.prog 8 #[.agg #[.int .i64 cap, .slice A0 ps.length c0, .slice B0 ts.length e0], .int .i64 t, .int .i64 a, .int .i64 v] w fun e w' => e = .returned (.bool true) ∧ Below w.heap.size w w' := by
  have qF := fun v W h => few_any v cap ps ts W h
  rw [hF] at qF
  have qM := fun v W h => tmay_any v cap ps ts W h (by omega)
  rw [hM] at qM
  have qA := fun x W h => tWrite_any x cap ps ts t a v W h (by omega) (by omega) (fun t ht => by have := ll t ht; omega)
  rw [hA] at qA
  have qB := fun x W h => Fork_any x cap ps ts t W h (by omega) (by omega) (fun t ht => by have := ll t ht; omega)
  rw [hB] at qB
  have qD := fun x W h => Drop_any x cap ps ts t W h (by omega) (by omega) (fun t ht => by have := ll t ht; omega)
  rw [hD] at qD
  have qMA := fun x W h => tmay_any x cap psA tsA W h (by omega)
  rw [mA] at qMA
  have qUA := fun x W h => Used_any x cap psA W h
  rw [vA] at qUA
  have qMB := fun x W h => tmay_any x cap psB tsB W h (by omega)
  rw [mB] at qMB
  have qUB := fun x W h => Used_any x cap psB W h
  rw [vB] at qUB
  have qMD := fun x W h => tmay_any x cap psD tsD W h (by omega)
  rw [mD] at qMD
  have qUD := fun x W h => Used_any x cap psD W h
  rw [vD] at qUD
  have qUH := fun x W h => Used_any x cap ps W h
  rw [vH] at qUH
  have hwr : IntKind.i64.wrap (uH + 1) = uH + 1 := by rw [IntKind.wrap_i64]; omega
  clear hF hM hA hB hD ll mA mB mD vH vA vB vD
  have qSA := fun x y W h g => tsame_any x y cap psA tsA cap ps ts W h g
  rw [hA2] at qSA
  clear hA2
  subst hB1
  subst hD1
  go_enter Try.func8, Try.ntmps8
  have hA0 := ((Below.refl w.heap.size w).alloc (Nat.le_refl _) (.cells #[.int .i64 cap, .slice A0 ps.length c0, .slice B0 ts.length e0] 28))
  replace hst0 := hst0.keep hA0
  have kC := Blk.new_ w 28 #[.int .i64 cap, .slice A0 ps.length c0, .slice B0 ts.length e0] (w.heap.size) (by simp)
  have hZ0 : Below w.heap.size w _ := hA0
  go_wp2_with fail
  refine (tawake_any _).mono ?_
  rintro e w1 ⟨rfl, hb1⟩
  obtain ⟨hc1, hf1⟩ := bcell hb1
  have hz1 := hb1.size
  simp at hz1
  replace hst0 := hst0.keep hb1
  replace kC := kC.keep hb1
  have hY1 := hZ0.trans (hb1.mono hZ0.size)
  have zkC_1 : w.heap.size < w1.heap.size := by omega
  have hZ1 : Below w.heap.size w w1 := hY1
  go_wp2_with fail
  refine (qF _ _ hst0).mono ?_
  rintro e w2 ⟨rfl, hb2⟩
  obtain ⟨hc2, hf2⟩ := bcell hb2
  have hz2 := hb2.size
  replace hst0 := hst0.keep hb2
  replace kC := kC.keep hb2
  have hY2 := hZ1.trans (hb2.mono hZ1.size)
  have zkC_2 : w.heap.size < w2.heap.size := by omega
  have hZ2 : Below w.heap.size w w2 := hY2
  go_wp2_with fail
  refine (qM _ _ hst0).mono ?_
  rintro e w3 ⟨rfl, hb3⟩
  obtain ⟨hc3, hf3⟩ := bcell hb3
  have hz3 := hb3.size
  replace hst0 := hst0.keep hb3
  replace kC := kC.keep hb3
  have hY3 := hZ2.trans (hb3.mono hZ2.size)
  have zkC_3 : w.heap.size < w3.heap.size := by omega
  have hZ3 : Below w.heap.size w w3 := hY3
  go_wp2_with fail
  refine (qA _ _ hst0).mono ?_
  rintro e w4 ⟨v4, rfl, hstA, hb4⟩
  obtain ⟨hc4, hf4⟩ := bcell hb4
  have hz4 := hb4.size
  replace hst0 := hst0.keep hb4
  replace kC := kC.keep hb4
  have hY4 := hZ3.trans (hb4.mono hZ3.size)
  have zkC_4 : w.heap.size < w4.heap.size := by omega
  replace hstA := hstA.to
  try dsimp only at hstA
  obtain ⟨AA, cA, BA, eA, rfl, hstA⟩ := hstA.form
  have hA4 := ((Below.refl w4.heap.size w4).alloc (Nat.le_refl _) (.cells #[.int .i64 cap, .slice AA psA.length cA, .slice BA tsA.length eA] 28))
  replace hst0 := hst0.keep hA4
  replace kC := kC.keep hA4
  replace hstA := hstA.keep hA4
  have kA := Blk.new_ w4 28 #[.int .i64 cap, .slice AA psA.length cA, .slice BA tsA.length eA] (w4.heap.size) (by simp)
  have hZ4 : Below w.heap.size w _ := hY4.trans (hA4.mono hY4.size)
  go_wp2_with fail
  refine (qB _ _ hst0).mono ?_
  rintro e w5 ⟨v5, rfl, hstB, hb5⟩
  obtain ⟨hc5, hf5⟩ := bcell hb5
  have hz5 := hb5.size
  simp at hz5
  replace hst0 := hst0.keep hb5
  replace kC := kC.keep hb5
  replace hstA := hstA.keep hb5
  replace kA := kA.keep hb5
  have hY5 := hZ4.trans (hb5.mono hZ4.size)
  have zkC_5 : w.heap.size < w5.heap.size := by omega
  have zkA_5 : w4.heap.size < w5.heap.size := by omega
  replace hstB := hstB.to
  try dsimp only at hstB
  obtain ⟨AB, cB, BB, eB, rfl, hstB⟩ := hstB.form
  have hA5 := ((Below.refl w5.heap.size w5).alloc (Nat.le_refl _) (.cells #[.int .i64 cap, .slice AB psB.length cB, .slice BB tsB.length eB] 28))
  replace hst0 := hst0.keep hA5
  replace kC := kC.keep hA5
  replace hstA := hstA.keep hA5
  replace kA := kA.keep hA5
  replace hstB := hstB.keep hA5
  have kB := Blk.new_ w5 28 #[.int .i64 cap, .slice AB psB.length cB, .slice BB tsB.length eB] (w5.heap.size) (by simp)
  have hZ5 : Below w.heap.size w _ := hY5.trans (hA5.mono hY5.size)
  go_wp2_with fail
  refine (qD _ _ hst0).mono ?_
  rintro e w6 ⟨v6, rfl, hstD, hb6⟩
  obtain ⟨hc6, hf6⟩ := bcell hb6
  have hz6 := hb6.size
  simp at hz6
  replace hst0 := hst0.keep hb6
  replace kC := kC.keep hb6
  replace hstA := hstA.keep hb6
  replace kA := kA.keep hb6
  replace hstB := hstB.keep hb6
  replace kB := kB.keep hb6
  have hY6 := hZ5.trans (hb6.mono hZ5.size)
  have zkC_6 : w.heap.size < w6.heap.size := by omega
  have zkA_6 : w4.heap.size < w6.heap.size := by omega
  have zkB_6 : w5.heap.size < w6.heap.size := by omega
  replace hstD := hstD.to
  try dsimp only at hstD
  obtain ⟨AD, cD, BD, eD, rfl, hstD⟩ := hstD.form
  have hA6 := ((Below.refl w6.heap.size w6).alloc (Nat.le_refl _) (.cells #[.int .i64 cap, .slice AD psD.length cD, .slice BD tsD.length eD] 28))
  replace hst0 := hst0.keep hA6
  replace kC := kC.keep hA6
  replace hstA := hstA.keep hA6
  replace kA := kA.keep hA6
  replace hstB := hstB.keep hA6
  replace kB := kB.keep hA6
  replace hstD := hstD.keep hA6
  have kD := Blk.new_ w6 28 #[.int .i64 cap, .slice AD psD.length cD, .slice BD tsD.length eD] (w6.heap.size) (by simp)
  have hZ6 : Below w.heap.size w _ := hY6.trans (hA6.mono hY6.size)
  go_wp2_with fail
  refine (qSA _ _ _ hstA hst0).mono ?_
  rintro e w7 ⟨rfl, hb7⟩
  obtain ⟨hc7, hf7⟩ := bcell hb7
  have hz7 := hb7.size
  simp at hz7
  replace hst0 := hst0.keep hb7
  replace kC := kC.keep hb7
  replace hstA := hstA.keep hb7
  replace kA := kA.keep hb7
  replace hstB := hstB.keep hb7
  replace kB := kB.keep hb7
  replace hstD := hstD.keep hb7
  replace kD := kD.keep hb7
  have hY7 := hZ6.trans (hb7.mono hZ6.size)
  have zkC_7 : w.heap.size < w7.heap.size := by omega
  have zkA_7 : w4.heap.size < w7.heap.size := by omega
  have zkB_7 : w5.heap.size < w7.heap.size := by omega
  have zkD_7 : w6.heap.size < w7.heap.size := by omega
  have hZ7 : Below w.heap.size w w7 := hY7
  go_wp2_with fail
  refine (qMA _ _ hstA).mono ?_
  rintro e w8 ⟨rfl, hb8⟩
  obtain ⟨hc8, hf8⟩ := bcell hb8
  have hz8 := hb8.size
  replace hst0 := hst0.keep hb8
  replace kC := kC.keep hb8
  replace hstA := hstA.keep hb8
  replace kA := kA.keep hb8
  replace hstB := hstB.keep hb8
  replace kB := kB.keep hb8
  replace hstD := hstD.keep hb8
  replace kD := kD.keep hb8
  have hY8 := hZ7.trans (hb8.mono hZ7.size)
  have zkC_8 : w.heap.size < w8.heap.size := by omega
  have zkA_8 : w4.heap.size < w8.heap.size := by omega
  have zkB_8 : w5.heap.size < w8.heap.size := by omega
  have zkD_8 : w6.heap.size < w8.heap.size := by omega
  have hZ8 : Below w.heap.size w w8 := hY8
  go_wp2_with fail
  refine (qMB _ _ hstB).mono ?_
  rintro e w9 ⟨rfl, hb9⟩
  obtain ⟨hc9, hf9⟩ := bcell hb9
  have hz9 := hb9.size
  replace hst0 := hst0.keep hb9
  replace kC := kC.keep hb9
  replace hstA := hstA.keep hb9
  replace kA := kA.keep hb9
  replace hstB := hstB.keep hb9
  replace kB := kB.keep hb9
  replace hstD := hstD.keep hb9
  replace kD := kD.keep hb9
  have hY9 := hZ8.trans (hb9.mono hZ8.size)
  have zkC_9 : w.heap.size < w9.heap.size := by omega
  have zkA_9 : w4.heap.size < w9.heap.size := by omega
  have zkB_9 : w5.heap.size < w9.heap.size := by omega
  have zkD_9 : w6.heap.size < w9.heap.size := by omega
  have hZ9 : Below w.heap.size w w9 := hY9
  go_wp2_with fail
  refine (qMD _ _ hstD).mono ?_
  rintro e w10 ⟨rfl, hb10⟩
  obtain ⟨hc10, hf10⟩ := bcell hb10
  have hz10 := hb10.size
  replace hst0 := hst0.keep hb10
  replace kC := kC.keep hb10
  replace hstA := hstA.keep hb10
  replace kA := kA.keep hb10
  replace hstB := hstB.keep hb10
  replace kB := kB.keep hb10
  replace hstD := hstD.keep hb10
  replace kD := kD.keep hb10
  have hY10 := hZ9.trans (hb10.mono hZ9.size)
  have zkC_10 : w.heap.size < w10.heap.size := by omega
  have zkA_10 : w4.heap.size < w10.heap.size := by omega
  have zkB_10 : w5.heap.size < w10.heap.size := by omega
  have zkD_10 : w6.heap.size < w10.heap.size := by omega
  go_wp2_with fail
  have kC_0 : w10.cell? ⟨w.heap.size, 0, none⟩ = some (.int .i64 cap) := by rw [kC.cell]; rfl
  have kC_1 : w10.cell? ⟨w.heap.size, 1, none⟩ = some (.slice A0 ps.length c0) := by rw [kC.cell]; rfl
  have kC_lt := kC.lt
  have kA_0 : w10.cell? ⟨w4.heap.size, 0, none⟩ = some (.int .i64 cap) := by rw [kA.cell]; rfl
  have kA_1 : w10.cell? ⟨w4.heap.size, 1, none⟩ = some (.slice AA psA.length cA) := by rw [kA.cell]; rfl
  have kA_lt := kA.lt
  have kB_0 : w10.cell? ⟨w5.heap.size, 0, none⟩ = some (.int .i64 cap) := by rw [kB.cell]; rfl
  have kB_1 : w10.cell? ⟨w5.heap.size, 1, none⟩ = some (.slice AB psB.length cB) := by rw [kB.cell]; rfl
  have kB_lt := kB.lt
  have kD_0 : w10.cell? ⟨w6.heap.size, 0, none⟩ = some (.int .i64 cap) := by rw [kD.cell]; rfl
  have kD_1 : w10.cell? ⟨w6.heap.size, 1, none⟩ = some (.slice AD psD.length cD) := by rw [kD.cell]; rfl
  have kD_lt := kD.lt
  have G0 := (Below.refl w10.heap.size w10).drew
  refine wp_region_held_drew (S := fun w' => w'.cell? ⟨w.heap.size, 0, none⟩ = some (.int .i64 cap) ∧ w'.cell? ⟨w.heap.size, 1, none⟩ = some (.slice A0 ps.length c0) ∧ w'.cell? ⟨w4.heap.size, 0, none⟩ = some (.int .i64 cap) ∧ w'.cell? ⟨w4.heap.size, 1, none⟩ = some (.slice AA psA.length cA) ∧ w'.cell? ⟨w5.heap.size, 0, none⟩ = some (.int .i64 cap) ∧ w'.cell? ⟨w5.heap.size, 1, none⟩ = some (.slice AB psB.length cB) ∧ w'.cell? ⟨w6.heap.size, 0, none⟩ = some (.int .i64 cap) ∧ w'.cell? ⟨w6.heap.size, 1, none⟩ = some (.slice AD psD.length cD)) (by kernel_rfl) ?_ (fun hHelddr => ?_)
  · exact ⟨(G0.cell (p := ⟨w.heap.size, 0, none⟩) kC_lt).trans kC_0, (G0.cell (p := ⟨w.heap.size, 1, none⟩) kC_lt).trans kC_1, (G0.cell (p := ⟨w4.heap.size, 0, none⟩) kA_lt).trans kA_0, (G0.cell (p := ⟨w4.heap.size, 1, none⟩) kA_lt).trans kA_1, (G0.cell (p := ⟨w5.heap.size, 0, none⟩) kB_lt).trans kB_0, (G0.cell (p := ⟨w5.heap.size, 1, none⟩) kB_lt).trans kB_1, (G0.cell (p := ⟨w6.heap.size, 0, none⟩) kD_lt).trans kD_0, (G0.cell (p := ⟨w6.heap.size, 1, none⟩) kD_lt).trans kD_1⟩
  refine wpAnyH_take (i := 0) (oi := { dst := some 96, op := Op.fieldAddr 28 (Operand.tmp 16) 0, type := 0, pos := "law.go:124", after := _, guard := none }) (v := ?vdr0) rfl (by kernel_rfl) (by kernel_rfl) (by kernel_rfl) (fun _ _ _ h => h) (Or.inl ⟨by rfl, ?hydr0⟩) (by assumption) ?restdr0
  case hydr0 => (intro w hSw; (try dsimp only at hSw); go_simp <;> with_reducible rfl)
  try simp only [Act.put, List.setIfInBounds_toArray, List.set_cons_zero, List.set_cons_succ]
  refine wpAnyH_take (i := 1) (oi := { dst := some 97, op := Op.load 25 (Operand.tmp 96), type := 25, pos := "law.go:124", after := _, guard := none }) (v := ?vdr1) rfl (by kernel_rfl) (by kernel_rfl) (by kernel_rfl) (fun _ _ _ h => h) (Or.inl ⟨by rfl, ?hydr1⟩) (by assumption) ?restdr1
  case hydr1 => (intro w hSw; (try dsimp only at hSw); go_simp <;> with_reducible rfl)
  try simp only [Act.put, List.setIfInBounds_toArray, List.set_cons_zero, List.set_cons_succ]
  refine wpAnyH_take (i := 3) (oi := { dst := some 99, op := Op.fieldAddr 28 (Operand.tmp 4) 0, type := 0, pos := "law.go:124", after := _, guard := none }) (v := ?vdr3) rfl (by kernel_rfl) (by kernel_rfl) (by kernel_rfl) (fun _ _ _ h => h) (Or.inl ⟨by rfl, ?hydr3⟩) (by assumption) ?restdr3
  case hydr3 => (intro w hSw; (try dsimp only at hSw); go_simp <;> with_reducible rfl)
  try simp only [Act.put, List.setIfInBounds_toArray, List.set_cons_zero, List.set_cons_succ]
  refine wpAnyH_take (i := 4) (oi := { dst := some 100, op := Op.load 25 (Operand.tmp 99), type := 25, pos := "law.go:124", after := _, guard := none }) (v := ?vdr4) rfl (by kernel_rfl) (by kernel_rfl) (by kernel_rfl) (fun _ _ _ h => h) (Or.inl ⟨by rfl, ?hydr4⟩) (by assumption) ?restdr4
  case hydr4 => (intro w hSw; (try dsimp only at hSw); go_simp <;> with_reducible rfl)
  try simp only [Act.put, List.setIfInBounds_toArray, List.set_cons_zero, List.set_cons_succ]
  refine wpAnyH_ready (rs := [2]) (by kernel_rfl) (by simp) ?_
  refine AllReadyH.cons (o := { dst := some 98, op := Op.call { callee := Callee.value (Operand.func 25), args := #[Operand.tmp 97], argTypes := #[25] }, type := 3, pos := "law.go:124", after := _, guard := none }) rfl (fun K hK => ?_) AllReadyH.nil
  go_simp
  refine (qUD _ _ (hstD.keep G0).store).mono ?_
  rintro x x1 ⟨rfl, hx1⟩
  have G1 := G0.trans (hx1.mono G0.size)
  try go_wp2_with fail
  refine hK.out _ _ ?_ (fun hHelddr2 => ?_)
  · exact ⟨(G1.cell (p := ⟨w.heap.size, 0, none⟩) kC_lt).trans kC_0, (G1.cell (p := ⟨w.heap.size, 1, none⟩) kC_lt).trans kC_1, (G1.cell (p := ⟨w4.heap.size, 0, none⟩) kA_lt).trans kA_0, (G1.cell (p := ⟨w4.heap.size, 1, none⟩) kA_lt).trans kA_1, (G1.cell (p := ⟨w5.heap.size, 0, none⟩) kB_lt).trans kB_0, (G1.cell (p := ⟨w5.heap.size, 1, none⟩) kB_lt).trans kB_1, (G1.cell (p := ⟨w6.heap.size, 0, none⟩) kD_lt).trans kD_0, (G1.cell (p := ⟨w6.heap.size, 1, none⟩) kD_lt).trans kD_1⟩
  clear hK K hHelddr
  try simp only [Act.put, List.setIfInBounds_toArray, List.set_cons_zero, List.set_cons_succ]
  refine wpAnyH_ready (rs := [5]) (by kernel_rfl) (by simp) ?_
  refine AllReadyH.cons (o := { dst := some 101, op := Op.call { callee := Callee.value (Operand.func 25), args := #[Operand.tmp 100], argTypes := #[25] }, type := 3, pos := "law.go:124", after := _, guard := none }) rfl (fun K hK => ?_) AllReadyH.nil
  go_simp
  refine (qUH _ _ (hst0.keep G1).store).mono ?_
  rintro x x2 ⟨rfl, hx2⟩
  have G2 := G1.trans (hx2.mono G1.size)
  try go_wp2_with fail
  refine hK.out _ _ ?_ (fun hHelddr5 => ?_)
  · exact ⟨(G2.cell (p := ⟨w.heap.size, 0, none⟩) kC_lt).trans kC_0, (G2.cell (p := ⟨w.heap.size, 1, none⟩) kC_lt).trans kC_1, (G2.cell (p := ⟨w4.heap.size, 0, none⟩) kA_lt).trans kA_0, (G2.cell (p := ⟨w4.heap.size, 1, none⟩) kA_lt).trans kA_1, (G2.cell (p := ⟨w5.heap.size, 0, none⟩) kB_lt).trans kB_0, (G2.cell (p := ⟨w5.heap.size, 1, none⟩) kB_lt).trans kB_1, (G2.cell (p := ⟨w6.heap.size, 0, none⟩) kD_lt).trans kD_0, (G2.cell (p := ⟨w6.heap.size, 1, none⟩) kD_lt).trans kD_1⟩
  clear hK K hHelddr2
  try simp only [Act.put, List.setIfInBounds_toArray, List.set_cons_zero, List.set_cons_succ]
  refine wpAnyH_take (i := 6) (oi := { dst := some 102, op := Op.binOp BinOp.leq 3 (Operand.tmp 98) (Operand.tmp 101) 3, type := 4, pos := "law.go:124", after := _, guard := none }) (v := .bool true) rfl (by kernel_rfl) (by kernel_rfl) (by kernel_rfl) (fun _ _ _ h => h) (Or.inl ⟨by rfl, ?hydr6⟩) (by assumption) ?restdr6
  case hydr6 => (intro w hSw; (try dsimp only at hSw); go_simp <;> first | done | with_reducible rfl | omega | (simp; done) | (simp; omega) | (simp [*]; done) | (simp [*]; omega) | exact decide_eq_false (by omega) | exact decide_eq_true (by omega))
  try simp only [Act.put, List.setIfInBounds_toArray, List.set_cons_zero, List.set_cons_succ]
  refine wpAnyH_take (i := 7) (oi := { dst := some 18, op := Op.assign (Operand.tmp 102), type := 4, pos := "law.go:124", after := _, guard := none }) (v := ?vdr7) rfl (by kernel_rfl) (by kernel_rfl) (by kernel_rfl) (fun _ _ _ h => h) (Or.inl ⟨by rfl, ?hydr7⟩) (by assumption) ?restdr7
  case hydr7 => (intro w hSw; (try dsimp only at hSw); go_simp <;> with_reducible rfl)
  try simp only [Act.put, List.setIfInBounds_toArray, List.set_cons_zero, List.set_cons_succ]
  refine wpAnyH_done (by kernel_rfl) ?_ _
  go_upto_region 13 with fail
  have G3 := G2.drew
  refine wp_region_held_drew (S := fun w' => w'.cell? ⟨w.heap.size, 0, none⟩ = some (.int .i64 cap) ∧ w'.cell? ⟨w.heap.size, 1, none⟩ = some (.slice A0 ps.length c0) ∧ w'.cell? ⟨w4.heap.size, 0, none⟩ = some (.int .i64 cap) ∧ w'.cell? ⟨w4.heap.size, 1, none⟩ = some (.slice AA psA.length cA) ∧ w'.cell? ⟨w5.heap.size, 0, none⟩ = some (.int .i64 cap) ∧ w'.cell? ⟨w5.heap.size, 1, none⟩ = some (.slice AB psB.length cB) ∧ w'.cell? ⟨w6.heap.size, 0, none⟩ = some (.int .i64 cap) ∧ w'.cell? ⟨w6.heap.size, 1, none⟩ = some (.slice AD psD.length cD)) (by kernel_rfl) ?_ (fun hHelder => ?_)
  · exact ⟨(G3.cell (p := ⟨w.heap.size, 0, none⟩) kC_lt).trans kC_0, (G3.cell (p := ⟨w.heap.size, 1, none⟩) kC_lt).trans kC_1, (G3.cell (p := ⟨w4.heap.size, 0, none⟩) kA_lt).trans kA_0, (G3.cell (p := ⟨w4.heap.size, 1, none⟩) kA_lt).trans kA_1, (G3.cell (p := ⟨w5.heap.size, 0, none⟩) kB_lt).trans kB_0, (G3.cell (p := ⟨w5.heap.size, 1, none⟩) kB_lt).trans kB_1, (G3.cell (p := ⟨w6.heap.size, 0, none⟩) kD_lt).trans kD_0, (G3.cell (p := ⟨w6.heap.size, 1, none⟩) kD_lt).trans kD_1⟩
  refine wpAnyH_take (i := 0) (oi := { dst := some 103, op := Op.move (Operand.tmp 18), type := 4, pos := "law.go:125", after := _, guard := none }) (v := ?ver0) rfl (by kernel_rfl) (by kernel_rfl) (by kernel_rfl) (fun _ _ _ h => h) (Or.inl ⟨by rfl, ?hyer0⟩) (by assumption) ?rester0
  case hyer0 => (intro w hSw; (try dsimp only at hSw); go_simp <;> with_reducible rfl)
  try simp only [Act.put, List.setIfInBounds_toArray, List.set_cons_zero, List.set_cons_succ]
  refine wpAnyH_take (i := 1) (oi := { dst := some 104, op := Op.move (Operand.tmp 103), type := 4, pos := "law.go:125", after := _, guard := none }) (v := ?ver1) rfl (by kernel_rfl) (by kernel_rfl) (by kernel_rfl) (fun _ _ _ h => h) (Or.inl ⟨by rfl, ?hyer1⟩) (by assumption) ?rester1
  case hyer1 => (intro w hSw; (try dsimp only at hSw); go_simp <;> with_reducible rfl)
  try simp only [Act.put, List.setIfInBounds_toArray, List.set_cons_zero, List.set_cons_succ]
  refine wpAnyH_take (i := 2) (oi := { dst := some 105, op := Op.fieldAddr 28 (Operand.tmp 13) 0, type := 0, pos := "law.go:125", after := _, guard := some (1, true) }) (v := ?ver2) rfl (by kernel_rfl) (by kernel_rfl) (by kernel_rfl) (fun _ _ _ h => h) (Or.inl ⟨by rfl, ?hyer2⟩) (by assumption) ?rester2
  case hyer2 => (intro w hSw; (try dsimp only at hSw); go_simp <;> with_reducible rfl)
  try simp only [Act.put, List.setIfInBounds_toArray, List.set_cons_zero, List.set_cons_succ]
  refine wpAnyH_take (i := 3) (oi := { dst := some 106, op := Op.load 25 (Operand.tmp 105), type := 25, pos := "law.go:125", after := _, guard := some (1, true) }) (v := ?ver3) rfl (by kernel_rfl) (by kernel_rfl) (by kernel_rfl) (fun _ _ _ h => h) (Or.inl ⟨by rfl, ?hyer3⟩) (by assumption) ?rester3
  case hyer3 => (intro w hSw; (try dsimp only at hSw); go_simp <;> with_reducible rfl)
  try simp only [Act.put, List.setIfInBounds_toArray, List.set_cons_zero, List.set_cons_succ]
  refine wpAnyH_take (i := 5) (oi := { dst := some 108, op := Op.fieldAddr 28 (Operand.tmp 4) 0, type := 0, pos := "law.go:125", after := _, guard := some (1, true) }) (v := ?ver5) rfl (by kernel_rfl) (by kernel_rfl) (by kernel_rfl) (fun _ _ _ h => h) (Or.inl ⟨by rfl, ?hyer5⟩) (by assumption) ?rester5
  case hyer5 => (intro w hSw; (try dsimp only at hSw); go_simp <;> with_reducible rfl)
  try simp only [Act.put, List.setIfInBounds_toArray, List.set_cons_zero, List.set_cons_succ]
  refine wpAnyH_take (i := 6) (oi := { dst := some 109, op := Op.load 25 (Operand.tmp 108), type := 25, pos := "law.go:125", after := _, guard := some (1, true) }) (v := ?ver6) rfl (by kernel_rfl) (by kernel_rfl) (by kernel_rfl) (fun _ _ _ h => h) (Or.inl ⟨by rfl, ?hyer6⟩) (by assumption) ?rester6
  case hyer6 => (intro w hSw; (try dsimp only at hSw); go_simp <;> with_reducible rfl)
  try simp only [Act.put, List.setIfInBounds_toArray, List.set_cons_zero, List.set_cons_succ]
  refine wpAnyH_ready (rs := [4]) (by kernel_rfl) (by simp) ?_
  refine AllReadyH.cons (o := { dst := some 107, op := Op.call { callee := Callee.value (Operand.func 25), args := #[Operand.tmp 106], argTypes := #[25] }, type := 3, pos := "law.go:125", after := _, guard := some (1, true) }) rfl (fun K hK => ?_) AllReadyH.nil
  go_simp
  refine (qUB _ _ (hstB.keep G3).store).mono ?_
  rintro x x4 ⟨rfl, hx4⟩
  have G4 := G3.trans (hx4.mono G3.size)
  try go_wp2_with fail
  refine hK.out _ _ ?_ (fun hHelder4 => ?_)
  · exact ⟨(G4.cell (p := ⟨w.heap.size, 0, none⟩) kC_lt).trans kC_0, (G4.cell (p := ⟨w.heap.size, 1, none⟩) kC_lt).trans kC_1, (G4.cell (p := ⟨w4.heap.size, 0, none⟩) kA_lt).trans kA_0, (G4.cell (p := ⟨w4.heap.size, 1, none⟩) kA_lt).trans kA_1, (G4.cell (p := ⟨w5.heap.size, 0, none⟩) kB_lt).trans kB_0, (G4.cell (p := ⟨w5.heap.size, 1, none⟩) kB_lt).trans kB_1, (G4.cell (p := ⟨w6.heap.size, 0, none⟩) kD_lt).trans kD_0, (G4.cell (p := ⟨w6.heap.size, 1, none⟩) kD_lt).trans kD_1⟩
  clear hK K hHelder
  try simp only [Act.put, List.setIfInBounds_toArray, List.set_cons_zero, List.set_cons_succ]
  refine wpAnyH_ready (rs := [7]) (by kernel_rfl) (by simp) ?_
  refine AllReadyH.cons (o := { dst := some 110, op := Op.call { callee := Callee.value (Operand.func 25), args := #[Operand.tmp 109], argTypes := #[25] }, type := 3, pos := "law.go:125", after := _, guard := some (1, true) }) rfl (fun K hK => ?_) AllReadyH.nil
  go_simp
  refine (qUH _ _ (hst0.keep G4).store).mono ?_
  rintro x x5 ⟨rfl, hx5⟩
  have G5 := G4.trans (hx5.mono G4.size)
  try go_wp2_with fail
  refine hK.out _ _ ?_ (fun hHelder7 => ?_)
  · exact ⟨(G5.cell (p := ⟨w.heap.size, 0, none⟩) kC_lt).trans kC_0, (G5.cell (p := ⟨w.heap.size, 1, none⟩) kC_lt).trans kC_1, (G5.cell (p := ⟨w4.heap.size, 0, none⟩) kA_lt).trans kA_0, (G5.cell (p := ⟨w4.heap.size, 1, none⟩) kA_lt).trans kA_1, (G5.cell (p := ⟨w5.heap.size, 0, none⟩) kB_lt).trans kB_0, (G5.cell (p := ⟨w5.heap.size, 1, none⟩) kB_lt).trans kB_1, (G5.cell (p := ⟨w6.heap.size, 0, none⟩) kD_lt).trans kD_0, (G5.cell (p := ⟨w6.heap.size, 1, none⟩) kD_lt).trans kD_1⟩
  clear hK K hHelder4
  try simp only [Act.put, List.setIfInBounds_toArray, List.set_cons_zero, List.set_cons_succ]
  refine wpAnyH_take (i := 8) (oi := { dst := some 111, op := Op.binOp BinOp.eql 3 (Operand.tmp 107) (Operand.tmp 110) 3, type := 4, pos := "law.go:125", after := _, guard := some (1, true) }) (v := .bool true) rfl (by kernel_rfl) (by kernel_rfl) (by kernel_rfl) (fun _ _ _ h => h) (Or.inl ⟨by rfl, ?hyer8⟩) (by assumption) ?rester8
  case hyer8 => (intro w hSw; (try dsimp only at hSw); go_simp <;> first | done | with_reducible rfl | omega | (simp; done) | (simp; omega) | (simp [*]; done) | (simp [*]; omega) | exact decide_eq_false (by omega) | exact decide_eq_true (by omega))
  try simp only [Act.put, List.setIfInBounds_toArray, List.set_cons_zero, List.set_cons_succ]
  refine wpAnyH_take (i := 9) (oi := { dst := some 112, op := Op.pick (Operand.tmp 104) (Operand.tmp 111) (Operand.const (Value.bool false)), type := 4, pos := "law.go:125", after := _, guard := none }) (v := ?ver9) rfl (by kernel_rfl) (by kernel_rfl) (by kernel_rfl) (fun _ _ _ h => h) (Or.inl ⟨by rfl, ?hyer9⟩) (by assumption) ?rester9
  case hyer9 => (intro w hSw; (try dsimp only at hSw); go_simp <;> with_reducible rfl)
  try simp only [Act.put, List.setIfInBounds_toArray, List.set_cons_zero, List.set_cons_succ]
  refine wpAnyH_take (i := 10) (oi := { dst := some 113, op := Op.move (Operand.tmp 112), type := 4, pos := "law.go:125", after := _, guard := none }) (v := ?ver10) rfl (by kernel_rfl) (by kernel_rfl) (by kernel_rfl) (fun _ _ _ h => h) (Or.inl ⟨by rfl, ?hyer10⟩) (by assumption) ?rester10
  case hyer10 => (intro w hSw; (try dsimp only at hSw); go_simp <;> with_reducible rfl)
  try simp only [Act.put, List.setIfInBounds_toArray, List.set_cons_zero, List.set_cons_succ]
  refine wpAnyH_take (i := 11) (oi := { dst := some 114, op := Op.fieldAddr 28 (Operand.tmp 11) 0, type := 0, pos := "law.go:125", after := _, guard := some (10, true) }) (v := ?ver11) rfl (by kernel_rfl) (by kernel_rfl) (by kernel_rfl) (fun _ _ _ h => h) (Or.inl ⟨by rfl, ?hyer11⟩) (by assumption) ?rester11
  case hyer11 => (intro w hSw; (try dsimp only at hSw); go_simp <;> with_reducible rfl)
  try simp only [Act.put, List.setIfInBounds_toArray, List.set_cons_zero, List.set_cons_succ]
  refine wpAnyH_take (i := 12) (oi := { dst := some 115, op := Op.load 25 (Operand.tmp 114), type := 25, pos := "law.go:125", after := _, guard := some (10, true) }) (v := ?ver12) rfl (by kernel_rfl) (by kernel_rfl) (by kernel_rfl) (fun _ _ _ h => h) (Or.inl ⟨by rfl, ?hyer12⟩) (by assumption) ?rester12
  case hyer12 => (intro w hSw; (try dsimp only at hSw); go_simp <;> with_reducible rfl)
  try simp only [Act.put, List.setIfInBounds_toArray, List.set_cons_zero, List.set_cons_succ]
  refine wpAnyH_take (i := 14) (oi := { dst := some 117, op := Op.fieldAddr 28 (Operand.tmp 4) 0, type := 0, pos := "law.go:125", after := _, guard := some (10, true) }) (v := ?ver14) rfl (by kernel_rfl) (by kernel_rfl) (by kernel_rfl) (fun _ _ _ h => h) (Or.inl ⟨by rfl, ?hyer14⟩) (by assumption) ?rester14
  case hyer14 => (intro w hSw; (try dsimp only at hSw); go_simp <;> with_reducible rfl)
  try simp only [Act.put, List.setIfInBounds_toArray, List.set_cons_zero, List.set_cons_succ]
  refine wpAnyH_take (i := 15) (oi := { dst := some 118, op := Op.load 25 (Operand.tmp 117), type := 25, pos := "law.go:125", after := _, guard := some (10, true) }) (v := ?ver15) rfl (by kernel_rfl) (by kernel_rfl) (by kernel_rfl) (fun _ _ _ h => h) (Or.inl ⟨by rfl, ?hyer15⟩) (by assumption) ?rester15
  case hyer15 => (intro w hSw; (try dsimp only at hSw); go_simp <;> with_reducible rfl)
  try simp only [Act.put, List.setIfInBounds_toArray, List.set_cons_zero, List.set_cons_succ]
  refine wpAnyH_ready (rs := [13]) (by kernel_rfl) (by simp) ?_
  refine AllReadyH.cons (o := { dst := some 116, op := Op.call { callee := Callee.value (Operand.func 25), args := #[Operand.tmp 115], argTypes := #[25] }, type := 3, pos := "law.go:125", after := _, guard := some (10, true) }) rfl (fun K hK => ?_) AllReadyH.nil
  go_simp
  refine (qUA _ _ (hstA.keep G5).store).mono ?_
  rintro x x6 ⟨rfl, hx6⟩
  have G6 := G5.trans (hx6.mono G5.size)
  try go_wp2_with fail
  refine hK.out _ _ ?_ (fun hHelder13 => ?_)
  · exact ⟨(G6.cell (p := ⟨w.heap.size, 0, none⟩) kC_lt).trans kC_0, (G6.cell (p := ⟨w.heap.size, 1, none⟩) kC_lt).trans kC_1, (G6.cell (p := ⟨w4.heap.size, 0, none⟩) kA_lt).trans kA_0, (G6.cell (p := ⟨w4.heap.size, 1, none⟩) kA_lt).trans kA_1, (G6.cell (p := ⟨w5.heap.size, 0, none⟩) kB_lt).trans kB_0, (G6.cell (p := ⟨w5.heap.size, 1, none⟩) kB_lt).trans kB_1, (G6.cell (p := ⟨w6.heap.size, 0, none⟩) kD_lt).trans kD_0, (G6.cell (p := ⟨w6.heap.size, 1, none⟩) kD_lt).trans kD_1⟩
  clear hK K hHelder7
  try simp only [Act.put, List.setIfInBounds_toArray, List.set_cons_zero, List.set_cons_succ]
  refine wpAnyH_ready (rs := [16]) (by kernel_rfl) (by simp) ?_
  refine AllReadyH.cons (o := { dst := some 119, op := Op.call { callee := Callee.value (Operand.func 25), args := #[Operand.tmp 118], argTypes := #[25] }, type := 3, pos := "law.go:125", after := _, guard := some (10, true) }) rfl (fun K hK => ?_) AllReadyH.nil
  go_simp
  refine (qUH _ _ (hst0.keep G6).store).mono ?_
  rintro x x7 ⟨rfl, hx7⟩
  have G7 := G6.trans (hx7.mono G6.size)
  try go_wp2_with fail
  refine hK.out _ _ ?_ (fun hHelder16 => ?_)
  · exact ⟨(G7.cell (p := ⟨w.heap.size, 0, none⟩) kC_lt).trans kC_0, (G7.cell (p := ⟨w.heap.size, 1, none⟩) kC_lt).trans kC_1, (G7.cell (p := ⟨w4.heap.size, 0, none⟩) kA_lt).trans kA_0, (G7.cell (p := ⟨w4.heap.size, 1, none⟩) kA_lt).trans kA_1, (G7.cell (p := ⟨w5.heap.size, 0, none⟩) kB_lt).trans kB_0, (G7.cell (p := ⟨w5.heap.size, 1, none⟩) kB_lt).trans kB_1, (G7.cell (p := ⟨w6.heap.size, 0, none⟩) kD_lt).trans kD_0, (G7.cell (p := ⟨w6.heap.size, 1, none⟩) kD_lt).trans kD_1⟩
  clear hK K hHelder13
  try simp only [Act.put, List.setIfInBounds_toArray, List.set_cons_zero, List.set_cons_succ]
  refine wpAnyH_take (i := 17) (oi := { dst := some 120, op := Op.binOp BinOp.add 3 (Operand.tmp 119) (Operand.const (Value.int IntKind.i64 1)) 3, type := 3, pos := "law.go:125", after := _, guard := some (10, true) }) (v := ?ver17) rfl (by kernel_rfl) (by kernel_rfl) (by kernel_rfl) (fun _ _ _ h => h) (Or.inl ⟨by rfl, ?hyer17⟩) (by assumption) ?rester17
  case hyer17 => (intro w hSw; (try dsimp only at hSw); go_simp <;> with_reducible rfl)
  try simp only [Act.put, List.setIfInBounds_toArray, List.set_cons_zero, List.set_cons_succ]
  refine wpAnyH_take (i := 18) (oi := { dst := some 121, op := Op.binOp BinOp.leq 3 (Operand.tmp 116) (Operand.tmp 120) 3, type := 4, pos := "law.go:125", after := _, guard := some (10, true) }) (v := .bool true) rfl (by kernel_rfl) (by kernel_rfl) (by kernel_rfl) (fun _ _ _ h => h) (Or.inl ⟨by rfl, ?hyer18⟩) (by assumption) ?rester18
  case hyer18 => (intro w hSw; (try dsimp only at hSw); go_simp <;> first | done | with_reducible rfl | omega | (simp; done) | (simp; omega) | (simp [*]; done) | (simp [*]; omega) | exact decide_eq_false (by omega) | exact decide_eq_true (by omega))
  try simp only [Act.put, List.setIfInBounds_toArray, List.set_cons_zero, List.set_cons_succ]
  refine wpAnyH_take (i := 19) (oi := { dst := some 122, op := Op.pick (Operand.tmp 113) (Operand.tmp 121) (Operand.const (Value.bool false)), type := 4, pos := "law.go:125", after := _, guard := none }) (v := ?ver19) rfl (by kernel_rfl) (by kernel_rfl) (by kernel_rfl) (fun _ _ _ h => h) (Or.inl ⟨by rfl, ?hyer19⟩) (by assumption) ?rester19
  case hyer19 => (intro w hSw; (try dsimp only at hSw); go_simp <;> with_reducible rfl)
  try simp only [Act.put, List.setIfInBounds_toArray, List.set_cons_zero, List.set_cons_succ]
  refine wpAnyH_take (i := 20) (oi := { dst := some 8, op := Op.assign (Operand.tmp 122), type := 4, pos := "law.go:125", after := _, guard := none }) (v := ?ver20) rfl (by kernel_rfl) (by kernel_rfl) (by kernel_rfl) (fun _ _ _ h => h) (Or.inl ⟨by rfl, ?hyer20⟩) (by assumption) ?rester20
  case hyer20 => (intro w hSw; (try dsimp only at hSw); go_simp <;> with_reducible rfl)
  try simp only [Act.put, List.setIfInBounds_toArray, List.set_cons_zero, List.set_cons_succ]
  refine wpAnyH_done (by kernel_rfl) ?_ _
  go_wp2
  go_ret
  exact ⟨rfl, hY10.trans (G7.mono hY10.size)⟩

set_option maxRecDepth 100000 in
set_option maxHeartbeats 4000000 in
theorem tableStays_oBo (w : World) (A0 B0 : Option Addr) (c0 e0 : Nat) (cap : Int) (ps : List Pg) (ts : List (List Int)) (hst0 : HpV w (.agg #[.int .i64 cap, .slice A0 ps.length c0, .slice B0 ts.length e0]) cap ps ts) (t a v : Int) (hF : fewH ps ts = true) (hM : mayH cap ps ts = true) (ln : ps.length ≤ 20) (lm : ts.length ≤ 5) (ll : ∀ t ∈ ts, t.length ≤ 4) (eA nB eB nD eD uH uA uD : Int) (psA psB psD : List Pg) (tsA tsB tsD : List (List Int)) (hA : writeH cap ps ts t a v = (eA, psA, tsA)) (hB : forkH cap ps ts t = (nB, eB, psB, tsB)) (hD : dropH cap ps ts t = (nD, eD, psD, tsD)) (lA : psA.length ≤ 900) (lB : psB.length ≤ 900) (lD : psD.length ≤ 900) (mA : mayH cap psA tsA = true) (mB : mayH cap psB tsB = true) (mD : mayH cap psD tsD = true) (vH : usedL cap ps = uH) (vA : usedL cap psA = uA) (vB : usedL cap psB = uH) (vD : usedL cap psD = uD) (b0 : 0 ≤ uH) (b1 : uH ≤ 20) (b2 : uD ≤ uH) (b3 : uA ≤ uH + 1) (hA1 : eA = 0) (hB1 : (eB != 0) = true) (hB2 : sameH cap psB tsB cap ps ts = true) (hD1 : eD = 0)  :
    Calls Try.prog 8 #[.agg #[.int .i64 cap, .slice A0 ps.length c0, .slice B0 ts.length e0], .int .i64 t, .int .i64 a, .int .i64 v] w fun e w' => e = .returned (.bool true) ∧ Below w.heap.size w w' := by
  have qF := fun v W h => few_any v cap ps ts W h
  rw [hF] at qF
  have qM := fun v W h => tmay_any v cap ps ts W h (by omega)
  rw [hM] at qM
  have qA := fun x W h => tWrite_any x cap ps ts t a v W h (by omega) (by omega) (fun t ht => by have := ll t ht; omega)
  rw [hA] at qA
  have qB := fun x W h => Fork_any x cap ps ts t W h (by omega) (by omega) (fun t ht => by have := ll t ht; omega)
  rw [hB] at qB
  have qD := fun x W h => Drop_any x cap ps ts t W h (by omega) (by omega) (fun t ht => by have := ll t ht; omega)
  rw [hD] at qD
  have qMA := fun x W h => tmay_any x cap psA tsA W h (by omega)
  rw [mA] at qMA
  have qUA := fun x W h => Used_any x cap psA W h
  rw [vA] at qUA
  have qMB := fun x W h => tmay_any x cap psB tsB W h (by omega)
  rw [mB] at qMB
  have qUB := fun x W h => Used_any x cap psB W h
  rw [vB] at qUB
  have qMD := fun x W h => tmay_any x cap psD tsD W h (by omega)
  rw [mD] at qMD
  have qUD := fun x W h => Used_any x cap psD W h
  rw [vD] at qUD
  have qUH := fun x W h => Used_any x cap ps W h
  rw [vH] at qUH
  have hwr : IntKind.i64.wrap (uH + 1) = uH + 1 := by rw [IntKind.wrap_i64]; omega
  clear hF hM hA hB hD ll mA mB mD vH vA vB vD
  subst hA1
  have qSB := fun x y W h g => tsame_any x y cap psB tsB cap ps ts W h g
  rw [hB2] at qSB
  clear hB2
  subst hD1
  go_enter Try.func8, Try.ntmps8
  have hA0 := ((Below.refl w.heap.size w).alloc (Nat.le_refl _) (.cells #[.int .i64 cap, .slice A0 ps.length c0, .slice B0 ts.length e0] 28))
  replace hst0 := hst0.keep hA0
  have kC := Blk.new_ w 28 #[.int .i64 cap, .slice A0 ps.length c0, .slice B0 ts.length e0] (w.heap.size) (by simp)
  have hZ0 : Below w.heap.size w _ := hA0
  go_wp2_with fail
  refine (tawake_any _).mono ?_
  rintro e w1 ⟨rfl, hb1⟩
  obtain ⟨hc1, hf1⟩ := bcell hb1
  have hz1 := hb1.size
  simp at hz1
  replace hst0 := hst0.keep hb1
  replace kC := kC.keep hb1
  have hY1 := hZ0.trans (hb1.mono hZ0.size)
  have zkC_1 : w.heap.size < w1.heap.size := by omega
  have hZ1 : Below w.heap.size w w1 := hY1
  go_wp2_with fail
  refine (qF _ _ hst0).mono ?_
  rintro e w2 ⟨rfl, hb2⟩
  obtain ⟨hc2, hf2⟩ := bcell hb2
  have hz2 := hb2.size
  replace hst0 := hst0.keep hb2
  replace kC := kC.keep hb2
  have hY2 := hZ1.trans (hb2.mono hZ1.size)
  have zkC_2 : w.heap.size < w2.heap.size := by omega
  have hZ2 : Below w.heap.size w w2 := hY2
  go_wp2_with fail
  refine (qM _ _ hst0).mono ?_
  rintro e w3 ⟨rfl, hb3⟩
  obtain ⟨hc3, hf3⟩ := bcell hb3
  have hz3 := hb3.size
  replace hst0 := hst0.keep hb3
  replace kC := kC.keep hb3
  have hY3 := hZ2.trans (hb3.mono hZ2.size)
  have zkC_3 : w.heap.size < w3.heap.size := by omega
  have hZ3 : Below w.heap.size w w3 := hY3
  go_wp2_with fail
  refine (qA _ _ hst0).mono ?_
  rintro e w4 ⟨v4, rfl, hstA, hb4⟩
  obtain ⟨hc4, hf4⟩ := bcell hb4
  have hz4 := hb4.size
  replace hst0 := hst0.keep hb4
  replace kC := kC.keep hb4
  have hY4 := hZ3.trans (hb4.mono hZ3.size)
  have zkC_4 : w.heap.size < w4.heap.size := by omega
  replace hstA := hstA.to
  try dsimp only at hstA
  obtain ⟨AA, cA, BA, eA, rfl, hstA⟩ := hstA.form
  have hA4 := ((Below.refl w4.heap.size w4).alloc (Nat.le_refl _) (.cells #[.int .i64 cap, .slice AA psA.length cA, .slice BA tsA.length eA] 28))
  replace hst0 := hst0.keep hA4
  replace kC := kC.keep hA4
  replace hstA := hstA.keep hA4
  have kA := Blk.new_ w4 28 #[.int .i64 cap, .slice AA psA.length cA, .slice BA tsA.length eA] (w4.heap.size) (by simp)
  have hZ4 : Below w.heap.size w _ := hY4.trans (hA4.mono hY4.size)
  go_wp2_with fail
  refine (qB _ _ hst0).mono ?_
  rintro e w5 ⟨v5, rfl, hstB, hb5⟩
  obtain ⟨hc5, hf5⟩ := bcell hb5
  have hz5 := hb5.size
  simp at hz5
  replace hst0 := hst0.keep hb5
  replace kC := kC.keep hb5
  replace hstA := hstA.keep hb5
  replace kA := kA.keep hb5
  have hY5 := hZ4.trans (hb5.mono hZ4.size)
  have zkC_5 : w.heap.size < w5.heap.size := by omega
  have zkA_5 : w4.heap.size < w5.heap.size := by omega
  replace hstB := hstB.to
  try dsimp only at hstB
  obtain ⟨AB, cB, BB, eB, rfl, hstB⟩ := hstB.form
  have hA5 := ((Below.refl w5.heap.size w5).alloc (Nat.le_refl _) (.cells #[.int .i64 cap, .slice AB psB.length cB, .slice BB tsB.length eB] 28))
  replace hst0 := hst0.keep hA5
  replace kC := kC.keep hA5
  replace hstA := hstA.keep hA5
  replace kA := kA.keep hA5
  replace hstB := hstB.keep hA5
  have kB := Blk.new_ w5 28 #[.int .i64 cap, .slice AB psB.length cB, .slice BB tsB.length eB] (w5.heap.size) (by simp)
  have hZ5 : Below w.heap.size w _ := hY5.trans (hA5.mono hY5.size)
  go_wp2_with fail
  refine (qD _ _ hst0).mono ?_
  rintro e w6 ⟨v6, rfl, hstD, hb6⟩
  obtain ⟨hc6, hf6⟩ := bcell hb6
  have hz6 := hb6.size
  simp at hz6
  replace hst0 := hst0.keep hb6
  replace kC := kC.keep hb6
  replace hstA := hstA.keep hb6
  replace kA := kA.keep hb6
  replace hstB := hstB.keep hb6
  replace kB := kB.keep hb6
  have hY6 := hZ5.trans (hb6.mono hZ5.size)
  have zkC_6 : w.heap.size < w6.heap.size := by omega
  have zkA_6 : w4.heap.size < w6.heap.size := by omega
  have zkB_6 : w5.heap.size < w6.heap.size := by omega
  replace hstD := hstD.to
  try dsimp only at hstD
  obtain ⟨AD, cD, BD, eD, rfl, hstD⟩ := hstD.form
  have hA6 := ((Below.refl w6.heap.size w6).alloc (Nat.le_refl _) (.cells #[.int .i64 cap, .slice AD psD.length cD, .slice BD tsD.length eD] 28))
  replace hst0 := hst0.keep hA6
  replace kC := kC.keep hA6
  replace hstA := hstA.keep hA6
  replace kA := kA.keep hA6
  replace hstB := hstB.keep hA6
  replace kB := kB.keep hA6
  replace hstD := hstD.keep hA6
  have kD := Blk.new_ w6 28 #[.int .i64 cap, .slice AD psD.length cD, .slice BD tsD.length eD] (w6.heap.size) (by simp)
  have hZ6 : Below w.heap.size w _ := hY6.trans (hA6.mono hY6.size)
  go_wp2_with fail
  refine (qSB _ _ _ hstB hst0).mono ?_
  rintro e w7 ⟨rfl, hb7⟩
  obtain ⟨hc7, hf7⟩ := bcell hb7
  have hz7 := hb7.size
  simp at hz7
  replace hst0 := hst0.keep hb7
  replace kC := kC.keep hb7
  replace hstA := hstA.keep hb7
  replace kA := kA.keep hb7
  replace hstB := hstB.keep hb7
  replace kB := kB.keep hb7
  replace hstD := hstD.keep hb7
  replace kD := kD.keep hb7
  have hY7 := hZ6.trans (hb7.mono hZ6.size)
  have zkC_7 : w.heap.size < w7.heap.size := by omega
  have zkA_7 : w4.heap.size < w7.heap.size := by omega
  have zkB_7 : w5.heap.size < w7.heap.size := by omega
  have zkD_7 : w6.heap.size < w7.heap.size := by omega
  have hZ7 : Below w.heap.size w w7 := hY7
  go_wp2_with fail
  refine (qMA _ _ hstA).mono ?_
  rintro e w8 ⟨rfl, hb8⟩
  obtain ⟨hc8, hf8⟩ := bcell hb8
  have hz8 := hb8.size
  replace hst0 := hst0.keep hb8
  replace kC := kC.keep hb8
  replace hstA := hstA.keep hb8
  replace kA := kA.keep hb8
  replace hstB := hstB.keep hb8
  replace kB := kB.keep hb8
  replace hstD := hstD.keep hb8
  replace kD := kD.keep hb8
  have hY8 := hZ7.trans (hb8.mono hZ7.size)
  have zkC_8 : w.heap.size < w8.heap.size := by omega
  have zkA_8 : w4.heap.size < w8.heap.size := by omega
  have zkB_8 : w5.heap.size < w8.heap.size := by omega
  have zkD_8 : w6.heap.size < w8.heap.size := by omega
  have hZ8 : Below w.heap.size w w8 := hY8
  go_wp2_with fail
  refine (qMB _ _ hstB).mono ?_
  rintro e w9 ⟨rfl, hb9⟩
  obtain ⟨hc9, hf9⟩ := bcell hb9
  have hz9 := hb9.size
  replace hst0 := hst0.keep hb9
  replace kC := kC.keep hb9
  replace hstA := hstA.keep hb9
  replace kA := kA.keep hb9
  replace hstB := hstB.keep hb9
  replace kB := kB.keep hb9
  replace hstD := hstD.keep hb9
  replace kD := kD.keep hb9
  have hY9 := hZ8.trans (hb9.mono hZ8.size)
  have zkC_9 : w.heap.size < w9.heap.size := by omega
  have zkA_9 : w4.heap.size < w9.heap.size := by omega
  have zkB_9 : w5.heap.size < w9.heap.size := by omega
  have zkD_9 : w6.heap.size < w9.heap.size := by omega
  have hZ9 : Below w.heap.size w w9 := hY9
  go_wp2_with fail
  refine (qMD _ _ hstD).mono ?_
  rintro e w10 ⟨rfl, hb10⟩
  obtain ⟨hc10, hf10⟩ := bcell hb10
  have hz10 := hb10.size
  replace hst0 := hst0.keep hb10
  replace kC := kC.keep hb10
  replace hstA := hstA.keep hb10
  replace kA := kA.keep hb10
  replace hstB := hstB.keep hb10
  replace kB := kB.keep hb10
  replace hstD := hstD.keep hb10
  replace kD := kD.keep hb10
  have hY10 := hZ9.trans (hb10.mono hZ9.size)
  have zkC_10 : w.heap.size < w10.heap.size := by omega
  have zkA_10 : w4.heap.size < w10.heap.size := by omega
  have zkB_10 : w5.heap.size < w10.heap.size := by omega
  have zkD_10 : w6.heap.size < w10.heap.size := by omega
  go_wp2_with fail
  have kC_0 : w10.cell? ⟨w.heap.size, 0, none⟩ = some (.int .i64 cap) := by rw [kC.cell]; rfl
  have kC_1 : w10.cell? ⟨w.heap.size, 1, none⟩ = some (.slice A0 ps.length c0) := by rw [kC.cell]; rfl
  have kC_lt := kC.lt
  have kA_0 : w10.cell? ⟨w4.heap.size, 0, none⟩ = some (.int .i64 cap) := by rw [kA.cell]; rfl
  have kA_1 : w10.cell? ⟨w4.heap.size, 1, none⟩ = some (.slice AA psA.length cA) := by rw [kA.cell]; rfl
  have kA_lt := kA.lt
  have kB_0 : w10.cell? ⟨w5.heap.size, 0, none⟩ = some (.int .i64 cap) := by rw [kB.cell]; rfl
  have kB_1 : w10.cell? ⟨w5.heap.size, 1, none⟩ = some (.slice AB psB.length cB) := by rw [kB.cell]; rfl
  have kB_lt := kB.lt
  have kD_0 : w10.cell? ⟨w6.heap.size, 0, none⟩ = some (.int .i64 cap) := by rw [kD.cell]; rfl
  have kD_1 : w10.cell? ⟨w6.heap.size, 1, none⟩ = some (.slice AD psD.length cD) := by rw [kD.cell]; rfl
  have kD_lt := kD.lt
  have G0 := (Below.refl w10.heap.size w10).drew
  refine wp_region_held_drew (S := fun w' => w'.cell? ⟨w.heap.size, 0, none⟩ = some (.int .i64 cap) ∧ w'.cell? ⟨w.heap.size, 1, none⟩ = some (.slice A0 ps.length c0) ∧ w'.cell? ⟨w4.heap.size, 0, none⟩ = some (.int .i64 cap) ∧ w'.cell? ⟨w4.heap.size, 1, none⟩ = some (.slice AA psA.length cA) ∧ w'.cell? ⟨w5.heap.size, 0, none⟩ = some (.int .i64 cap) ∧ w'.cell? ⟨w5.heap.size, 1, none⟩ = some (.slice AB psB.length cB) ∧ w'.cell? ⟨w6.heap.size, 0, none⟩ = some (.int .i64 cap) ∧ w'.cell? ⟨w6.heap.size, 1, none⟩ = some (.slice AD psD.length cD)) (by kernel_rfl) ?_ (fun hHeldfr => ?_)
  · exact ⟨(G0.cell (p := ⟨w.heap.size, 0, none⟩) kC_lt).trans kC_0, (G0.cell (p := ⟨w.heap.size, 1, none⟩) kC_lt).trans kC_1, (G0.cell (p := ⟨w4.heap.size, 0, none⟩) kA_lt).trans kA_0, (G0.cell (p := ⟨w4.heap.size, 1, none⟩) kA_lt).trans kA_1, (G0.cell (p := ⟨w5.heap.size, 0, none⟩) kB_lt).trans kB_0, (G0.cell (p := ⟨w5.heap.size, 1, none⟩) kB_lt).trans kB_1, (G0.cell (p := ⟨w6.heap.size, 0, none⟩) kD_lt).trans kD_0, (G0.cell (p := ⟨w6.heap.size, 1, none⟩) kD_lt).trans kD_1⟩
  refine wpAnyH_take (i := 0) (oi := { dst := some 96, op := Op.fieldAddr 28 (Operand.tmp 16) 0, type := 0, pos := "law.go:124", after := _, guard := none }) (v := ?vfr0) rfl (by kernel_rfl) (by kernel_rfl) (by kernel_rfl) (fun _ _ _ h => h) (Or.inl ⟨by rfl, ?hyfr0⟩) (by assumption) ?restfr0
  case hyfr0 => (intro w hSw; (try dsimp only at hSw); go_simp <;> with_reducible rfl)
  try simp only [Act.put, List.setIfInBounds_toArray, List.set_cons_zero, List.set_cons_succ]
  refine wpAnyH_take (i := 1) (oi := { dst := some 97, op := Op.load 25 (Operand.tmp 96), type := 25, pos := "law.go:124", after := _, guard := none }) (v := ?vfr1) rfl (by kernel_rfl) (by kernel_rfl) (by kernel_rfl) (fun _ _ _ h => h) (Or.inl ⟨by rfl, ?hyfr1⟩) (by assumption) ?restfr1
  case hyfr1 => (intro w hSw; (try dsimp only at hSw); go_simp <;> with_reducible rfl)
  try simp only [Act.put, List.setIfInBounds_toArray, List.set_cons_zero, List.set_cons_succ]
  refine wpAnyH_take (i := 3) (oi := { dst := some 99, op := Op.fieldAddr 28 (Operand.tmp 4) 0, type := 0, pos := "law.go:124", after := _, guard := none }) (v := ?vfr3) rfl (by kernel_rfl) (by kernel_rfl) (by kernel_rfl) (fun _ _ _ h => h) (Or.inl ⟨by rfl, ?hyfr3⟩) (by assumption) ?restfr3
  case hyfr3 => (intro w hSw; (try dsimp only at hSw); go_simp <;> with_reducible rfl)
  try simp only [Act.put, List.setIfInBounds_toArray, List.set_cons_zero, List.set_cons_succ]
  refine wpAnyH_take (i := 4) (oi := { dst := some 100, op := Op.load 25 (Operand.tmp 99), type := 25, pos := "law.go:124", after := _, guard := none }) (v := ?vfr4) rfl (by kernel_rfl) (by kernel_rfl) (by kernel_rfl) (fun _ _ _ h => h) (Or.inl ⟨by rfl, ?hyfr4⟩) (by assumption) ?restfr4
  case hyfr4 => (intro w hSw; (try dsimp only at hSw); go_simp <;> with_reducible rfl)
  try simp only [Act.put, List.setIfInBounds_toArray, List.set_cons_zero, List.set_cons_succ]
  refine wpAnyH_ready (rs := [2]) (by kernel_rfl) (by simp) ?_
  refine AllReadyH.cons (o := { dst := some 98, op := Op.call { callee := Callee.value (Operand.func 25), args := #[Operand.tmp 97], argTypes := #[25] }, type := 3, pos := "law.go:124", after := _, guard := none }) rfl (fun K hK => ?_) AllReadyH.nil
  go_simp
  refine (qUD _ _ (hstD.keep G0).store).mono ?_
  rintro x x1 ⟨rfl, hx1⟩
  have G1 := G0.trans (hx1.mono G0.size)
  try go_wp2_with fail
  refine hK.out _ _ ?_ (fun hHeldfr2 => ?_)
  · exact ⟨(G1.cell (p := ⟨w.heap.size, 0, none⟩) kC_lt).trans kC_0, (G1.cell (p := ⟨w.heap.size, 1, none⟩) kC_lt).trans kC_1, (G1.cell (p := ⟨w4.heap.size, 0, none⟩) kA_lt).trans kA_0, (G1.cell (p := ⟨w4.heap.size, 1, none⟩) kA_lt).trans kA_1, (G1.cell (p := ⟨w5.heap.size, 0, none⟩) kB_lt).trans kB_0, (G1.cell (p := ⟨w5.heap.size, 1, none⟩) kB_lt).trans kB_1, (G1.cell (p := ⟨w6.heap.size, 0, none⟩) kD_lt).trans kD_0, (G1.cell (p := ⟨w6.heap.size, 1, none⟩) kD_lt).trans kD_1⟩
  clear hK K hHeldfr
  try simp only [Act.put, List.setIfInBounds_toArray, List.set_cons_zero, List.set_cons_succ]
  refine wpAnyH_ready (rs := [5]) (by kernel_rfl) (by simp) ?_
  refine AllReadyH.cons (o := { dst := some 101, op := Op.call { callee := Callee.value (Operand.func 25), args := #[Operand.tmp 100], argTypes := #[25] }, type := 3, pos := "law.go:124", after := _, guard := none }) rfl (fun K hK => ?_) AllReadyH.nil
  go_simp
  refine (qUH _ _ (hst0.keep G1).store).mono ?_
  rintro x x2 ⟨rfl, hx2⟩
  have G2 := G1.trans (hx2.mono G1.size)
  try go_wp2_with fail
  refine hK.out _ _ ?_ (fun hHeldfr5 => ?_)
  · exact ⟨(G2.cell (p := ⟨w.heap.size, 0, none⟩) kC_lt).trans kC_0, (G2.cell (p := ⟨w.heap.size, 1, none⟩) kC_lt).trans kC_1, (G2.cell (p := ⟨w4.heap.size, 0, none⟩) kA_lt).trans kA_0, (G2.cell (p := ⟨w4.heap.size, 1, none⟩) kA_lt).trans kA_1, (G2.cell (p := ⟨w5.heap.size, 0, none⟩) kB_lt).trans kB_0, (G2.cell (p := ⟨w5.heap.size, 1, none⟩) kB_lt).trans kB_1, (G2.cell (p := ⟨w6.heap.size, 0, none⟩) kD_lt).trans kD_0, (G2.cell (p := ⟨w6.heap.size, 1, none⟩) kD_lt).trans kD_1⟩
  clear hK K hHeldfr2
  try simp only [Act.put, List.setIfInBounds_toArray, List.set_cons_zero, List.set_cons_succ]
  refine wpAnyH_take (i := 6) (oi := { dst := some 102, op := Op.binOp BinOp.leq 3 (Operand.tmp 98) (Operand.tmp 101) 3, type := 4, pos := "law.go:124", after := _, guard := none }) (v := .bool true) rfl (by kernel_rfl) (by kernel_rfl) (by kernel_rfl) (fun _ _ _ h => h) (Or.inl ⟨by rfl, ?hyfr6⟩) (by assumption) ?restfr6
  case hyfr6 => (intro w hSw; (try dsimp only at hSw); go_simp <;> first | done | with_reducible rfl | omega | (simp; done) | (simp; omega) | (simp [*]; done) | (simp [*]; omega) | exact decide_eq_false (by omega) | exact decide_eq_true (by omega))
  try simp only [Act.put, List.setIfInBounds_toArray, List.set_cons_zero, List.set_cons_succ]
  refine wpAnyH_take (i := 7) (oi := { dst := some 18, op := Op.assign (Operand.tmp 102), type := 4, pos := "law.go:124", after := _, guard := none }) (v := ?vfr7) rfl (by kernel_rfl) (by kernel_rfl) (by kernel_rfl) (fun _ _ _ h => h) (Or.inl ⟨by rfl, ?hyfr7⟩) (by assumption) ?restfr7
  case hyfr7 => (intro w hSw; (try dsimp only at hSw); go_simp <;> with_reducible rfl)
  try simp only [Act.put, List.setIfInBounds_toArray, List.set_cons_zero, List.set_cons_succ]
  refine wpAnyH_done (by kernel_rfl) ?_ _
  go_upto_region 13 with fail
  have G3 := G2.drew
  refine wp_region_held_drew (S := fun w' => w'.cell? ⟨w.heap.size, 0, none⟩ = some (.int .i64 cap) ∧ w'.cell? ⟨w.heap.size, 1, none⟩ = some (.slice A0 ps.length c0) ∧ w'.cell? ⟨w4.heap.size, 0, none⟩ = some (.int .i64 cap) ∧ w'.cell? ⟨w4.heap.size, 1, none⟩ = some (.slice AA psA.length cA) ∧ w'.cell? ⟨w5.heap.size, 0, none⟩ = some (.int .i64 cap) ∧ w'.cell? ⟨w5.heap.size, 1, none⟩ = some (.slice AB psB.length cB) ∧ w'.cell? ⟨w6.heap.size, 0, none⟩ = some (.int .i64 cap) ∧ w'.cell? ⟨w6.heap.size, 1, none⟩ = some (.slice AD psD.length cD)) (by kernel_rfl) ?_ (fun hHeldgr => ?_)
  · exact ⟨(G3.cell (p := ⟨w.heap.size, 0, none⟩) kC_lt).trans kC_0, (G3.cell (p := ⟨w.heap.size, 1, none⟩) kC_lt).trans kC_1, (G3.cell (p := ⟨w4.heap.size, 0, none⟩) kA_lt).trans kA_0, (G3.cell (p := ⟨w4.heap.size, 1, none⟩) kA_lt).trans kA_1, (G3.cell (p := ⟨w5.heap.size, 0, none⟩) kB_lt).trans kB_0, (G3.cell (p := ⟨w5.heap.size, 1, none⟩) kB_lt).trans kB_1, (G3.cell (p := ⟨w6.heap.size, 0, none⟩) kD_lt).trans kD_0, (G3.cell (p := ⟨w6.heap.size, 1, none⟩) kD_lt).trans kD_1⟩
  refine wpAnyH_take (i := 0) (oi := { dst := some 103, op := Op.move (Operand.tmp 18), type := 4, pos := "law.go:125", after := _, guard := none }) (v := ?vgr0) rfl (by kernel_rfl) (by kernel_rfl) (by kernel_rfl) (fun _ _ _ h => h) (Or.inl ⟨by rfl, ?hygr0⟩) (by assumption) ?restgr0
  case hygr0 => (intro w hSw; (try dsimp only at hSw); go_simp <;> with_reducible rfl)
  try simp only [Act.put, List.setIfInBounds_toArray, List.set_cons_zero, List.set_cons_succ]
  refine wpAnyH_take (i := 1) (oi := { dst := some 104, op := Op.move (Operand.tmp 103), type := 4, pos := "law.go:125", after := _, guard := none }) (v := ?vgr1) rfl (by kernel_rfl) (by kernel_rfl) (by kernel_rfl) (fun _ _ _ h => h) (Or.inl ⟨by rfl, ?hygr1⟩) (by assumption) ?restgr1
  case hygr1 => (intro w hSw; (try dsimp only at hSw); go_simp <;> with_reducible rfl)
  try simp only [Act.put, List.setIfInBounds_toArray, List.set_cons_zero, List.set_cons_succ]
  refine wpAnyH_take (i := 2) (oi := { dst := some 105, op := Op.fieldAddr 28 (Operand.tmp 13) 0, type := 0, pos := "law.go:125", after := _, guard := some (1, true) }) (v := ?vgr2) rfl (by kernel_rfl) (by kernel_rfl) (by kernel_rfl) (fun _ _ _ h => h) (Or.inl ⟨by rfl, ?hygr2⟩) (by assumption) ?restgr2
  case hygr2 => (intro w hSw; (try dsimp only at hSw); go_simp <;> with_reducible rfl)
  try simp only [Act.put, List.setIfInBounds_toArray, List.set_cons_zero, List.set_cons_succ]
  refine wpAnyH_take (i := 3) (oi := { dst := some 106, op := Op.load 25 (Operand.tmp 105), type := 25, pos := "law.go:125", after := _, guard := some (1, true) }) (v := ?vgr3) rfl (by kernel_rfl) (by kernel_rfl) (by kernel_rfl) (fun _ _ _ h => h) (Or.inl ⟨by rfl, ?hygr3⟩) (by assumption) ?restgr3
  case hygr3 => (intro w hSw; (try dsimp only at hSw); go_simp <;> with_reducible rfl)
  try simp only [Act.put, List.setIfInBounds_toArray, List.set_cons_zero, List.set_cons_succ]
  refine wpAnyH_take (i := 5) (oi := { dst := some 108, op := Op.fieldAddr 28 (Operand.tmp 4) 0, type := 0, pos := "law.go:125", after := _, guard := some (1, true) }) (v := ?vgr5) rfl (by kernel_rfl) (by kernel_rfl) (by kernel_rfl) (fun _ _ _ h => h) (Or.inl ⟨by rfl, ?hygr5⟩) (by assumption) ?restgr5
  case hygr5 => (intro w hSw; (try dsimp only at hSw); go_simp <;> with_reducible rfl)
  try simp only [Act.put, List.setIfInBounds_toArray, List.set_cons_zero, List.set_cons_succ]
  refine wpAnyH_take (i := 6) (oi := { dst := some 109, op := Op.load 25 (Operand.tmp 108), type := 25, pos := "law.go:125", after := _, guard := some (1, true) }) (v := ?vgr6) rfl (by kernel_rfl) (by kernel_rfl) (by kernel_rfl) (fun _ _ _ h => h) (Or.inl ⟨by rfl, ?hygr6⟩) (by assumption) ?restgr6
  case hygr6 => (intro w hSw; (try dsimp only at hSw); go_simp <;> with_reducible rfl)
  try simp only [Act.put, List.setIfInBounds_toArray, List.set_cons_zero, List.set_cons_succ]
  refine wpAnyH_ready (rs := [4]) (by kernel_rfl) (by simp) ?_
  refine AllReadyH.cons (o := { dst := some 107, op := Op.call { callee := Callee.value (Operand.func 25), args := #[Operand.tmp 106], argTypes := #[25] }, type := 3, pos := "law.go:125", after := _, guard := some (1, true) }) rfl (fun K hK => ?_) AllReadyH.nil
  go_simp
  refine (qUB _ _ (hstB.keep G3).store).mono ?_
  rintro x x4 ⟨rfl, hx4⟩
  have G4 := G3.trans (hx4.mono G3.size)
  try go_wp2_with fail
  refine hK.out _ _ ?_ (fun hHeldgr4 => ?_)
  · exact ⟨(G4.cell (p := ⟨w.heap.size, 0, none⟩) kC_lt).trans kC_0, (G4.cell (p := ⟨w.heap.size, 1, none⟩) kC_lt).trans kC_1, (G4.cell (p := ⟨w4.heap.size, 0, none⟩) kA_lt).trans kA_0, (G4.cell (p := ⟨w4.heap.size, 1, none⟩) kA_lt).trans kA_1, (G4.cell (p := ⟨w5.heap.size, 0, none⟩) kB_lt).trans kB_0, (G4.cell (p := ⟨w5.heap.size, 1, none⟩) kB_lt).trans kB_1, (G4.cell (p := ⟨w6.heap.size, 0, none⟩) kD_lt).trans kD_0, (G4.cell (p := ⟨w6.heap.size, 1, none⟩) kD_lt).trans kD_1⟩
  clear hK K hHeldgr
  try simp only [Act.put, List.setIfInBounds_toArray, List.set_cons_zero, List.set_cons_succ]
  refine wpAnyH_ready (rs := [7]) (by kernel_rfl) (by simp) ?_
  refine AllReadyH.cons (o := { dst := some 110, op := Op.call { callee := Callee.value (Operand.func 25), args := #[Operand.tmp 109], argTypes := #[25] }, type := 3, pos := "law.go:125", after := _, guard := some (1, true) }) rfl (fun K hK => ?_) AllReadyH.nil
  go_simp
  refine (qUH _ _ (hst0.keep G4).store).mono ?_
  rintro x x5 ⟨rfl, hx5⟩
  have G5 := G4.trans (hx5.mono G4.size)
  try go_wp2_with fail
  refine hK.out _ _ ?_ (fun hHeldgr7 => ?_)
  · exact ⟨(G5.cell (p := ⟨w.heap.size, 0, none⟩) kC_lt).trans kC_0, (G5.cell (p := ⟨w.heap.size, 1, none⟩) kC_lt).trans kC_1, (G5.cell (p := ⟨w4.heap.size, 0, none⟩) kA_lt).trans kA_0, (G5.cell (p := ⟨w4.heap.size, 1, none⟩) kA_lt).trans kA_1, (G5.cell (p := ⟨w5.heap.size, 0, none⟩) kB_lt).trans kB_0, (G5.cell (p := ⟨w5.heap.size, 1, none⟩) kB_lt).trans kB_1, (G5.cell (p := ⟨w6.heap.size, 0, none⟩) kD_lt).trans kD_0, (G5.cell (p := ⟨w6.heap.size, 1, none⟩) kD_lt).trans kD_1⟩
  clear hK K hHeldgr4
  try simp only [Act.put, List.setIfInBounds_toArray, List.set_cons_zero, List.set_cons_succ]
  refine wpAnyH_take (i := 8) (oi := { dst := some 111, op := Op.binOp BinOp.eql 3 (Operand.tmp 107) (Operand.tmp 110) 3, type := 4, pos := "law.go:125", after := _, guard := some (1, true) }) (v := .bool true) rfl (by kernel_rfl) (by kernel_rfl) (by kernel_rfl) (fun _ _ _ h => h) (Or.inl ⟨by rfl, ?hygr8⟩) (by assumption) ?restgr8
  case hygr8 => (intro w hSw; (try dsimp only at hSw); go_simp <;> first | done | with_reducible rfl | omega | (simp; done) | (simp; omega) | (simp [*]; done) | (simp [*]; omega) | exact decide_eq_false (by omega) | exact decide_eq_true (by omega))
  try simp only [Act.put, List.setIfInBounds_toArray, List.set_cons_zero, List.set_cons_succ]
  refine wpAnyH_take (i := 9) (oi := { dst := some 112, op := Op.pick (Operand.tmp 104) (Operand.tmp 111) (Operand.const (Value.bool false)), type := 4, pos := "law.go:125", after := _, guard := none }) (v := ?vgr9) rfl (by kernel_rfl) (by kernel_rfl) (by kernel_rfl) (fun _ _ _ h => h) (Or.inl ⟨by rfl, ?hygr9⟩) (by assumption) ?restgr9
  case hygr9 => (intro w hSw; (try dsimp only at hSw); go_simp <;> with_reducible rfl)
  try simp only [Act.put, List.setIfInBounds_toArray, List.set_cons_zero, List.set_cons_succ]
  refine wpAnyH_take (i := 10) (oi := { dst := some 113, op := Op.move (Operand.tmp 112), type := 4, pos := "law.go:125", after := _, guard := none }) (v := ?vgr10) rfl (by kernel_rfl) (by kernel_rfl) (by kernel_rfl) (fun _ _ _ h => h) (Or.inl ⟨by rfl, ?hygr10⟩) (by assumption) ?restgr10
  case hygr10 => (intro w hSw; (try dsimp only at hSw); go_simp <;> with_reducible rfl)
  try simp only [Act.put, List.setIfInBounds_toArray, List.set_cons_zero, List.set_cons_succ]
  refine wpAnyH_take (i := 11) (oi := { dst := some 114, op := Op.fieldAddr 28 (Operand.tmp 11) 0, type := 0, pos := "law.go:125", after := _, guard := some (10, true) }) (v := ?vgr11) rfl (by kernel_rfl) (by kernel_rfl) (by kernel_rfl) (fun _ _ _ h => h) (Or.inl ⟨by rfl, ?hygr11⟩) (by assumption) ?restgr11
  case hygr11 => (intro w hSw; (try dsimp only at hSw); go_simp <;> with_reducible rfl)
  try simp only [Act.put, List.setIfInBounds_toArray, List.set_cons_zero, List.set_cons_succ]
  refine wpAnyH_take (i := 12) (oi := { dst := some 115, op := Op.load 25 (Operand.tmp 114), type := 25, pos := "law.go:125", after := _, guard := some (10, true) }) (v := ?vgr12) rfl (by kernel_rfl) (by kernel_rfl) (by kernel_rfl) (fun _ _ _ h => h) (Or.inl ⟨by rfl, ?hygr12⟩) (by assumption) ?restgr12
  case hygr12 => (intro w hSw; (try dsimp only at hSw); go_simp <;> with_reducible rfl)
  try simp only [Act.put, List.setIfInBounds_toArray, List.set_cons_zero, List.set_cons_succ]
  refine wpAnyH_take (i := 14) (oi := { dst := some 117, op := Op.fieldAddr 28 (Operand.tmp 4) 0, type := 0, pos := "law.go:125", after := _, guard := some (10, true) }) (v := ?vgr14) rfl (by kernel_rfl) (by kernel_rfl) (by kernel_rfl) (fun _ _ _ h => h) (Or.inl ⟨by rfl, ?hygr14⟩) (by assumption) ?restgr14
  case hygr14 => (intro w hSw; (try dsimp only at hSw); go_simp <;> with_reducible rfl)
  try simp only [Act.put, List.setIfInBounds_toArray, List.set_cons_zero, List.set_cons_succ]
  refine wpAnyH_take (i := 15) (oi := { dst := some 118, op := Op.load 25 (Operand.tmp 117), type := 25, pos := "law.go:125", after := _, guard := some (10, true) }) (v := ?vgr15) rfl (by kernel_rfl) (by kernel_rfl) (by kernel_rfl) (fun _ _ _ h => h) (Or.inl ⟨by rfl, ?hygr15⟩) (by assumption) ?restgr15
  case hygr15 => (intro w hSw; (try dsimp only at hSw); go_simp <;> with_reducible rfl)
  try simp only [Act.put, List.setIfInBounds_toArray, List.set_cons_zero, List.set_cons_succ]
  refine wpAnyH_ready (rs := [13]) (by kernel_rfl) (by simp) ?_
  refine AllReadyH.cons (o := { dst := some 116, op := Op.call { callee := Callee.value (Operand.func 25), args := #[Operand.tmp 115], argTypes := #[25] }, type := 3, pos := "law.go:125", after := _, guard := some (10, true) }) rfl (fun K hK => ?_) AllReadyH.nil
  go_simp
  refine (qUA _ _ (hstA.keep G5).store).mono ?_
  rintro x x6 ⟨rfl, hx6⟩
  have G6 := G5.trans (hx6.mono G5.size)
  try go_wp2_with fail
  refine hK.out _ _ ?_ (fun hHeldgr13 => ?_)
  · exact ⟨(G6.cell (p := ⟨w.heap.size, 0, none⟩) kC_lt).trans kC_0, (G6.cell (p := ⟨w.heap.size, 1, none⟩) kC_lt).trans kC_1, (G6.cell (p := ⟨w4.heap.size, 0, none⟩) kA_lt).trans kA_0, (G6.cell (p := ⟨w4.heap.size, 1, none⟩) kA_lt).trans kA_1, (G6.cell (p := ⟨w5.heap.size, 0, none⟩) kB_lt).trans kB_0, (G6.cell (p := ⟨w5.heap.size, 1, none⟩) kB_lt).trans kB_1, (G6.cell (p := ⟨w6.heap.size, 0, none⟩) kD_lt).trans kD_0, (G6.cell (p := ⟨w6.heap.size, 1, none⟩) kD_lt).trans kD_1⟩
  clear hK K hHeldgr7
  try simp only [Act.put, List.setIfInBounds_toArray, List.set_cons_zero, List.set_cons_succ]
  refine wpAnyH_ready (rs := [16]) (by kernel_rfl) (by simp) ?_
  refine AllReadyH.cons (o := { dst := some 119, op := Op.call { callee := Callee.value (Operand.func 25), args := #[Operand.tmp 118], argTypes := #[25] }, type := 3, pos := "law.go:125", after := _, guard := some (10, true) }) rfl (fun K hK => ?_) AllReadyH.nil
  go_simp
  refine (qUH _ _ (hst0.keep G6).store).mono ?_
  rintro x x7 ⟨rfl, hx7⟩
  have G7 := G6.trans (hx7.mono G6.size)
  try go_wp2_with fail
  refine hK.out _ _ ?_ (fun hHeldgr16 => ?_)
  · exact ⟨(G7.cell (p := ⟨w.heap.size, 0, none⟩) kC_lt).trans kC_0, (G7.cell (p := ⟨w.heap.size, 1, none⟩) kC_lt).trans kC_1, (G7.cell (p := ⟨w4.heap.size, 0, none⟩) kA_lt).trans kA_0, (G7.cell (p := ⟨w4.heap.size, 1, none⟩) kA_lt).trans kA_1, (G7.cell (p := ⟨w5.heap.size, 0, none⟩) kB_lt).trans kB_0, (G7.cell (p := ⟨w5.heap.size, 1, none⟩) kB_lt).trans kB_1, (G7.cell (p := ⟨w6.heap.size, 0, none⟩) kD_lt).trans kD_0, (G7.cell (p := ⟨w6.heap.size, 1, none⟩) kD_lt).trans kD_1⟩
  clear hK K hHeldgr13
  try simp only [Act.put, List.setIfInBounds_toArray, List.set_cons_zero, List.set_cons_succ]
  refine wpAnyH_take (i := 17) (oi := { dst := some 120, op := Op.binOp BinOp.add 3 (Operand.tmp 119) (Operand.const (Value.int IntKind.i64 1)) 3, type := 3, pos := "law.go:125", after := _, guard := some (10, true) }) (v := ?vgr17) rfl (by kernel_rfl) (by kernel_rfl) (by kernel_rfl) (fun _ _ _ h => h) (Or.inl ⟨by rfl, ?hygr17⟩) (by assumption) ?restgr17
  case hygr17 => (intro w hSw; (try dsimp only at hSw); go_simp <;> with_reducible rfl)
  try simp only [Act.put, List.setIfInBounds_toArray, List.set_cons_zero, List.set_cons_succ]
  refine wpAnyH_take (i := 18) (oi := { dst := some 121, op := Op.binOp BinOp.leq 3 (Operand.tmp 116) (Operand.tmp 120) 3, type := 4, pos := "law.go:125", after := _, guard := some (10, true) }) (v := .bool true) rfl (by kernel_rfl) (by kernel_rfl) (by kernel_rfl) (fun _ _ _ h => h) (Or.inl ⟨by rfl, ?hygr18⟩) (by assumption) ?restgr18
  case hygr18 => (intro w hSw; (try dsimp only at hSw); go_simp <;> first | done | with_reducible rfl | omega | (simp; done) | (simp; omega) | (simp [*]; done) | (simp [*]; omega) | exact decide_eq_false (by omega) | exact decide_eq_true (by omega))
  try simp only [Act.put, List.setIfInBounds_toArray, List.set_cons_zero, List.set_cons_succ]
  refine wpAnyH_take (i := 19) (oi := { dst := some 122, op := Op.pick (Operand.tmp 113) (Operand.tmp 121) (Operand.const (Value.bool false)), type := 4, pos := "law.go:125", after := _, guard := none }) (v := ?vgr19) rfl (by kernel_rfl) (by kernel_rfl) (by kernel_rfl) (fun _ _ _ h => h) (Or.inl ⟨by rfl, ?hygr19⟩) (by assumption) ?restgr19
  case hygr19 => (intro w hSw; (try dsimp only at hSw); go_simp <;> with_reducible rfl)
  try simp only [Act.put, List.setIfInBounds_toArray, List.set_cons_zero, List.set_cons_succ]
  refine wpAnyH_take (i := 20) (oi := { dst := some 8, op := Op.assign (Operand.tmp 122), type := 4, pos := "law.go:125", after := _, guard := none }) (v := ?vgr20) rfl (by kernel_rfl) (by kernel_rfl) (by kernel_rfl) (fun _ _ _ h => h) (Or.inl ⟨by rfl, ?hygr20⟩) (by assumption) ?restgr20
  case hygr20 => (intro w hSw; (try dsimp only at hSw); go_simp <;> with_reducible rfl)
  try simp only [Act.put, List.setIfInBounds_toArray, List.set_cons_zero, List.set_cons_succ]
  refine wpAnyH_done (by kernel_rfl) ?_ _
  go_wp2
  go_ret
  exact ⟨rfl, hY10.trans (G7.mono hY10.size)⟩

set_option maxRecDepth 100000 in
set_option maxHeartbeats 4000000 in
theorem tableStays_ooD (w : World) (A0 B0 : Option Addr) (c0 e0 : Nat) (cap : Int) (ps : List Pg) (ts : List (List Int)) (hst0 : HpV w (.agg #[.int .i64 cap, .slice A0 ps.length c0, .slice B0 ts.length e0]) cap ps ts) (t a v : Int) (hF : fewH ps ts = true) (hM : mayH cap ps ts = true) (ln : ps.length ≤ 20) (lm : ts.length ≤ 5) (ll : ∀ t ∈ ts, t.length ≤ 4) (eA nB eB nD eD uH uA uD : Int) (psA psB psD : List Pg) (tsA tsB tsD : List (List Int)) (hA : writeH cap ps ts t a v = (eA, psA, tsA)) (hB : forkH cap ps ts t = (nB, eB, psB, tsB)) (hD : dropH cap ps ts t = (nD, eD, psD, tsD)) (lA : psA.length ≤ 900) (lB : psB.length ≤ 900) (lD : psD.length ≤ 900) (mA : mayH cap psA tsA = true) (mB : mayH cap psB tsB = true) (mD : mayH cap psD tsD = true) (vH : usedL cap ps = uH) (vA : usedL cap psA = uA) (vB : usedL cap psB = uH) (vD : usedL cap psD = uD) (b0 : 0 ≤ uH) (b1 : uH ≤ 20) (b2 : uD ≤ uH) (b3 : uA ≤ uH + 1) (hA1 : eA = 0) (hB1 : eB = 0) (hD1 : (eD != 0) = true) (hD2 : sameH cap psD tsD cap ps ts = true)  :
    Calls Try.prog 8 #[.agg #[.int .i64 cap, .slice A0 ps.length c0, .slice B0 ts.length e0], .int .i64 t, .int .i64 a, .int .i64 v] w fun e w' => e = .returned (.bool true) ∧ Below w.heap.size w w' := by
  have qF := fun v W h => few_any v cap ps ts W h
  rw [hF] at qF
  have qM := fun v W h => tmay_any v cap ps ts W h (by omega)
  rw [hM] at qM
  have qA := fun x W h => tWrite_any x cap ps ts t a v W h (by omega) (by omega) (fun t ht => by have := ll t ht; omega)
  rw [hA] at qA
  have qB := fun x W h => Fork_any x cap ps ts t W h (by omega) (by omega) (fun t ht => by have := ll t ht; omega)
  rw [hB] at qB
  have qD := fun x W h => Drop_any x cap ps ts t W h (by omega) (by omega) (fun t ht => by have := ll t ht; omega)
  rw [hD] at qD
  have qMA := fun x W h => tmay_any x cap psA tsA W h (by omega)
  rw [mA] at qMA
  have qUA := fun x W h => Used_any x cap psA W h
  rw [vA] at qUA
  have qMB := fun x W h => tmay_any x cap psB tsB W h (by omega)
  rw [mB] at qMB
  have qUB := fun x W h => Used_any x cap psB W h
  rw [vB] at qUB
  have qMD := fun x W h => tmay_any x cap psD tsD W h (by omega)
  rw [mD] at qMD
  have qUD := fun x W h => Used_any x cap psD W h
  rw [vD] at qUD
  have qUH := fun x W h => Used_any x cap ps W h
  rw [vH] at qUH
  have hwr : IntKind.i64.wrap (uH + 1) = uH + 1 := by rw [IntKind.wrap_i64]; omega
  clear hF hM hA hB hD ll mA mB mD vH vA vB vD
  subst hA1
  subst hB1
  have qSD := fun x y W h g => tsame_any x y cap psD tsD cap ps ts W h g
  rw [hD2] at qSD
  clear hD2
  go_enter Try.func8, Try.ntmps8
  have hA0 := ((Below.refl w.heap.size w).alloc (Nat.le_refl _) (.cells #[.int .i64 cap, .slice A0 ps.length c0, .slice B0 ts.length e0] 28))
  replace hst0 := hst0.keep hA0
  have kC := Blk.new_ w 28 #[.int .i64 cap, .slice A0 ps.length c0, .slice B0 ts.length e0] (w.heap.size) (by simp)
  have hZ0 : Below w.heap.size w _ := hA0
  go_wp2_with fail
  refine (tawake_any _).mono ?_
  rintro e w1 ⟨rfl, hb1⟩
  obtain ⟨hc1, hf1⟩ := bcell hb1
  have hz1 := hb1.size
  simp at hz1
  replace hst0 := hst0.keep hb1
  replace kC := kC.keep hb1
  have hY1 := hZ0.trans (hb1.mono hZ0.size)
  have zkC_1 : w.heap.size < w1.heap.size := by omega
  have hZ1 : Below w.heap.size w w1 := hY1
  go_wp2_with fail
  refine (qF _ _ hst0).mono ?_
  rintro e w2 ⟨rfl, hb2⟩
  obtain ⟨hc2, hf2⟩ := bcell hb2
  have hz2 := hb2.size
  replace hst0 := hst0.keep hb2
  replace kC := kC.keep hb2
  have hY2 := hZ1.trans (hb2.mono hZ1.size)
  have zkC_2 : w.heap.size < w2.heap.size := by omega
  have hZ2 : Below w.heap.size w w2 := hY2
  go_wp2_with fail
  refine (qM _ _ hst0).mono ?_
  rintro e w3 ⟨rfl, hb3⟩
  obtain ⟨hc3, hf3⟩ := bcell hb3
  have hz3 := hb3.size
  replace hst0 := hst0.keep hb3
  replace kC := kC.keep hb3
  have hY3 := hZ2.trans (hb3.mono hZ2.size)
  have zkC_3 : w.heap.size < w3.heap.size := by omega
  have hZ3 : Below w.heap.size w w3 := hY3
  go_wp2_with fail
  refine (qA _ _ hst0).mono ?_
  rintro e w4 ⟨v4, rfl, hstA, hb4⟩
  obtain ⟨hc4, hf4⟩ := bcell hb4
  have hz4 := hb4.size
  replace hst0 := hst0.keep hb4
  replace kC := kC.keep hb4
  have hY4 := hZ3.trans (hb4.mono hZ3.size)
  have zkC_4 : w.heap.size < w4.heap.size := by omega
  replace hstA := hstA.to
  try dsimp only at hstA
  obtain ⟨AA, cA, BA, eA, rfl, hstA⟩ := hstA.form
  have hA4 := ((Below.refl w4.heap.size w4).alloc (Nat.le_refl _) (.cells #[.int .i64 cap, .slice AA psA.length cA, .slice BA tsA.length eA] 28))
  replace hst0 := hst0.keep hA4
  replace kC := kC.keep hA4
  replace hstA := hstA.keep hA4
  have kA := Blk.new_ w4 28 #[.int .i64 cap, .slice AA psA.length cA, .slice BA tsA.length eA] (w4.heap.size) (by simp)
  have hZ4 : Below w.heap.size w _ := hY4.trans (hA4.mono hY4.size)
  go_wp2_with fail
  refine (qB _ _ hst0).mono ?_
  rintro e w5 ⟨v5, rfl, hstB, hb5⟩
  obtain ⟨hc5, hf5⟩ := bcell hb5
  have hz5 := hb5.size
  simp at hz5
  replace hst0 := hst0.keep hb5
  replace kC := kC.keep hb5
  replace hstA := hstA.keep hb5
  replace kA := kA.keep hb5
  have hY5 := hZ4.trans (hb5.mono hZ4.size)
  have zkC_5 : w.heap.size < w5.heap.size := by omega
  have zkA_5 : w4.heap.size < w5.heap.size := by omega
  replace hstB := hstB.to
  try dsimp only at hstB
  obtain ⟨AB, cB, BB, eB, rfl, hstB⟩ := hstB.form
  have hA5 := ((Below.refl w5.heap.size w5).alloc (Nat.le_refl _) (.cells #[.int .i64 cap, .slice AB psB.length cB, .slice BB tsB.length eB] 28))
  replace hst0 := hst0.keep hA5
  replace kC := kC.keep hA5
  replace hstA := hstA.keep hA5
  replace kA := kA.keep hA5
  replace hstB := hstB.keep hA5
  have kB := Blk.new_ w5 28 #[.int .i64 cap, .slice AB psB.length cB, .slice BB tsB.length eB] (w5.heap.size) (by simp)
  have hZ5 : Below w.heap.size w _ := hY5.trans (hA5.mono hY5.size)
  go_wp2_with fail
  refine (qD _ _ hst0).mono ?_
  rintro e w6 ⟨v6, rfl, hstD, hb6⟩
  obtain ⟨hc6, hf6⟩ := bcell hb6
  have hz6 := hb6.size
  simp at hz6
  replace hst0 := hst0.keep hb6
  replace kC := kC.keep hb6
  replace hstA := hstA.keep hb6
  replace kA := kA.keep hb6
  replace hstB := hstB.keep hb6
  replace kB := kB.keep hb6
  have hY6 := hZ5.trans (hb6.mono hZ5.size)
  have zkC_6 : w.heap.size < w6.heap.size := by omega
  have zkA_6 : w4.heap.size < w6.heap.size := by omega
  have zkB_6 : w5.heap.size < w6.heap.size := by omega
  replace hstD := hstD.to
  try dsimp only at hstD
  obtain ⟨AD, cD, BD, eD, rfl, hstD⟩ := hstD.form
  have hA6 := ((Below.refl w6.heap.size w6).alloc (Nat.le_refl _) (.cells #[.int .i64 cap, .slice AD psD.length cD, .slice BD tsD.length eD] 28))
  replace hst0 := hst0.keep hA6
  replace kC := kC.keep hA6
  replace hstA := hstA.keep hA6
  replace kA := kA.keep hA6
  replace hstB := hstB.keep hA6
  replace kB := kB.keep hA6
  replace hstD := hstD.keep hA6
  have kD := Blk.new_ w6 28 #[.int .i64 cap, .slice AD psD.length cD, .slice BD tsD.length eD] (w6.heap.size) (by simp)
  have hZ6 : Below w.heap.size w _ := hY6.trans (hA6.mono hY6.size)
  go_wp2_with fail
  refine (qSD _ _ _ hstD hst0).mono ?_
  rintro e w7 ⟨rfl, hb7⟩
  obtain ⟨hc7, hf7⟩ := bcell hb7
  have hz7 := hb7.size
  simp at hz7
  replace hst0 := hst0.keep hb7
  replace kC := kC.keep hb7
  replace hstA := hstA.keep hb7
  replace kA := kA.keep hb7
  replace hstB := hstB.keep hb7
  replace kB := kB.keep hb7
  replace hstD := hstD.keep hb7
  replace kD := kD.keep hb7
  have hY7 := hZ6.trans (hb7.mono hZ6.size)
  have zkC_7 : w.heap.size < w7.heap.size := by omega
  have zkA_7 : w4.heap.size < w7.heap.size := by omega
  have zkB_7 : w5.heap.size < w7.heap.size := by omega
  have zkD_7 : w6.heap.size < w7.heap.size := by omega
  have hZ7 : Below w.heap.size w w7 := hY7
  go_wp2_with fail
  refine (qMA _ _ hstA).mono ?_
  rintro e w8 ⟨rfl, hb8⟩
  obtain ⟨hc8, hf8⟩ := bcell hb8
  have hz8 := hb8.size
  replace hst0 := hst0.keep hb8
  replace kC := kC.keep hb8
  replace hstA := hstA.keep hb8
  replace kA := kA.keep hb8
  replace hstB := hstB.keep hb8
  replace kB := kB.keep hb8
  replace hstD := hstD.keep hb8
  replace kD := kD.keep hb8
  have hY8 := hZ7.trans (hb8.mono hZ7.size)
  have zkC_8 : w.heap.size < w8.heap.size := by omega
  have zkA_8 : w4.heap.size < w8.heap.size := by omega
  have zkB_8 : w5.heap.size < w8.heap.size := by omega
  have zkD_8 : w6.heap.size < w8.heap.size := by omega
  have hZ8 : Below w.heap.size w w8 := hY8
  go_wp2_with fail
  refine (qMB _ _ hstB).mono ?_
  rintro e w9 ⟨rfl, hb9⟩
  obtain ⟨hc9, hf9⟩ := bcell hb9
  have hz9 := hb9.size
  replace hst0 := hst0.keep hb9
  replace kC := kC.keep hb9
  replace hstA := hstA.keep hb9
  replace kA := kA.keep hb9
  replace hstB := hstB.keep hb9
  replace kB := kB.keep hb9
  replace hstD := hstD.keep hb9
  replace kD := kD.keep hb9
  have hY9 := hZ8.trans (hb9.mono hZ8.size)
  have zkC_9 : w.heap.size < w9.heap.size := by omega
  have zkA_9 : w4.heap.size < w9.heap.size := by omega
  have zkB_9 : w5.heap.size < w9.heap.size := by omega
  have zkD_9 : w6.heap.size < w9.heap.size := by omega
  have hZ9 : Below w.heap.size w w9 := hY9
  go_wp2_with fail
  refine (qMD _ _ hstD).mono ?_
  rintro e w10 ⟨rfl, hb10⟩
  obtain ⟨hc10, hf10⟩ := bcell hb10
  have hz10 := hb10.size
  replace hst0 := hst0.keep hb10
  replace kC := kC.keep hb10
  replace hstA := hstA.keep hb10
  replace kA := kA.keep hb10
  replace hstB := hstB.keep hb10
  replace kB := kB.keep hb10
  replace hstD := hstD.keep hb10
  replace kD := kD.keep hb10
  have hY10 := hZ9.trans (hb10.mono hZ9.size)
  have zkC_10 : w.heap.size < w10.heap.size := by omega
  have zkA_10 : w4.heap.size < w10.heap.size := by omega
  have zkB_10 : w5.heap.size < w10.heap.size := by omega
  have zkD_10 : w6.heap.size < w10.heap.size := by omega
  go_wp2_with fail
  have kC_0 : w10.cell? ⟨w.heap.size, 0, none⟩ = some (.int .i64 cap) := by rw [kC.cell]; rfl
  have kC_1 : w10.cell? ⟨w.heap.size, 1, none⟩ = some (.slice A0 ps.length c0) := by rw [kC.cell]; rfl
  have kC_lt := kC.lt
  have kA_0 : w10.cell? ⟨w4.heap.size, 0, none⟩ = some (.int .i64 cap) := by rw [kA.cell]; rfl
  have kA_1 : w10.cell? ⟨w4.heap.size, 1, none⟩ = some (.slice AA psA.length cA) := by rw [kA.cell]; rfl
  have kA_lt := kA.lt
  have kB_0 : w10.cell? ⟨w5.heap.size, 0, none⟩ = some (.int .i64 cap) := by rw [kB.cell]; rfl
  have kB_1 : w10.cell? ⟨w5.heap.size, 1, none⟩ = some (.slice AB psB.length cB) := by rw [kB.cell]; rfl
  have kB_lt := kB.lt
  have kD_0 : w10.cell? ⟨w6.heap.size, 0, none⟩ = some (.int .i64 cap) := by rw [kD.cell]; rfl
  have kD_1 : w10.cell? ⟨w6.heap.size, 1, none⟩ = some (.slice AD psD.length cD) := by rw [kD.cell]; rfl
  have kD_lt := kD.lt
  have G0 := (Below.refl w10.heap.size w10).drew
  refine wp_region_held_drew (S := fun w' => w'.cell? ⟨w.heap.size, 0, none⟩ = some (.int .i64 cap) ∧ w'.cell? ⟨w.heap.size, 1, none⟩ = some (.slice A0 ps.length c0) ∧ w'.cell? ⟨w4.heap.size, 0, none⟩ = some (.int .i64 cap) ∧ w'.cell? ⟨w4.heap.size, 1, none⟩ = some (.slice AA psA.length cA) ∧ w'.cell? ⟨w5.heap.size, 0, none⟩ = some (.int .i64 cap) ∧ w'.cell? ⟨w5.heap.size, 1, none⟩ = some (.slice AB psB.length cB) ∧ w'.cell? ⟨w6.heap.size, 0, none⟩ = some (.int .i64 cap) ∧ w'.cell? ⟨w6.heap.size, 1, none⟩ = some (.slice AD psD.length cD)) (by kernel_rfl) ?_ (fun hHeldhr => ?_)
  · exact ⟨(G0.cell (p := ⟨w.heap.size, 0, none⟩) kC_lt).trans kC_0, (G0.cell (p := ⟨w.heap.size, 1, none⟩) kC_lt).trans kC_1, (G0.cell (p := ⟨w4.heap.size, 0, none⟩) kA_lt).trans kA_0, (G0.cell (p := ⟨w4.heap.size, 1, none⟩) kA_lt).trans kA_1, (G0.cell (p := ⟨w5.heap.size, 0, none⟩) kB_lt).trans kB_0, (G0.cell (p := ⟨w5.heap.size, 1, none⟩) kB_lt).trans kB_1, (G0.cell (p := ⟨w6.heap.size, 0, none⟩) kD_lt).trans kD_0, (G0.cell (p := ⟨w6.heap.size, 1, none⟩) kD_lt).trans kD_1⟩
  refine wpAnyH_take (i := 0) (oi := { dst := some 96, op := Op.fieldAddr 28 (Operand.tmp 16) 0, type := 0, pos := "law.go:124", after := _, guard := none }) (v := ?vhr0) rfl (by kernel_rfl) (by kernel_rfl) (by kernel_rfl) (fun _ _ _ h => h) (Or.inl ⟨by rfl, ?hyhr0⟩) (by assumption) ?resthr0
  case hyhr0 => (intro w hSw; (try dsimp only at hSw); go_simp <;> with_reducible rfl)
  try simp only [Act.put, List.setIfInBounds_toArray, List.set_cons_zero, List.set_cons_succ]
  refine wpAnyH_take (i := 1) (oi := { dst := some 97, op := Op.load 25 (Operand.tmp 96), type := 25, pos := "law.go:124", after := _, guard := none }) (v := ?vhr1) rfl (by kernel_rfl) (by kernel_rfl) (by kernel_rfl) (fun _ _ _ h => h) (Or.inl ⟨by rfl, ?hyhr1⟩) (by assumption) ?resthr1
  case hyhr1 => (intro w hSw; (try dsimp only at hSw); go_simp <;> with_reducible rfl)
  try simp only [Act.put, List.setIfInBounds_toArray, List.set_cons_zero, List.set_cons_succ]
  refine wpAnyH_take (i := 3) (oi := { dst := some 99, op := Op.fieldAddr 28 (Operand.tmp 4) 0, type := 0, pos := "law.go:124", after := _, guard := none }) (v := ?vhr3) rfl (by kernel_rfl) (by kernel_rfl) (by kernel_rfl) (fun _ _ _ h => h) (Or.inl ⟨by rfl, ?hyhr3⟩) (by assumption) ?resthr3
  case hyhr3 => (intro w hSw; (try dsimp only at hSw); go_simp <;> with_reducible rfl)
  try simp only [Act.put, List.setIfInBounds_toArray, List.set_cons_zero, List.set_cons_succ]
  refine wpAnyH_take (i := 4) (oi := { dst := some 100, op := Op.load 25 (Operand.tmp 99), type := 25, pos := "law.go:124", after := _, guard := none }) (v := ?vhr4) rfl (by kernel_rfl) (by kernel_rfl) (by kernel_rfl) (fun _ _ _ h => h) (Or.inl ⟨by rfl, ?hyhr4⟩) (by assumption) ?resthr4
  case hyhr4 => (intro w hSw; (try dsimp only at hSw); go_simp <;> with_reducible rfl)
  try simp only [Act.put, List.setIfInBounds_toArray, List.set_cons_zero, List.set_cons_succ]
  refine wpAnyH_ready (rs := [2]) (by kernel_rfl) (by simp) ?_
  refine AllReadyH.cons (o := { dst := some 98, op := Op.call { callee := Callee.value (Operand.func 25), args := #[Operand.tmp 97], argTypes := #[25] }, type := 3, pos := "law.go:124", after := _, guard := none }) rfl (fun K hK => ?_) AllReadyH.nil
  go_simp
  refine (qUD _ _ (hstD.keep G0).store).mono ?_
  rintro x x1 ⟨rfl, hx1⟩
  have G1 := G0.trans (hx1.mono G0.size)
  try go_wp2_with fail
  refine hK.out _ _ ?_ (fun hHeldhr2 => ?_)
  · exact ⟨(G1.cell (p := ⟨w.heap.size, 0, none⟩) kC_lt).trans kC_0, (G1.cell (p := ⟨w.heap.size, 1, none⟩) kC_lt).trans kC_1, (G1.cell (p := ⟨w4.heap.size, 0, none⟩) kA_lt).trans kA_0, (G1.cell (p := ⟨w4.heap.size, 1, none⟩) kA_lt).trans kA_1, (G1.cell (p := ⟨w5.heap.size, 0, none⟩) kB_lt).trans kB_0, (G1.cell (p := ⟨w5.heap.size, 1, none⟩) kB_lt).trans kB_1, (G1.cell (p := ⟨w6.heap.size, 0, none⟩) kD_lt).trans kD_0, (G1.cell (p := ⟨w6.heap.size, 1, none⟩) kD_lt).trans kD_1⟩
  clear hK K hHeldhr
  try simp only [Act.put, List.setIfInBounds_toArray, List.set_cons_zero, List.set_cons_succ]
  refine wpAnyH_ready (rs := [5]) (by kernel_rfl) (by simp) ?_
  refine AllReadyH.cons (o := { dst := some 101, op := Op.call { callee := Callee.value (Operand.func 25), args := #[Operand.tmp 100], argTypes := #[25] }, type := 3, pos := "law.go:124", after := _, guard := none }) rfl (fun K hK => ?_) AllReadyH.nil
  go_simp
  refine (qUH _ _ (hst0.keep G1).store).mono ?_
  rintro x x2 ⟨rfl, hx2⟩
  have G2 := G1.trans (hx2.mono G1.size)
  try go_wp2_with fail
  refine hK.out _ _ ?_ (fun hHeldhr5 => ?_)
  · exact ⟨(G2.cell (p := ⟨w.heap.size, 0, none⟩) kC_lt).trans kC_0, (G2.cell (p := ⟨w.heap.size, 1, none⟩) kC_lt).trans kC_1, (G2.cell (p := ⟨w4.heap.size, 0, none⟩) kA_lt).trans kA_0, (G2.cell (p := ⟨w4.heap.size, 1, none⟩) kA_lt).trans kA_1, (G2.cell (p := ⟨w5.heap.size, 0, none⟩) kB_lt).trans kB_0, (G2.cell (p := ⟨w5.heap.size, 1, none⟩) kB_lt).trans kB_1, (G2.cell (p := ⟨w6.heap.size, 0, none⟩) kD_lt).trans kD_0, (G2.cell (p := ⟨w6.heap.size, 1, none⟩) kD_lt).trans kD_1⟩
  clear hK K hHeldhr2
  try simp only [Act.put, List.setIfInBounds_toArray, List.set_cons_zero, List.set_cons_succ]
  refine wpAnyH_take (i := 6) (oi := { dst := some 102, op := Op.binOp BinOp.leq 3 (Operand.tmp 98) (Operand.tmp 101) 3, type := 4, pos := "law.go:124", after := _, guard := none }) (v := .bool true) rfl (by kernel_rfl) (by kernel_rfl) (by kernel_rfl) (fun _ _ _ h => h) (Or.inl ⟨by rfl, ?hyhr6⟩) (by assumption) ?resthr6
  case hyhr6 => (intro w hSw; (try dsimp only at hSw); go_simp <;> first | done | with_reducible rfl | omega | (simp; done) | (simp; omega) | (simp [*]; done) | (simp [*]; omega) | exact decide_eq_false (by omega) | exact decide_eq_true (by omega))
  try simp only [Act.put, List.setIfInBounds_toArray, List.set_cons_zero, List.set_cons_succ]
  refine wpAnyH_take (i := 7) (oi := { dst := some 18, op := Op.assign (Operand.tmp 102), type := 4, pos := "law.go:124", after := _, guard := none }) (v := ?vhr7) rfl (by kernel_rfl) (by kernel_rfl) (by kernel_rfl) (fun _ _ _ h => h) (Or.inl ⟨by rfl, ?hyhr7⟩) (by assumption) ?resthr7
  case hyhr7 => (intro w hSw; (try dsimp only at hSw); go_simp <;> with_reducible rfl)
  try simp only [Act.put, List.setIfInBounds_toArray, List.set_cons_zero, List.set_cons_succ]
  refine wpAnyH_done (by kernel_rfl) ?_ _
  go_upto_region 13 with fail
  have G3 := G2.drew
  refine wp_region_held_drew (S := fun w' => w'.cell? ⟨w.heap.size, 0, none⟩ = some (.int .i64 cap) ∧ w'.cell? ⟨w.heap.size, 1, none⟩ = some (.slice A0 ps.length c0) ∧ w'.cell? ⟨w4.heap.size, 0, none⟩ = some (.int .i64 cap) ∧ w'.cell? ⟨w4.heap.size, 1, none⟩ = some (.slice AA psA.length cA) ∧ w'.cell? ⟨w5.heap.size, 0, none⟩ = some (.int .i64 cap) ∧ w'.cell? ⟨w5.heap.size, 1, none⟩ = some (.slice AB psB.length cB) ∧ w'.cell? ⟨w6.heap.size, 0, none⟩ = some (.int .i64 cap) ∧ w'.cell? ⟨w6.heap.size, 1, none⟩ = some (.slice AD psD.length cD)) (by kernel_rfl) ?_ (fun hHeldir => ?_)
  · exact ⟨(G3.cell (p := ⟨w.heap.size, 0, none⟩) kC_lt).trans kC_0, (G3.cell (p := ⟨w.heap.size, 1, none⟩) kC_lt).trans kC_1, (G3.cell (p := ⟨w4.heap.size, 0, none⟩) kA_lt).trans kA_0, (G3.cell (p := ⟨w4.heap.size, 1, none⟩) kA_lt).trans kA_1, (G3.cell (p := ⟨w5.heap.size, 0, none⟩) kB_lt).trans kB_0, (G3.cell (p := ⟨w5.heap.size, 1, none⟩) kB_lt).trans kB_1, (G3.cell (p := ⟨w6.heap.size, 0, none⟩) kD_lt).trans kD_0, (G3.cell (p := ⟨w6.heap.size, 1, none⟩) kD_lt).trans kD_1⟩
  refine wpAnyH_take (i := 0) (oi := { dst := some 103, op := Op.move (Operand.tmp 18), type := 4, pos := "law.go:125", after := _, guard := none }) (v := ?vir0) rfl (by kernel_rfl) (by kernel_rfl) (by kernel_rfl) (fun _ _ _ h => h) (Or.inl ⟨by rfl, ?hyir0⟩) (by assumption) ?restir0
  case hyir0 => (intro w hSw; (try dsimp only at hSw); go_simp <;> with_reducible rfl)
  try simp only [Act.put, List.setIfInBounds_toArray, List.set_cons_zero, List.set_cons_succ]
  refine wpAnyH_take (i := 1) (oi := { dst := some 104, op := Op.move (Operand.tmp 103), type := 4, pos := "law.go:125", after := _, guard := none }) (v := ?vir1) rfl (by kernel_rfl) (by kernel_rfl) (by kernel_rfl) (fun _ _ _ h => h) (Or.inl ⟨by rfl, ?hyir1⟩) (by assumption) ?restir1
  case hyir1 => (intro w hSw; (try dsimp only at hSw); go_simp <;> with_reducible rfl)
  try simp only [Act.put, List.setIfInBounds_toArray, List.set_cons_zero, List.set_cons_succ]
  refine wpAnyH_take (i := 2) (oi := { dst := some 105, op := Op.fieldAddr 28 (Operand.tmp 13) 0, type := 0, pos := "law.go:125", after := _, guard := some (1, true) }) (v := ?vir2) rfl (by kernel_rfl) (by kernel_rfl) (by kernel_rfl) (fun _ _ _ h => h) (Or.inl ⟨by rfl, ?hyir2⟩) (by assumption) ?restir2
  case hyir2 => (intro w hSw; (try dsimp only at hSw); go_simp <;> with_reducible rfl)
  try simp only [Act.put, List.setIfInBounds_toArray, List.set_cons_zero, List.set_cons_succ]
  refine wpAnyH_take (i := 3) (oi := { dst := some 106, op := Op.load 25 (Operand.tmp 105), type := 25, pos := "law.go:125", after := _, guard := some (1, true) }) (v := ?vir3) rfl (by kernel_rfl) (by kernel_rfl) (by kernel_rfl) (fun _ _ _ h => h) (Or.inl ⟨by rfl, ?hyir3⟩) (by assumption) ?restir3
  case hyir3 => (intro w hSw; (try dsimp only at hSw); go_simp <;> with_reducible rfl)
  try simp only [Act.put, List.setIfInBounds_toArray, List.set_cons_zero, List.set_cons_succ]
  refine wpAnyH_take (i := 5) (oi := { dst := some 108, op := Op.fieldAddr 28 (Operand.tmp 4) 0, type := 0, pos := "law.go:125", after := _, guard := some (1, true) }) (v := ?vir5) rfl (by kernel_rfl) (by kernel_rfl) (by kernel_rfl) (fun _ _ _ h => h) (Or.inl ⟨by rfl, ?hyir5⟩) (by assumption) ?restir5
  case hyir5 => (intro w hSw; (try dsimp only at hSw); go_simp <;> with_reducible rfl)
  try simp only [Act.put, List.setIfInBounds_toArray, List.set_cons_zero, List.set_cons_succ]
  refine wpAnyH_take (i := 6) (oi := { dst := some 109, op := Op.load 25 (Operand.tmp 108), type := 25, pos := "law.go:125", after := _, guard := some (1, true) }) (v := ?vir6) rfl (by kernel_rfl) (by kernel_rfl) (by kernel_rfl) (fun _ _ _ h => h) (Or.inl ⟨by rfl, ?hyir6⟩) (by assumption) ?restir6
  case hyir6 => (intro w hSw; (try dsimp only at hSw); go_simp <;> with_reducible rfl)
  try simp only [Act.put, List.setIfInBounds_toArray, List.set_cons_zero, List.set_cons_succ]
  refine wpAnyH_ready (rs := [4]) (by kernel_rfl) (by simp) ?_
  refine AllReadyH.cons (o := { dst := some 107, op := Op.call { callee := Callee.value (Operand.func 25), args := #[Operand.tmp 106], argTypes := #[25] }, type := 3, pos := "law.go:125", after := _, guard := some (1, true) }) rfl (fun K hK => ?_) AllReadyH.nil
  go_simp
  refine (qUB _ _ (hstB.keep G3).store).mono ?_
  rintro x x4 ⟨rfl, hx4⟩
  have G4 := G3.trans (hx4.mono G3.size)
  try go_wp2_with fail
  refine hK.out _ _ ?_ (fun hHeldir4 => ?_)
  · exact ⟨(G4.cell (p := ⟨w.heap.size, 0, none⟩) kC_lt).trans kC_0, (G4.cell (p := ⟨w.heap.size, 1, none⟩) kC_lt).trans kC_1, (G4.cell (p := ⟨w4.heap.size, 0, none⟩) kA_lt).trans kA_0, (G4.cell (p := ⟨w4.heap.size, 1, none⟩) kA_lt).trans kA_1, (G4.cell (p := ⟨w5.heap.size, 0, none⟩) kB_lt).trans kB_0, (G4.cell (p := ⟨w5.heap.size, 1, none⟩) kB_lt).trans kB_1, (G4.cell (p := ⟨w6.heap.size, 0, none⟩) kD_lt).trans kD_0, (G4.cell (p := ⟨w6.heap.size, 1, none⟩) kD_lt).trans kD_1⟩
  clear hK K hHeldir
  try simp only [Act.put, List.setIfInBounds_toArray, List.set_cons_zero, List.set_cons_succ]
  refine wpAnyH_ready (rs := [7]) (by kernel_rfl) (by simp) ?_
  refine AllReadyH.cons (o := { dst := some 110, op := Op.call { callee := Callee.value (Operand.func 25), args := #[Operand.tmp 109], argTypes := #[25] }, type := 3, pos := "law.go:125", after := _, guard := some (1, true) }) rfl (fun K hK => ?_) AllReadyH.nil
  go_simp
  refine (qUH _ _ (hst0.keep G4).store).mono ?_
  rintro x x5 ⟨rfl, hx5⟩
  have G5 := G4.trans (hx5.mono G4.size)
  try go_wp2_with fail
  refine hK.out _ _ ?_ (fun hHeldir7 => ?_)
  · exact ⟨(G5.cell (p := ⟨w.heap.size, 0, none⟩) kC_lt).trans kC_0, (G5.cell (p := ⟨w.heap.size, 1, none⟩) kC_lt).trans kC_1, (G5.cell (p := ⟨w4.heap.size, 0, none⟩) kA_lt).trans kA_0, (G5.cell (p := ⟨w4.heap.size, 1, none⟩) kA_lt).trans kA_1, (G5.cell (p := ⟨w5.heap.size, 0, none⟩) kB_lt).trans kB_0, (G5.cell (p := ⟨w5.heap.size, 1, none⟩) kB_lt).trans kB_1, (G5.cell (p := ⟨w6.heap.size, 0, none⟩) kD_lt).trans kD_0, (G5.cell (p := ⟨w6.heap.size, 1, none⟩) kD_lt).trans kD_1⟩
  clear hK K hHeldir4
  try simp only [Act.put, List.setIfInBounds_toArray, List.set_cons_zero, List.set_cons_succ]
  refine wpAnyH_take (i := 8) (oi := { dst := some 111, op := Op.binOp BinOp.eql 3 (Operand.tmp 107) (Operand.tmp 110) 3, type := 4, pos := "law.go:125", after := _, guard := some (1, true) }) (v := .bool true) rfl (by kernel_rfl) (by kernel_rfl) (by kernel_rfl) (fun _ _ _ h => h) (Or.inl ⟨by rfl, ?hyir8⟩) (by assumption) ?restir8
  case hyir8 => (intro w hSw; (try dsimp only at hSw); go_simp <;> first | done | with_reducible rfl | omega | (simp; done) | (simp; omega) | (simp [*]; done) | (simp [*]; omega) | exact decide_eq_false (by omega) | exact decide_eq_true (by omega))
  try simp only [Act.put, List.setIfInBounds_toArray, List.set_cons_zero, List.set_cons_succ]
  refine wpAnyH_take (i := 9) (oi := { dst := some 112, op := Op.pick (Operand.tmp 104) (Operand.tmp 111) (Operand.const (Value.bool false)), type := 4, pos := "law.go:125", after := _, guard := none }) (v := ?vir9) rfl (by kernel_rfl) (by kernel_rfl) (by kernel_rfl) (fun _ _ _ h => h) (Or.inl ⟨by rfl, ?hyir9⟩) (by assumption) ?restir9
  case hyir9 => (intro w hSw; (try dsimp only at hSw); go_simp <;> with_reducible rfl)
  try simp only [Act.put, List.setIfInBounds_toArray, List.set_cons_zero, List.set_cons_succ]
  refine wpAnyH_take (i := 10) (oi := { dst := some 113, op := Op.move (Operand.tmp 112), type := 4, pos := "law.go:125", after := _, guard := none }) (v := ?vir10) rfl (by kernel_rfl) (by kernel_rfl) (by kernel_rfl) (fun _ _ _ h => h) (Or.inl ⟨by rfl, ?hyir10⟩) (by assumption) ?restir10
  case hyir10 => (intro w hSw; (try dsimp only at hSw); go_simp <;> with_reducible rfl)
  try simp only [Act.put, List.setIfInBounds_toArray, List.set_cons_zero, List.set_cons_succ]
  refine wpAnyH_take (i := 11) (oi := { dst := some 114, op := Op.fieldAddr 28 (Operand.tmp 11) 0, type := 0, pos := "law.go:125", after := _, guard := some (10, true) }) (v := ?vir11) rfl (by kernel_rfl) (by kernel_rfl) (by kernel_rfl) (fun _ _ _ h => h) (Or.inl ⟨by rfl, ?hyir11⟩) (by assumption) ?restir11
  case hyir11 => (intro w hSw; (try dsimp only at hSw); go_simp <;> with_reducible rfl)
  try simp only [Act.put, List.setIfInBounds_toArray, List.set_cons_zero, List.set_cons_succ]
  refine wpAnyH_take (i := 12) (oi := { dst := some 115, op := Op.load 25 (Operand.tmp 114), type := 25, pos := "law.go:125", after := _, guard := some (10, true) }) (v := ?vir12) rfl (by kernel_rfl) (by kernel_rfl) (by kernel_rfl) (fun _ _ _ h => h) (Or.inl ⟨by rfl, ?hyir12⟩) (by assumption) ?restir12
  case hyir12 => (intro w hSw; (try dsimp only at hSw); go_simp <;> with_reducible rfl)
  try simp only [Act.put, List.setIfInBounds_toArray, List.set_cons_zero, List.set_cons_succ]
  refine wpAnyH_take (i := 14) (oi := { dst := some 117, op := Op.fieldAddr 28 (Operand.tmp 4) 0, type := 0, pos := "law.go:125", after := _, guard := some (10, true) }) (v := ?vir14) rfl (by kernel_rfl) (by kernel_rfl) (by kernel_rfl) (fun _ _ _ h => h) (Or.inl ⟨by rfl, ?hyir14⟩) (by assumption) ?restir14
  case hyir14 => (intro w hSw; (try dsimp only at hSw); go_simp <;> with_reducible rfl)
  try simp only [Act.put, List.setIfInBounds_toArray, List.set_cons_zero, List.set_cons_succ]
  refine wpAnyH_take (i := 15) (oi := { dst := some 118, op := Op.load 25 (Operand.tmp 117), type := 25, pos := "law.go:125", after := _, guard := some (10, true) }) (v := ?vir15) rfl (by kernel_rfl) (by kernel_rfl) (by kernel_rfl) (fun _ _ _ h => h) (Or.inl ⟨by rfl, ?hyir15⟩) (by assumption) ?restir15
  case hyir15 => (intro w hSw; (try dsimp only at hSw); go_simp <;> with_reducible rfl)
  try simp only [Act.put, List.setIfInBounds_toArray, List.set_cons_zero, List.set_cons_succ]
  refine wpAnyH_ready (rs := [13]) (by kernel_rfl) (by simp) ?_
  refine AllReadyH.cons (o := { dst := some 116, op := Op.call { callee := Callee.value (Operand.func 25), args := #[Operand.tmp 115], argTypes := #[25] }, type := 3, pos := "law.go:125", after := _, guard := some (10, true) }) rfl (fun K hK => ?_) AllReadyH.nil
  go_simp
  refine (qUA _ _ (hstA.keep G5).store).mono ?_
  rintro x x6 ⟨rfl, hx6⟩
  have G6 := G5.trans (hx6.mono G5.size)
  try go_wp2_with fail
  refine hK.out _ _ ?_ (fun hHeldir13 => ?_)
  · exact ⟨(G6.cell (p := ⟨w.heap.size, 0, none⟩) kC_lt).trans kC_0, (G6.cell (p := ⟨w.heap.size, 1, none⟩) kC_lt).trans kC_1, (G6.cell (p := ⟨w4.heap.size, 0, none⟩) kA_lt).trans kA_0, (G6.cell (p := ⟨w4.heap.size, 1, none⟩) kA_lt).trans kA_1, (G6.cell (p := ⟨w5.heap.size, 0, none⟩) kB_lt).trans kB_0, (G6.cell (p := ⟨w5.heap.size, 1, none⟩) kB_lt).trans kB_1, (G6.cell (p := ⟨w6.heap.size, 0, none⟩) kD_lt).trans kD_0, (G6.cell (p := ⟨w6.heap.size, 1, none⟩) kD_lt).trans kD_1⟩
  clear hK K hHeldir7
  try simp only [Act.put, List.setIfInBounds_toArray, List.set_cons_zero, List.set_cons_succ]
  refine wpAnyH_ready (rs := [16]) (by kernel_rfl) (by simp) ?_
  refine AllReadyH.cons (o := { dst := some 119, op := Op.call { callee := Callee.value (Operand.func 25), args := #[Operand.tmp 118], argTypes := #[25] }, type := 3, pos := "law.go:125", after := _, guard := some (10, true) }) rfl (fun K hK => ?_) AllReadyH.nil
  go_simp
  refine (qUH _ _ (hst0.keep G6).store).mono ?_
  rintro x x7 ⟨rfl, hx7⟩
  have G7 := G6.trans (hx7.mono G6.size)
  try go_wp2_with fail
  refine hK.out _ _ ?_ (fun hHeldir16 => ?_)
  · exact ⟨(G7.cell (p := ⟨w.heap.size, 0, none⟩) kC_lt).trans kC_0, (G7.cell (p := ⟨w.heap.size, 1, none⟩) kC_lt).trans kC_1, (G7.cell (p := ⟨w4.heap.size, 0, none⟩) kA_lt).trans kA_0, (G7.cell (p := ⟨w4.heap.size, 1, none⟩) kA_lt).trans kA_1, (G7.cell (p := ⟨w5.heap.size, 0, none⟩) kB_lt).trans kB_0, (G7.cell (p := ⟨w5.heap.size, 1, none⟩) kB_lt).trans kB_1, (G7.cell (p := ⟨w6.heap.size, 0, none⟩) kD_lt).trans kD_0, (G7.cell (p := ⟨w6.heap.size, 1, none⟩) kD_lt).trans kD_1⟩
  clear hK K hHeldir13
  try simp only [Act.put, List.setIfInBounds_toArray, List.set_cons_zero, List.set_cons_succ]
  refine wpAnyH_take (i := 17) (oi := { dst := some 120, op := Op.binOp BinOp.add 3 (Operand.tmp 119) (Operand.const (Value.int IntKind.i64 1)) 3, type := 3, pos := "law.go:125", after := _, guard := some (10, true) }) (v := ?vir17) rfl (by kernel_rfl) (by kernel_rfl) (by kernel_rfl) (fun _ _ _ h => h) (Or.inl ⟨by rfl, ?hyir17⟩) (by assumption) ?restir17
  case hyir17 => (intro w hSw; (try dsimp only at hSw); go_simp <;> with_reducible rfl)
  try simp only [Act.put, List.setIfInBounds_toArray, List.set_cons_zero, List.set_cons_succ]
  refine wpAnyH_take (i := 18) (oi := { dst := some 121, op := Op.binOp BinOp.leq 3 (Operand.tmp 116) (Operand.tmp 120) 3, type := 4, pos := "law.go:125", after := _, guard := some (10, true) }) (v := .bool true) rfl (by kernel_rfl) (by kernel_rfl) (by kernel_rfl) (fun _ _ _ h => h) (Or.inl ⟨by rfl, ?hyir18⟩) (by assumption) ?restir18
  case hyir18 => (intro w hSw; (try dsimp only at hSw); go_simp <;> first | done | with_reducible rfl | omega | (simp; done) | (simp; omega) | (simp [*]; done) | (simp [*]; omega) | exact decide_eq_false (by omega) | exact decide_eq_true (by omega))
  try simp only [Act.put, List.setIfInBounds_toArray, List.set_cons_zero, List.set_cons_succ]
  refine wpAnyH_take (i := 19) (oi := { dst := some 122, op := Op.pick (Operand.tmp 113) (Operand.tmp 121) (Operand.const (Value.bool false)), type := 4, pos := "law.go:125", after := _, guard := none }) (v := ?vir19) rfl (by kernel_rfl) (by kernel_rfl) (by kernel_rfl) (fun _ _ _ h => h) (Or.inl ⟨by rfl, ?hyir19⟩) (by assumption) ?restir19
  case hyir19 => (intro w hSw; (try dsimp only at hSw); go_simp <;> with_reducible rfl)
  try simp only [Act.put, List.setIfInBounds_toArray, List.set_cons_zero, List.set_cons_succ]
  refine wpAnyH_take (i := 20) (oi := { dst := some 8, op := Op.assign (Operand.tmp 122), type := 4, pos := "law.go:125", after := _, guard := none }) (v := ?vir20) rfl (by kernel_rfl) (by kernel_rfl) (by kernel_rfl) (fun _ _ _ h => h) (Or.inl ⟨by rfl, ?hyir20⟩) (by assumption) ?restir20
  case hyir20 => (intro w hSw; (try dsimp only at hSw); go_simp <;> with_reducible rfl)
  try simp only [Act.put, List.setIfInBounds_toArray, List.set_cons_zero, List.set_cons_succ]
  refine wpAnyH_done (by kernel_rfl) ?_ _
  go_wp2
  go_ret
  exact ⟨rfl, hY10.trans (G7.mono hY10.size)⟩

set_option maxRecDepth 100000 in
set_option maxHeartbeats 4000000 in
theorem tableStays_ABo (w : World) (A0 B0 : Option Addr) (c0 e0 : Nat) (cap : Int) (ps : List Pg) (ts : List (List Int)) (hst0 : HpV w (.agg #[.int .i64 cap, .slice A0 ps.length c0, .slice B0 ts.length e0]) cap ps ts) (t a v : Int) (hF : fewH ps ts = true) (hM : mayH cap ps ts = true) (ln : ps.length ≤ 20) (lm : ts.length ≤ 5) (ll : ∀ t ∈ ts, t.length ≤ 4) (eA nB eB nD eD uH uA uD : Int) (psA psB psD : List Pg) (tsA tsB tsD : List (List Int)) (hA : writeH cap ps ts t a v = (eA, psA, tsA)) (hB : forkH cap ps ts t = (nB, eB, psB, tsB)) (hD : dropH cap ps ts t = (nD, eD, psD, tsD)) (lA : psA.length ≤ 900) (lB : psB.length ≤ 900) (lD : psD.length ≤ 900) (mA : mayH cap psA tsA = true) (mB : mayH cap psB tsB = true) (mD : mayH cap psD tsD = true) (vH : usedL cap ps = uH) (vA : usedL cap psA = uA) (vB : usedL cap psB = uH) (vD : usedL cap psD = uD) (b0 : 0 ≤ uH) (b1 : uH ≤ 20) (b2 : uD ≤ uH) (b3 : uA ≤ uH + 1) (hA1 : (eA != 0) = true) (hA2 : sameH cap psA tsA cap ps ts = true) (hB1 : (eB != 0) = true) (hB2 : sameH cap psB tsB cap ps ts = true) (hD1 : eD = 0)  :
    Calls Try.prog 8 #[.agg #[.int .i64 cap, .slice A0 ps.length c0, .slice B0 ts.length e0], .int .i64 t, .int .i64 a, .int .i64 v] w fun e w' => e = .returned (.bool true) ∧ Below w.heap.size w w' := by
  have qF := fun v W h => few_any v cap ps ts W h
  rw [hF] at qF
  have qM := fun v W h => tmay_any v cap ps ts W h (by omega)
  rw [hM] at qM
  have qA := fun x W h => tWrite_any x cap ps ts t a v W h (by omega) (by omega) (fun t ht => by have := ll t ht; omega)
  rw [hA] at qA
  have qB := fun x W h => Fork_any x cap ps ts t W h (by omega) (by omega) (fun t ht => by have := ll t ht; omega)
  rw [hB] at qB
  have qD := fun x W h => Drop_any x cap ps ts t W h (by omega) (by omega) (fun t ht => by have := ll t ht; omega)
  rw [hD] at qD
  have qMA := fun x W h => tmay_any x cap psA tsA W h (by omega)
  rw [mA] at qMA
  have qUA := fun x W h => Used_any x cap psA W h
  rw [vA] at qUA
  have qMB := fun x W h => tmay_any x cap psB tsB W h (by omega)
  rw [mB] at qMB
  have qUB := fun x W h => Used_any x cap psB W h
  rw [vB] at qUB
  have qMD := fun x W h => tmay_any x cap psD tsD W h (by omega)
  rw [mD] at qMD
  have qUD := fun x W h => Used_any x cap psD W h
  rw [vD] at qUD
  have qUH := fun x W h => Used_any x cap ps W h
  rw [vH] at qUH
  have hwr : IntKind.i64.wrap (uH + 1) = uH + 1 := by rw [IntKind.wrap_i64]; omega
  clear hF hM hA hB hD ll mA mB mD vH vA vB vD
  have qSA := fun x y W h g => tsame_any x y cap psA tsA cap ps ts W h g
  rw [hA2] at qSA
  clear hA2
  have qSB := fun x y W h g => tsame_any x y cap psB tsB cap ps ts W h g
  rw [hB2] at qSB
  clear hB2
  subst hD1
  go_enter Try.func8, Try.ntmps8
  have hA0 := ((Below.refl w.heap.size w).alloc (Nat.le_refl _) (.cells #[.int .i64 cap, .slice A0 ps.length c0, .slice B0 ts.length e0] 28))
  replace hst0 := hst0.keep hA0
  have kC := Blk.new_ w 28 #[.int .i64 cap, .slice A0 ps.length c0, .slice B0 ts.length e0] (w.heap.size) (by simp)
  have hZ0 : Below w.heap.size w _ := hA0
  go_wp2_with fail
  refine (tawake_any _).mono ?_
  rintro e w1 ⟨rfl, hb1⟩
  obtain ⟨hc1, hf1⟩ := bcell hb1
  have hz1 := hb1.size
  simp at hz1
  replace hst0 := hst0.keep hb1
  replace kC := kC.keep hb1
  have hY1 := hZ0.trans (hb1.mono hZ0.size)
  have zkC_1 : w.heap.size < w1.heap.size := by omega
  have hZ1 : Below w.heap.size w w1 := hY1
  go_wp2_with fail
  refine (qF _ _ hst0).mono ?_
  rintro e w2 ⟨rfl, hb2⟩
  obtain ⟨hc2, hf2⟩ := bcell hb2
  have hz2 := hb2.size
  replace hst0 := hst0.keep hb2
  replace kC := kC.keep hb2
  have hY2 := hZ1.trans (hb2.mono hZ1.size)
  have zkC_2 : w.heap.size < w2.heap.size := by omega
  have hZ2 : Below w.heap.size w w2 := hY2
  go_wp2_with fail
  refine (qM _ _ hst0).mono ?_
  rintro e w3 ⟨rfl, hb3⟩
  obtain ⟨hc3, hf3⟩ := bcell hb3
  have hz3 := hb3.size
  replace hst0 := hst0.keep hb3
  replace kC := kC.keep hb3
  have hY3 := hZ2.trans (hb3.mono hZ2.size)
  have zkC_3 : w.heap.size < w3.heap.size := by omega
  have hZ3 : Below w.heap.size w w3 := hY3
  go_wp2_with fail
  refine (qA _ _ hst0).mono ?_
  rintro e w4 ⟨v4, rfl, hstA, hb4⟩
  obtain ⟨hc4, hf4⟩ := bcell hb4
  have hz4 := hb4.size
  replace hst0 := hst0.keep hb4
  replace kC := kC.keep hb4
  have hY4 := hZ3.trans (hb4.mono hZ3.size)
  have zkC_4 : w.heap.size < w4.heap.size := by omega
  replace hstA := hstA.to
  try dsimp only at hstA
  obtain ⟨AA, cA, BA, eA, rfl, hstA⟩ := hstA.form
  have hA4 := ((Below.refl w4.heap.size w4).alloc (Nat.le_refl _) (.cells #[.int .i64 cap, .slice AA psA.length cA, .slice BA tsA.length eA] 28))
  replace hst0 := hst0.keep hA4
  replace kC := kC.keep hA4
  replace hstA := hstA.keep hA4
  have kA := Blk.new_ w4 28 #[.int .i64 cap, .slice AA psA.length cA, .slice BA tsA.length eA] (w4.heap.size) (by simp)
  have hZ4 : Below w.heap.size w _ := hY4.trans (hA4.mono hY4.size)
  go_wp2_with fail
  refine (qB _ _ hst0).mono ?_
  rintro e w5 ⟨v5, rfl, hstB, hb5⟩
  obtain ⟨hc5, hf5⟩ := bcell hb5
  have hz5 := hb5.size
  simp at hz5
  replace hst0 := hst0.keep hb5
  replace kC := kC.keep hb5
  replace hstA := hstA.keep hb5
  replace kA := kA.keep hb5
  have hY5 := hZ4.trans (hb5.mono hZ4.size)
  have zkC_5 : w.heap.size < w5.heap.size := by omega
  have zkA_5 : w4.heap.size < w5.heap.size := by omega
  replace hstB := hstB.to
  try dsimp only at hstB
  obtain ⟨AB, cB, BB, eB, rfl, hstB⟩ := hstB.form
  have hA5 := ((Below.refl w5.heap.size w5).alloc (Nat.le_refl _) (.cells #[.int .i64 cap, .slice AB psB.length cB, .slice BB tsB.length eB] 28))
  replace hst0 := hst0.keep hA5
  replace kC := kC.keep hA5
  replace hstA := hstA.keep hA5
  replace kA := kA.keep hA5
  replace hstB := hstB.keep hA5
  have kB := Blk.new_ w5 28 #[.int .i64 cap, .slice AB psB.length cB, .slice BB tsB.length eB] (w5.heap.size) (by simp)
  have hZ5 : Below w.heap.size w _ := hY5.trans (hA5.mono hY5.size)
  go_wp2_with fail
  refine (qD _ _ hst0).mono ?_
  rintro e w6 ⟨v6, rfl, hstD, hb6⟩
  obtain ⟨hc6, hf6⟩ := bcell hb6
  have hz6 := hb6.size
  simp at hz6
  replace hst0 := hst0.keep hb6
  replace kC := kC.keep hb6
  replace hstA := hstA.keep hb6
  replace kA := kA.keep hb6
  replace hstB := hstB.keep hb6
  replace kB := kB.keep hb6
  have hY6 := hZ5.trans (hb6.mono hZ5.size)
  have zkC_6 : w.heap.size < w6.heap.size := by omega
  have zkA_6 : w4.heap.size < w6.heap.size := by omega
  have zkB_6 : w5.heap.size < w6.heap.size := by omega
  replace hstD := hstD.to
  try dsimp only at hstD
  obtain ⟨AD, cD, BD, eD, rfl, hstD⟩ := hstD.form
  have hA6 := ((Below.refl w6.heap.size w6).alloc (Nat.le_refl _) (.cells #[.int .i64 cap, .slice AD psD.length cD, .slice BD tsD.length eD] 28))
  replace hst0 := hst0.keep hA6
  replace kC := kC.keep hA6
  replace hstA := hstA.keep hA6
  replace kA := kA.keep hA6
  replace hstB := hstB.keep hA6
  replace kB := kB.keep hA6
  replace hstD := hstD.keep hA6
  have kD := Blk.new_ w6 28 #[.int .i64 cap, .slice AD psD.length cD, .slice BD tsD.length eD] (w6.heap.size) (by simp)
  have hZ6 : Below w.heap.size w _ := hY6.trans (hA6.mono hY6.size)
  go_wp2_with fail
  refine (qSA _ _ _ hstA hst0).mono ?_
  rintro e w7 ⟨rfl, hb7⟩
  obtain ⟨hc7, hf7⟩ := bcell hb7
  have hz7 := hb7.size
  simp at hz7
  replace hst0 := hst0.keep hb7
  replace kC := kC.keep hb7
  replace hstA := hstA.keep hb7
  replace kA := kA.keep hb7
  replace hstB := hstB.keep hb7
  replace kB := kB.keep hb7
  replace hstD := hstD.keep hb7
  replace kD := kD.keep hb7
  have hY7 := hZ6.trans (hb7.mono hZ6.size)
  have zkC_7 : w.heap.size < w7.heap.size := by omega
  have zkA_7 : w4.heap.size < w7.heap.size := by omega
  have zkB_7 : w5.heap.size < w7.heap.size := by omega
  have zkD_7 : w6.heap.size < w7.heap.size := by omega
  have hZ7 : Below w.heap.size w w7 := hY7
  go_wp2_with fail
  refine (qSB _ _ _ hstB hst0).mono ?_
  rintro e w8 ⟨rfl, hb8⟩
  obtain ⟨hc8, hf8⟩ := bcell hb8
  have hz8 := hb8.size
  replace hst0 := hst0.keep hb8
  replace kC := kC.keep hb8
  replace hstA := hstA.keep hb8
  replace kA := kA.keep hb8
  replace hstB := hstB.keep hb8
  replace kB := kB.keep hb8
  replace hstD := hstD.keep hb8
  replace kD := kD.keep hb8
  have hY8 := hZ7.trans (hb8.mono hZ7.size)
  have zkC_8 : w.heap.size < w8.heap.size := by omega
  have zkA_8 : w4.heap.size < w8.heap.size := by omega
  have zkB_8 : w5.heap.size < w8.heap.size := by omega
  have zkD_8 : w6.heap.size < w8.heap.size := by omega
  have hZ8 : Below w.heap.size w w8 := hY8
  go_wp2_with fail
  refine (qMA _ _ hstA).mono ?_
  rintro e w9 ⟨rfl, hb9⟩
  obtain ⟨hc9, hf9⟩ := bcell hb9
  have hz9 := hb9.size
  replace hst0 := hst0.keep hb9
  replace kC := kC.keep hb9
  replace hstA := hstA.keep hb9
  replace kA := kA.keep hb9
  replace hstB := hstB.keep hb9
  replace kB := kB.keep hb9
  replace hstD := hstD.keep hb9
  replace kD := kD.keep hb9
  have hY9 := hZ8.trans (hb9.mono hZ8.size)
  have zkC_9 : w.heap.size < w9.heap.size := by omega
  have zkA_9 : w4.heap.size < w9.heap.size := by omega
  have zkB_9 : w5.heap.size < w9.heap.size := by omega
  have zkD_9 : w6.heap.size < w9.heap.size := by omega
  have hZ9 : Below w.heap.size w w9 := hY9
  go_wp2_with fail
  refine (qMB _ _ hstB).mono ?_
  rintro e w10 ⟨rfl, hb10⟩
  obtain ⟨hc10, hf10⟩ := bcell hb10
  have hz10 := hb10.size
  replace hst0 := hst0.keep hb10
  replace kC := kC.keep hb10
  replace hstA := hstA.keep hb10
  replace kA := kA.keep hb10
  replace hstB := hstB.keep hb10
  replace kB := kB.keep hb10
  replace hstD := hstD.keep hb10
  replace kD := kD.keep hb10
  have hY10 := hZ9.trans (hb10.mono hZ9.size)
  have zkC_10 : w.heap.size < w10.heap.size := by omega
  have zkA_10 : w4.heap.size < w10.heap.size := by omega
  have zkB_10 : w5.heap.size < w10.heap.size := by omega
  have zkD_10 : w6.heap.size < w10.heap.size := by omega
  have hZ10 : Below w.heap.size w w10 := hY10
  go_wp2_with fail
  refine (qMD _ _ hstD).mono ?_
  rintro e w11 ⟨rfl, hb11⟩
  obtain ⟨hc11, hf11⟩ := bcell hb11
  have hz11 := hb11.size
  replace hst0 := hst0.keep hb11
  replace kC := kC.keep hb11
  replace hstA := hstA.keep hb11
  replace kA := kA.keep hb11
  replace hstB := hstB.keep hb11
  replace kB := kB.keep hb11
  replace hstD := hstD.keep hb11
  replace kD := kD.keep hb11
  have hY11 := hZ10.trans (hb11.mono hZ10.size)
  have zkC_11 : w.heap.size < w11.heap.size := by omega
  have zkA_11 : w4.heap.size < w11.heap.size := by omega
  have zkB_11 : w5.heap.size < w11.heap.size := by omega
  have zkD_11 : w6.heap.size < w11.heap.size := by omega
  go_wp2_with fail
  have kC_0 : w11.cell? ⟨w.heap.size, 0, none⟩ = some (.int .i64 cap) := by rw [kC.cell]; rfl
  have kC_1 : w11.cell? ⟨w.heap.size, 1, none⟩ = some (.slice A0 ps.length c0) := by rw [kC.cell]; rfl
  have kC_lt := kC.lt
  have kA_0 : w11.cell? ⟨w4.heap.size, 0, none⟩ = some (.int .i64 cap) := by rw [kA.cell]; rfl
  have kA_1 : w11.cell? ⟨w4.heap.size, 1, none⟩ = some (.slice AA psA.length cA) := by rw [kA.cell]; rfl
  have kA_lt := kA.lt
  have kB_0 : w11.cell? ⟨w5.heap.size, 0, none⟩ = some (.int .i64 cap) := by rw [kB.cell]; rfl
  have kB_1 : w11.cell? ⟨w5.heap.size, 1, none⟩ = some (.slice AB psB.length cB) := by rw [kB.cell]; rfl
  have kB_lt := kB.lt
  have kD_0 : w11.cell? ⟨w6.heap.size, 0, none⟩ = some (.int .i64 cap) := by rw [kD.cell]; rfl
  have kD_1 : w11.cell? ⟨w6.heap.size, 1, none⟩ = some (.slice AD psD.length cD) := by rw [kD.cell]; rfl
  have kD_lt := kD.lt
  have G0 := (Below.refl w11.heap.size w11).drew
  refine wp_region_held_drew (S := fun w' => w'.cell? ⟨w.heap.size, 0, none⟩ = some (.int .i64 cap) ∧ w'.cell? ⟨w.heap.size, 1, none⟩ = some (.slice A0 ps.length c0) ∧ w'.cell? ⟨w4.heap.size, 0, none⟩ = some (.int .i64 cap) ∧ w'.cell? ⟨w4.heap.size, 1, none⟩ = some (.slice AA psA.length cA) ∧ w'.cell? ⟨w5.heap.size, 0, none⟩ = some (.int .i64 cap) ∧ w'.cell? ⟨w5.heap.size, 1, none⟩ = some (.slice AB psB.length cB) ∧ w'.cell? ⟨w6.heap.size, 0, none⟩ = some (.int .i64 cap) ∧ w'.cell? ⟨w6.heap.size, 1, none⟩ = some (.slice AD psD.length cD)) (by kernel_rfl) ?_ (fun hHeldjr => ?_)
  · exact ⟨(G0.cell (p := ⟨w.heap.size, 0, none⟩) kC_lt).trans kC_0, (G0.cell (p := ⟨w.heap.size, 1, none⟩) kC_lt).trans kC_1, (G0.cell (p := ⟨w4.heap.size, 0, none⟩) kA_lt).trans kA_0, (G0.cell (p := ⟨w4.heap.size, 1, none⟩) kA_lt).trans kA_1, (G0.cell (p := ⟨w5.heap.size, 0, none⟩) kB_lt).trans kB_0, (G0.cell (p := ⟨w5.heap.size, 1, none⟩) kB_lt).trans kB_1, (G0.cell (p := ⟨w6.heap.size, 0, none⟩) kD_lt).trans kD_0, (G0.cell (p := ⟨w6.heap.size, 1, none⟩) kD_lt).trans kD_1⟩
  refine wpAnyH_take (i := 0) (oi := { dst := some 96, op := Op.fieldAddr 28 (Operand.tmp 16) 0, type := 0, pos := "law.go:124", after := _, guard := none }) (v := ?vjr0) rfl (by kernel_rfl) (by kernel_rfl) (by kernel_rfl) (fun _ _ _ h => h) (Or.inl ⟨by rfl, ?hyjr0⟩) (by assumption) ?restjr0
  case hyjr0 => (intro w hSw; (try dsimp only at hSw); go_simp <;> with_reducible rfl)
  try simp only [Act.put, List.setIfInBounds_toArray, List.set_cons_zero, List.set_cons_succ]
  refine wpAnyH_take (i := 1) (oi := { dst := some 97, op := Op.load 25 (Operand.tmp 96), type := 25, pos := "law.go:124", after := _, guard := none }) (v := ?vjr1) rfl (by kernel_rfl) (by kernel_rfl) (by kernel_rfl) (fun _ _ _ h => h) (Or.inl ⟨by rfl, ?hyjr1⟩) (by assumption) ?restjr1
  case hyjr1 => (intro w hSw; (try dsimp only at hSw); go_simp <;> with_reducible rfl)
  try simp only [Act.put, List.setIfInBounds_toArray, List.set_cons_zero, List.set_cons_succ]
  refine wpAnyH_take (i := 3) (oi := { dst := some 99, op := Op.fieldAddr 28 (Operand.tmp 4) 0, type := 0, pos := "law.go:124", after := _, guard := none }) (v := ?vjr3) rfl (by kernel_rfl) (by kernel_rfl) (by kernel_rfl) (fun _ _ _ h => h) (Or.inl ⟨by rfl, ?hyjr3⟩) (by assumption) ?restjr3
  case hyjr3 => (intro w hSw; (try dsimp only at hSw); go_simp <;> with_reducible rfl)
  try simp only [Act.put, List.setIfInBounds_toArray, List.set_cons_zero, List.set_cons_succ]
  refine wpAnyH_take (i := 4) (oi := { dst := some 100, op := Op.load 25 (Operand.tmp 99), type := 25, pos := "law.go:124", after := _, guard := none }) (v := ?vjr4) rfl (by kernel_rfl) (by kernel_rfl) (by kernel_rfl) (fun _ _ _ h => h) (Or.inl ⟨by rfl, ?hyjr4⟩) (by assumption) ?restjr4
  case hyjr4 => (intro w hSw; (try dsimp only at hSw); go_simp <;> with_reducible rfl)
  try simp only [Act.put, List.setIfInBounds_toArray, List.set_cons_zero, List.set_cons_succ]
  refine wpAnyH_ready (rs := [2]) (by kernel_rfl) (by simp) ?_
  refine AllReadyH.cons (o := { dst := some 98, op := Op.call { callee := Callee.value (Operand.func 25), args := #[Operand.tmp 97], argTypes := #[25] }, type := 3, pos := "law.go:124", after := _, guard := none }) rfl (fun K hK => ?_) AllReadyH.nil
  go_simp
  refine (qUD _ _ (hstD.keep G0).store).mono ?_
  rintro x x1 ⟨rfl, hx1⟩
  have G1 := G0.trans (hx1.mono G0.size)
  try go_wp2_with fail
  refine hK.out _ _ ?_ (fun hHeldjr2 => ?_)
  · exact ⟨(G1.cell (p := ⟨w.heap.size, 0, none⟩) kC_lt).trans kC_0, (G1.cell (p := ⟨w.heap.size, 1, none⟩) kC_lt).trans kC_1, (G1.cell (p := ⟨w4.heap.size, 0, none⟩) kA_lt).trans kA_0, (G1.cell (p := ⟨w4.heap.size, 1, none⟩) kA_lt).trans kA_1, (G1.cell (p := ⟨w5.heap.size, 0, none⟩) kB_lt).trans kB_0, (G1.cell (p := ⟨w5.heap.size, 1, none⟩) kB_lt).trans kB_1, (G1.cell (p := ⟨w6.heap.size, 0, none⟩) kD_lt).trans kD_0, (G1.cell (p := ⟨w6.heap.size, 1, none⟩) kD_lt).trans kD_1⟩
  clear hK K hHeldjr
  try simp only [Act.put, List.setIfInBounds_toArray, List.set_cons_zero, List.set_cons_succ]
  refine wpAnyH_ready (rs := [5]) (by kernel_rfl) (by simp) ?_
  refine AllReadyH.cons (o := { dst := some 101, op := Op.call { callee := Callee.value (Operand.func 25), args := #[Operand.tmp 100], argTypes := #[25] }, type := 3, pos := "law.go:124", after := _, guard := none }) rfl (fun K hK => ?_) AllReadyH.nil
  go_simp
  refine (qUH _ _ (hst0.keep G1).store).mono ?_
  rintro x x2 ⟨rfl, hx2⟩
  have G2 := G1.trans (hx2.mono G1.size)
  try go_wp2_with fail
  refine hK.out _ _ ?_ (fun hHeldjr5 => ?_)
  · exact ⟨(G2.cell (p := ⟨w.heap.size, 0, none⟩) kC_lt).trans kC_0, (G2.cell (p := ⟨w.heap.size, 1, none⟩) kC_lt).trans kC_1, (G2.cell (p := ⟨w4.heap.size, 0, none⟩) kA_lt).trans kA_0, (G2.cell (p := ⟨w4.heap.size, 1, none⟩) kA_lt).trans kA_1, (G2.cell (p := ⟨w5.heap.size, 0, none⟩) kB_lt).trans kB_0, (G2.cell (p := ⟨w5.heap.size, 1, none⟩) kB_lt).trans kB_1, (G2.cell (p := ⟨w6.heap.size, 0, none⟩) kD_lt).trans kD_0, (G2.cell (p := ⟨w6.heap.size, 1, none⟩) kD_lt).trans kD_1⟩
  clear hK K hHeldjr2
  try simp only [Act.put, List.setIfInBounds_toArray, List.set_cons_zero, List.set_cons_succ]
  refine wpAnyH_take (i := 6) (oi := { dst := some 102, op := Op.binOp BinOp.leq 3 (Operand.tmp 98) (Operand.tmp 101) 3, type := 4, pos := "law.go:124", after := _, guard := none }) (v := .bool true) rfl (by kernel_rfl) (by kernel_rfl) (by kernel_rfl) (fun _ _ _ h => h) (Or.inl ⟨by rfl, ?hyjr6⟩) (by assumption) ?restjr6
  case hyjr6 => (intro w hSw; (try dsimp only at hSw); go_simp <;> first | done | with_reducible rfl | omega | (simp; done) | (simp; omega) | (simp [*]; done) | (simp [*]; omega) | exact decide_eq_false (by omega) | exact decide_eq_true (by omega))
  try simp only [Act.put, List.setIfInBounds_toArray, List.set_cons_zero, List.set_cons_succ]
  refine wpAnyH_take (i := 7) (oi := { dst := some 18, op := Op.assign (Operand.tmp 102), type := 4, pos := "law.go:124", after := _, guard := none }) (v := ?vjr7) rfl (by kernel_rfl) (by kernel_rfl) (by kernel_rfl) (fun _ _ _ h => h) (Or.inl ⟨by rfl, ?hyjr7⟩) (by assumption) ?restjr7
  case hyjr7 => (intro w hSw; (try dsimp only at hSw); go_simp <;> with_reducible rfl)
  try simp only [Act.put, List.setIfInBounds_toArray, List.set_cons_zero, List.set_cons_succ]
  refine wpAnyH_done (by kernel_rfl) ?_ _
  go_upto_region 13 with fail
  have G3 := G2.drew
  refine wp_region_held_drew (S := fun w' => w'.cell? ⟨w.heap.size, 0, none⟩ = some (.int .i64 cap) ∧ w'.cell? ⟨w.heap.size, 1, none⟩ = some (.slice A0 ps.length c0) ∧ w'.cell? ⟨w4.heap.size, 0, none⟩ = some (.int .i64 cap) ∧ w'.cell? ⟨w4.heap.size, 1, none⟩ = some (.slice AA psA.length cA) ∧ w'.cell? ⟨w5.heap.size, 0, none⟩ = some (.int .i64 cap) ∧ w'.cell? ⟨w5.heap.size, 1, none⟩ = some (.slice AB psB.length cB) ∧ w'.cell? ⟨w6.heap.size, 0, none⟩ = some (.int .i64 cap) ∧ w'.cell? ⟨w6.heap.size, 1, none⟩ = some (.slice AD psD.length cD)) (by kernel_rfl) ?_ (fun hHeldkr => ?_)
  · exact ⟨(G3.cell (p := ⟨w.heap.size, 0, none⟩) kC_lt).trans kC_0, (G3.cell (p := ⟨w.heap.size, 1, none⟩) kC_lt).trans kC_1, (G3.cell (p := ⟨w4.heap.size, 0, none⟩) kA_lt).trans kA_0, (G3.cell (p := ⟨w4.heap.size, 1, none⟩) kA_lt).trans kA_1, (G3.cell (p := ⟨w5.heap.size, 0, none⟩) kB_lt).trans kB_0, (G3.cell (p := ⟨w5.heap.size, 1, none⟩) kB_lt).trans kB_1, (G3.cell (p := ⟨w6.heap.size, 0, none⟩) kD_lt).trans kD_0, (G3.cell (p := ⟨w6.heap.size, 1, none⟩) kD_lt).trans kD_1⟩
  refine wpAnyH_take (i := 0) (oi := { dst := some 103, op := Op.move (Operand.tmp 18), type := 4, pos := "law.go:125", after := _, guard := none }) (v := ?vkr0) rfl (by kernel_rfl) (by kernel_rfl) (by kernel_rfl) (fun _ _ _ h => h) (Or.inl ⟨by rfl, ?hykr0⟩) (by assumption) ?restkr0
  case hykr0 => (intro w hSw; (try dsimp only at hSw); go_simp <;> with_reducible rfl)
  try simp only [Act.put, List.setIfInBounds_toArray, List.set_cons_zero, List.set_cons_succ]
  refine wpAnyH_take (i := 1) (oi := { dst := some 104, op := Op.move (Operand.tmp 103), type := 4, pos := "law.go:125", after := _, guard := none }) (v := ?vkr1) rfl (by kernel_rfl) (by kernel_rfl) (by kernel_rfl) (fun _ _ _ h => h) (Or.inl ⟨by rfl, ?hykr1⟩) (by assumption) ?restkr1
  case hykr1 => (intro w hSw; (try dsimp only at hSw); go_simp <;> with_reducible rfl)
  try simp only [Act.put, List.setIfInBounds_toArray, List.set_cons_zero, List.set_cons_succ]
  refine wpAnyH_take (i := 2) (oi := { dst := some 105, op := Op.fieldAddr 28 (Operand.tmp 13) 0, type := 0, pos := "law.go:125", after := _, guard := some (1, true) }) (v := ?vkr2) rfl (by kernel_rfl) (by kernel_rfl) (by kernel_rfl) (fun _ _ _ h => h) (Or.inl ⟨by rfl, ?hykr2⟩) (by assumption) ?restkr2
  case hykr2 => (intro w hSw; (try dsimp only at hSw); go_simp <;> with_reducible rfl)
  try simp only [Act.put, List.setIfInBounds_toArray, List.set_cons_zero, List.set_cons_succ]
  refine wpAnyH_take (i := 3) (oi := { dst := some 106, op := Op.load 25 (Operand.tmp 105), type := 25, pos := "law.go:125", after := _, guard := some (1, true) }) (v := ?vkr3) rfl (by kernel_rfl) (by kernel_rfl) (by kernel_rfl) (fun _ _ _ h => h) (Or.inl ⟨by rfl, ?hykr3⟩) (by assumption) ?restkr3
  case hykr3 => (intro w hSw; (try dsimp only at hSw); go_simp <;> with_reducible rfl)
  try simp only [Act.put, List.setIfInBounds_toArray, List.set_cons_zero, List.set_cons_succ]
  refine wpAnyH_take (i := 5) (oi := { dst := some 108, op := Op.fieldAddr 28 (Operand.tmp 4) 0, type := 0, pos := "law.go:125", after := _, guard := some (1, true) }) (v := ?vkr5) rfl (by kernel_rfl) (by kernel_rfl) (by kernel_rfl) (fun _ _ _ h => h) (Or.inl ⟨by rfl, ?hykr5⟩) (by assumption) ?restkr5
  case hykr5 => (intro w hSw; (try dsimp only at hSw); go_simp <;> with_reducible rfl)
  try simp only [Act.put, List.setIfInBounds_toArray, List.set_cons_zero, List.set_cons_succ]
  refine wpAnyH_take (i := 6) (oi := { dst := some 109, op := Op.load 25 (Operand.tmp 108), type := 25, pos := "law.go:125", after := _, guard := some (1, true) }) (v := ?vkr6) rfl (by kernel_rfl) (by kernel_rfl) (by kernel_rfl) (fun _ _ _ h => h) (Or.inl ⟨by rfl, ?hykr6⟩) (by assumption) ?restkr6
  case hykr6 => (intro w hSw; (try dsimp only at hSw); go_simp <;> with_reducible rfl)
  try simp only [Act.put, List.setIfInBounds_toArray, List.set_cons_zero, List.set_cons_succ]
  refine wpAnyH_ready (rs := [4]) (by kernel_rfl) (by simp) ?_
  refine AllReadyH.cons (o := { dst := some 107, op := Op.call { callee := Callee.value (Operand.func 25), args := #[Operand.tmp 106], argTypes := #[25] }, type := 3, pos := "law.go:125", after := _, guard := some (1, true) }) rfl (fun K hK => ?_) AllReadyH.nil
  go_simp
  refine (qUB _ _ (hstB.keep G3).store).mono ?_
  rintro x x4 ⟨rfl, hx4⟩
  have G4 := G3.trans (hx4.mono G3.size)
  try go_wp2_with fail
  refine hK.out _ _ ?_ (fun hHeldkr4 => ?_)
  · exact ⟨(G4.cell (p := ⟨w.heap.size, 0, none⟩) kC_lt).trans kC_0, (G4.cell (p := ⟨w.heap.size, 1, none⟩) kC_lt).trans kC_1, (G4.cell (p := ⟨w4.heap.size, 0, none⟩) kA_lt).trans kA_0, (G4.cell (p := ⟨w4.heap.size, 1, none⟩) kA_lt).trans kA_1, (G4.cell (p := ⟨w5.heap.size, 0, none⟩) kB_lt).trans kB_0, (G4.cell (p := ⟨w5.heap.size, 1, none⟩) kB_lt).trans kB_1, (G4.cell (p := ⟨w6.heap.size, 0, none⟩) kD_lt).trans kD_0, (G4.cell (p := ⟨w6.heap.size, 1, none⟩) kD_lt).trans kD_1⟩
  clear hK K hHeldkr
  try simp only [Act.put, List.setIfInBounds_toArray, List.set_cons_zero, List.set_cons_succ]
  refine wpAnyH_ready (rs := [7]) (by kernel_rfl) (by simp) ?_
  refine AllReadyH.cons (o := { dst := some 110, op := Op.call { callee := Callee.value (Operand.func 25), args := #[Operand.tmp 109], argTypes := #[25] }, type := 3, pos := "law.go:125", after := _, guard := some (1, true) }) rfl (fun K hK => ?_) AllReadyH.nil
  go_simp
  refine (qUH _ _ (hst0.keep G4).store).mono ?_
  rintro x x5 ⟨rfl, hx5⟩
  have G5 := G4.trans (hx5.mono G4.size)
  try go_wp2_with fail
  refine hK.out _ _ ?_ (fun hHeldkr7 => ?_)
  · exact ⟨(G5.cell (p := ⟨w.heap.size, 0, none⟩) kC_lt).trans kC_0, (G5.cell (p := ⟨w.heap.size, 1, none⟩) kC_lt).trans kC_1, (G5.cell (p := ⟨w4.heap.size, 0, none⟩) kA_lt).trans kA_0, (G5.cell (p := ⟨w4.heap.size, 1, none⟩) kA_lt).trans kA_1, (G5.cell (p := ⟨w5.heap.size, 0, none⟩) kB_lt).trans kB_0, (G5.cell (p := ⟨w5.heap.size, 1, none⟩) kB_lt).trans kB_1, (G5.cell (p := ⟨w6.heap.size, 0, none⟩) kD_lt).trans kD_0, (G5.cell (p := ⟨w6.heap.size, 1, none⟩) kD_lt).trans kD_1⟩
  clear hK K hHeldkr4
  try simp only [Act.put, List.setIfInBounds_toArray, List.set_cons_zero, List.set_cons_succ]
  refine wpAnyH_take (i := 8) (oi := { dst := some 111, op := Op.binOp BinOp.eql 3 (Operand.tmp 107) (Operand.tmp 110) 3, type := 4, pos := "law.go:125", after := _, guard := some (1, true) }) (v := .bool true) rfl (by kernel_rfl) (by kernel_rfl) (by kernel_rfl) (fun _ _ _ h => h) (Or.inl ⟨by rfl, ?hykr8⟩) (by assumption) ?restkr8
  case hykr8 => (intro w hSw; (try dsimp only at hSw); go_simp <;> first | done | with_reducible rfl | omega | (simp; done) | (simp; omega) | (simp [*]; done) | (simp [*]; omega) | exact decide_eq_false (by omega) | exact decide_eq_true (by omega))
  try simp only [Act.put, List.setIfInBounds_toArray, List.set_cons_zero, List.set_cons_succ]
  refine wpAnyH_take (i := 9) (oi := { dst := some 112, op := Op.pick (Operand.tmp 104) (Operand.tmp 111) (Operand.const (Value.bool false)), type := 4, pos := "law.go:125", after := _, guard := none }) (v := ?vkr9) rfl (by kernel_rfl) (by kernel_rfl) (by kernel_rfl) (fun _ _ _ h => h) (Or.inl ⟨by rfl, ?hykr9⟩) (by assumption) ?restkr9
  case hykr9 => (intro w hSw; (try dsimp only at hSw); go_simp <;> with_reducible rfl)
  try simp only [Act.put, List.setIfInBounds_toArray, List.set_cons_zero, List.set_cons_succ]
  refine wpAnyH_take (i := 10) (oi := { dst := some 113, op := Op.move (Operand.tmp 112), type := 4, pos := "law.go:125", after := _, guard := none }) (v := ?vkr10) rfl (by kernel_rfl) (by kernel_rfl) (by kernel_rfl) (fun _ _ _ h => h) (Or.inl ⟨by rfl, ?hykr10⟩) (by assumption) ?restkr10
  case hykr10 => (intro w hSw; (try dsimp only at hSw); go_simp <;> with_reducible rfl)
  try simp only [Act.put, List.setIfInBounds_toArray, List.set_cons_zero, List.set_cons_succ]
  refine wpAnyH_take (i := 11) (oi := { dst := some 114, op := Op.fieldAddr 28 (Operand.tmp 11) 0, type := 0, pos := "law.go:125", after := _, guard := some (10, true) }) (v := ?vkr11) rfl (by kernel_rfl) (by kernel_rfl) (by kernel_rfl) (fun _ _ _ h => h) (Or.inl ⟨by rfl, ?hykr11⟩) (by assumption) ?restkr11
  case hykr11 => (intro w hSw; (try dsimp only at hSw); go_simp <;> with_reducible rfl)
  try simp only [Act.put, List.setIfInBounds_toArray, List.set_cons_zero, List.set_cons_succ]
  refine wpAnyH_take (i := 12) (oi := { dst := some 115, op := Op.load 25 (Operand.tmp 114), type := 25, pos := "law.go:125", after := _, guard := some (10, true) }) (v := ?vkr12) rfl (by kernel_rfl) (by kernel_rfl) (by kernel_rfl) (fun _ _ _ h => h) (Or.inl ⟨by rfl, ?hykr12⟩) (by assumption) ?restkr12
  case hykr12 => (intro w hSw; (try dsimp only at hSw); go_simp <;> with_reducible rfl)
  try simp only [Act.put, List.setIfInBounds_toArray, List.set_cons_zero, List.set_cons_succ]
  refine wpAnyH_take (i := 14) (oi := { dst := some 117, op := Op.fieldAddr 28 (Operand.tmp 4) 0, type := 0, pos := "law.go:125", after := _, guard := some (10, true) }) (v := ?vkr14) rfl (by kernel_rfl) (by kernel_rfl) (by kernel_rfl) (fun _ _ _ h => h) (Or.inl ⟨by rfl, ?hykr14⟩) (by assumption) ?restkr14
  case hykr14 => (intro w hSw; (try dsimp only at hSw); go_simp <;> with_reducible rfl)
  try simp only [Act.put, List.setIfInBounds_toArray, List.set_cons_zero, List.set_cons_succ]
  refine wpAnyH_take (i := 15) (oi := { dst := some 118, op := Op.load 25 (Operand.tmp 117), type := 25, pos := "law.go:125", after := _, guard := some (10, true) }) (v := ?vkr15) rfl (by kernel_rfl) (by kernel_rfl) (by kernel_rfl) (fun _ _ _ h => h) (Or.inl ⟨by rfl, ?hykr15⟩) (by assumption) ?restkr15
  case hykr15 => (intro w hSw; (try dsimp only at hSw); go_simp <;> with_reducible rfl)
  try simp only [Act.put, List.setIfInBounds_toArray, List.set_cons_zero, List.set_cons_succ]
  refine wpAnyH_ready (rs := [13]) (by kernel_rfl) (by simp) ?_
  refine AllReadyH.cons (o := { dst := some 116, op := Op.call { callee := Callee.value (Operand.func 25), args := #[Operand.tmp 115], argTypes := #[25] }, type := 3, pos := "law.go:125", after := _, guard := some (10, true) }) rfl (fun K hK => ?_) AllReadyH.nil
  go_simp
  refine (qUA _ _ (hstA.keep G5).store).mono ?_
  rintro x x6 ⟨rfl, hx6⟩
  have G6 := G5.trans (hx6.mono G5.size)
  try go_wp2_with fail
  refine hK.out _ _ ?_ (fun hHeldkr13 => ?_)
  · exact ⟨(G6.cell (p := ⟨w.heap.size, 0, none⟩) kC_lt).trans kC_0, (G6.cell (p := ⟨w.heap.size, 1, none⟩) kC_lt).trans kC_1, (G6.cell (p := ⟨w4.heap.size, 0, none⟩) kA_lt).trans kA_0, (G6.cell (p := ⟨w4.heap.size, 1, none⟩) kA_lt).trans kA_1, (G6.cell (p := ⟨w5.heap.size, 0, none⟩) kB_lt).trans kB_0, (G6.cell (p := ⟨w5.heap.size, 1, none⟩) kB_lt).trans kB_1, (G6.cell (p := ⟨w6.heap.size, 0, none⟩) kD_lt).trans kD_0, (G6.cell (p := ⟨w6.heap.size, 1, none⟩) kD_lt).trans kD_1⟩
  clear hK K hHeldkr7
  try simp only [Act.put, List.setIfInBounds_toArray, List.set_cons_zero, List.set_cons_succ]
  refine wpAnyH_ready (rs := [16]) (by kernel_rfl) (by simp) ?_
  refine AllReadyH.cons (o := { dst := some 119, op := Op.call { callee := Callee.value (Operand.func 25), args := #[Operand.tmp 118], argTypes := #[25] }, type := 3, pos := "law.go:125", after := _, guard := some (10, true) }) rfl (fun K hK => ?_) AllReadyH.nil
  go_simp
  refine (qUH _ _ (hst0.keep G6).store).mono ?_
  rintro x x7 ⟨rfl, hx7⟩
  have G7 := G6.trans (hx7.mono G6.size)
  try go_wp2_with fail
  refine hK.out _ _ ?_ (fun hHeldkr16 => ?_)
  · exact ⟨(G7.cell (p := ⟨w.heap.size, 0, none⟩) kC_lt).trans kC_0, (G7.cell (p := ⟨w.heap.size, 1, none⟩) kC_lt).trans kC_1, (G7.cell (p := ⟨w4.heap.size, 0, none⟩) kA_lt).trans kA_0, (G7.cell (p := ⟨w4.heap.size, 1, none⟩) kA_lt).trans kA_1, (G7.cell (p := ⟨w5.heap.size, 0, none⟩) kB_lt).trans kB_0, (G7.cell (p := ⟨w5.heap.size, 1, none⟩) kB_lt).trans kB_1, (G7.cell (p := ⟨w6.heap.size, 0, none⟩) kD_lt).trans kD_0, (G7.cell (p := ⟨w6.heap.size, 1, none⟩) kD_lt).trans kD_1⟩
  clear hK K hHeldkr13
  try simp only [Act.put, List.setIfInBounds_toArray, List.set_cons_zero, List.set_cons_succ]
  refine wpAnyH_take (i := 17) (oi := { dst := some 120, op := Op.binOp BinOp.add 3 (Operand.tmp 119) (Operand.const (Value.int IntKind.i64 1)) 3, type := 3, pos := "law.go:125", after := _, guard := some (10, true) }) (v := ?vkr17) rfl (by kernel_rfl) (by kernel_rfl) (by kernel_rfl) (fun _ _ _ h => h) (Or.inl ⟨by rfl, ?hykr17⟩) (by assumption) ?restkr17
  case hykr17 => (intro w hSw; (try dsimp only at hSw); go_simp <;> with_reducible rfl)
  try simp only [Act.put, List.setIfInBounds_toArray, List.set_cons_zero, List.set_cons_succ]
  refine wpAnyH_take (i := 18) (oi := { dst := some 121, op := Op.binOp BinOp.leq 3 (Operand.tmp 116) (Operand.tmp 120) 3, type := 4, pos := "law.go:125", after := _, guard := some (10, true) }) (v := .bool true) rfl (by kernel_rfl) (by kernel_rfl) (by kernel_rfl) (fun _ _ _ h => h) (Or.inl ⟨by rfl, ?hykr18⟩) (by assumption) ?restkr18
  case hykr18 => (intro w hSw; (try dsimp only at hSw); go_simp <;> first | done | with_reducible rfl | omega | (simp; done) | (simp; omega) | (simp [*]; done) | (simp [*]; omega) | exact decide_eq_false (by omega) | exact decide_eq_true (by omega))
  try simp only [Act.put, List.setIfInBounds_toArray, List.set_cons_zero, List.set_cons_succ]
  refine wpAnyH_take (i := 19) (oi := { dst := some 122, op := Op.pick (Operand.tmp 113) (Operand.tmp 121) (Operand.const (Value.bool false)), type := 4, pos := "law.go:125", after := _, guard := none }) (v := ?vkr19) rfl (by kernel_rfl) (by kernel_rfl) (by kernel_rfl) (fun _ _ _ h => h) (Or.inl ⟨by rfl, ?hykr19⟩) (by assumption) ?restkr19
  case hykr19 => (intro w hSw; (try dsimp only at hSw); go_simp <;> with_reducible rfl)
  try simp only [Act.put, List.setIfInBounds_toArray, List.set_cons_zero, List.set_cons_succ]
  refine wpAnyH_take (i := 20) (oi := { dst := some 8, op := Op.assign (Operand.tmp 122), type := 4, pos := "law.go:125", after := _, guard := none }) (v := ?vkr20) rfl (by kernel_rfl) (by kernel_rfl) (by kernel_rfl) (fun _ _ _ h => h) (Or.inl ⟨by rfl, ?hykr20⟩) (by assumption) ?restkr20
  case hykr20 => (intro w hSw; (try dsimp only at hSw); go_simp <;> with_reducible rfl)
  try simp only [Act.put, List.setIfInBounds_toArray, List.set_cons_zero, List.set_cons_succ]
  refine wpAnyH_done (by kernel_rfl) ?_ _
  go_wp2
  go_ret
  exact ⟨rfl, hY11.trans (G7.mono hY11.size)⟩

set_option maxRecDepth 100000 in
set_option maxHeartbeats 4000000 in
theorem tableStays_AoD (w : World) (A0 B0 : Option Addr) (c0 e0 : Nat) (cap : Int) (ps : List Pg) (ts : List (List Int)) (hst0 : HpV w (.agg #[.int .i64 cap, .slice A0 ps.length c0, .slice B0 ts.length e0]) cap ps ts) (t a v : Int) (hF : fewH ps ts = true) (hM : mayH cap ps ts = true) (ln : ps.length ≤ 20) (lm : ts.length ≤ 5) (ll : ∀ t ∈ ts, t.length ≤ 4) (eA nB eB nD eD uH uA uD : Int) (psA psB psD : List Pg) (tsA tsB tsD : List (List Int)) (hA : writeH cap ps ts t a v = (eA, psA, tsA)) (hB : forkH cap ps ts t = (nB, eB, psB, tsB)) (hD : dropH cap ps ts t = (nD, eD, psD, tsD)) (lA : psA.length ≤ 900) (lB : psB.length ≤ 900) (lD : psD.length ≤ 900) (mA : mayH cap psA tsA = true) (mB : mayH cap psB tsB = true) (mD : mayH cap psD tsD = true) (vH : usedL cap ps = uH) (vA : usedL cap psA = uA) (vB : usedL cap psB = uH) (vD : usedL cap psD = uD) (b0 : 0 ≤ uH) (b1 : uH ≤ 20) (b2 : uD ≤ uH) (b3 : uA ≤ uH + 1) (hA1 : (eA != 0) = true) (hA2 : sameH cap psA tsA cap ps ts = true) (hB1 : eB = 0) (hD1 : (eD != 0) = true) (hD2 : sameH cap psD tsD cap ps ts = true)  :
    Calls Try.prog 8 #[.agg #[.int .i64 cap, .slice A0 ps.length c0, .slice B0 ts.length e0], .int .i64 t, .int .i64 a, .int .i64 v] w fun e w' => e = .returned (.bool true) ∧ Below w.heap.size w w' := by
  have qF := fun v W h => few_any v cap ps ts W h
  rw [hF] at qF
  have qM := fun v W h => tmay_any v cap ps ts W h (by omega)
  rw [hM] at qM
  have qA := fun x W h => tWrite_any x cap ps ts t a v W h (by omega) (by omega) (fun t ht => by have := ll t ht; omega)
  rw [hA] at qA
  have qB := fun x W h => Fork_any x cap ps ts t W h (by omega) (by omega) (fun t ht => by have := ll t ht; omega)
  rw [hB] at qB
  have qD := fun x W h => Drop_any x cap ps ts t W h (by omega) (by omega) (fun t ht => by have := ll t ht; omega)
  rw [hD] at qD
  have qMA := fun x W h => tmay_any x cap psA tsA W h (by omega)
  rw [mA] at qMA
  have qUA := fun x W h => Used_any x cap psA W h
  rw [vA] at qUA
  have qMB := fun x W h => tmay_any x cap psB tsB W h (by omega)
  rw [mB] at qMB
  have qUB := fun x W h => Used_any x cap psB W h
  rw [vB] at qUB
  have qMD := fun x W h => tmay_any x cap psD tsD W h (by omega)
  rw [mD] at qMD
  have qUD := fun x W h => Used_any x cap psD W h
  rw [vD] at qUD
  have qUH := fun x W h => Used_any x cap ps W h
  rw [vH] at qUH
  have hwr : IntKind.i64.wrap (uH + 1) = uH + 1 := by rw [IntKind.wrap_i64]; omega
  clear hF hM hA hB hD ll mA mB mD vH vA vB vD
  have qSA := fun x y W h g => tsame_any x y cap psA tsA cap ps ts W h g
  rw [hA2] at qSA
  clear hA2
  subst hB1
  have qSD := fun x y W h g => tsame_any x y cap psD tsD cap ps ts W h g
  rw [hD2] at qSD
  clear hD2
  go_enter Try.func8, Try.ntmps8
  have hA0 := ((Below.refl w.heap.size w).alloc (Nat.le_refl _) (.cells #[.int .i64 cap, .slice A0 ps.length c0, .slice B0 ts.length e0] 28))
  replace hst0 := hst0.keep hA0
  have kC := Blk.new_ w 28 #[.int .i64 cap, .slice A0 ps.length c0, .slice B0 ts.length e0] (w.heap.size) (by simp)
  have hZ0 : Below w.heap.size w _ := hA0
  go_wp2_with fail
  refine (tawake_any _).mono ?_
  rintro e w1 ⟨rfl, hb1⟩
  obtain ⟨hc1, hf1⟩ := bcell hb1
  have hz1 := hb1.size
  simp at hz1
  replace hst0 := hst0.keep hb1
  replace kC := kC.keep hb1
  have hY1 := hZ0.trans (hb1.mono hZ0.size)
  have zkC_1 : w.heap.size < w1.heap.size := by omega
  have hZ1 : Below w.heap.size w w1 := hY1
  go_wp2_with fail
  refine (qF _ _ hst0).mono ?_
  rintro e w2 ⟨rfl, hb2⟩
  obtain ⟨hc2, hf2⟩ := bcell hb2
  have hz2 := hb2.size
  replace hst0 := hst0.keep hb2
  replace kC := kC.keep hb2
  have hY2 := hZ1.trans (hb2.mono hZ1.size)
  have zkC_2 : w.heap.size < w2.heap.size := by omega
  have hZ2 : Below w.heap.size w w2 := hY2
  go_wp2_with fail
  refine (qM _ _ hst0).mono ?_
  rintro e w3 ⟨rfl, hb3⟩
  obtain ⟨hc3, hf3⟩ := bcell hb3
  have hz3 := hb3.size
  replace hst0 := hst0.keep hb3
  replace kC := kC.keep hb3
  have hY3 := hZ2.trans (hb3.mono hZ2.size)
  have zkC_3 : w.heap.size < w3.heap.size := by omega
  have hZ3 : Below w.heap.size w w3 := hY3
  go_wp2_with fail
  refine (qA _ _ hst0).mono ?_
  rintro e w4 ⟨v4, rfl, hstA, hb4⟩
  obtain ⟨hc4, hf4⟩ := bcell hb4
  have hz4 := hb4.size
  replace hst0 := hst0.keep hb4
  replace kC := kC.keep hb4
  have hY4 := hZ3.trans (hb4.mono hZ3.size)
  have zkC_4 : w.heap.size < w4.heap.size := by omega
  replace hstA := hstA.to
  try dsimp only at hstA
  obtain ⟨AA, cA, BA, eA, rfl, hstA⟩ := hstA.form
  have hA4 := ((Below.refl w4.heap.size w4).alloc (Nat.le_refl _) (.cells #[.int .i64 cap, .slice AA psA.length cA, .slice BA tsA.length eA] 28))
  replace hst0 := hst0.keep hA4
  replace kC := kC.keep hA4
  replace hstA := hstA.keep hA4
  have kA := Blk.new_ w4 28 #[.int .i64 cap, .slice AA psA.length cA, .slice BA tsA.length eA] (w4.heap.size) (by simp)
  have hZ4 : Below w.heap.size w _ := hY4.trans (hA4.mono hY4.size)
  go_wp2_with fail
  refine (qB _ _ hst0).mono ?_
  rintro e w5 ⟨v5, rfl, hstB, hb5⟩
  obtain ⟨hc5, hf5⟩ := bcell hb5
  have hz5 := hb5.size
  simp at hz5
  replace hst0 := hst0.keep hb5
  replace kC := kC.keep hb5
  replace hstA := hstA.keep hb5
  replace kA := kA.keep hb5
  have hY5 := hZ4.trans (hb5.mono hZ4.size)
  have zkC_5 : w.heap.size < w5.heap.size := by omega
  have zkA_5 : w4.heap.size < w5.heap.size := by omega
  replace hstB := hstB.to
  try dsimp only at hstB
  obtain ⟨AB, cB, BB, eB, rfl, hstB⟩ := hstB.form
  have hA5 := ((Below.refl w5.heap.size w5).alloc (Nat.le_refl _) (.cells #[.int .i64 cap, .slice AB psB.length cB, .slice BB tsB.length eB] 28))
  replace hst0 := hst0.keep hA5
  replace kC := kC.keep hA5
  replace hstA := hstA.keep hA5
  replace kA := kA.keep hA5
  replace hstB := hstB.keep hA5
  have kB := Blk.new_ w5 28 #[.int .i64 cap, .slice AB psB.length cB, .slice BB tsB.length eB] (w5.heap.size) (by simp)
  have hZ5 : Below w.heap.size w _ := hY5.trans (hA5.mono hY5.size)
  go_wp2_with fail
  refine (qD _ _ hst0).mono ?_
  rintro e w6 ⟨v6, rfl, hstD, hb6⟩
  obtain ⟨hc6, hf6⟩ := bcell hb6
  have hz6 := hb6.size
  simp at hz6
  replace hst0 := hst0.keep hb6
  replace kC := kC.keep hb6
  replace hstA := hstA.keep hb6
  replace kA := kA.keep hb6
  replace hstB := hstB.keep hb6
  replace kB := kB.keep hb6
  have hY6 := hZ5.trans (hb6.mono hZ5.size)
  have zkC_6 : w.heap.size < w6.heap.size := by omega
  have zkA_6 : w4.heap.size < w6.heap.size := by omega
  have zkB_6 : w5.heap.size < w6.heap.size := by omega
  replace hstD := hstD.to
  try dsimp only at hstD
  obtain ⟨AD, cD, BD, eD, rfl, hstD⟩ := hstD.form
  have hA6 := ((Below.refl w6.heap.size w6).alloc (Nat.le_refl _) (.cells #[.int .i64 cap, .slice AD psD.length cD, .slice BD tsD.length eD] 28))
  replace hst0 := hst0.keep hA6
  replace kC := kC.keep hA6
  replace hstA := hstA.keep hA6
  replace kA := kA.keep hA6
  replace hstB := hstB.keep hA6
  replace kB := kB.keep hA6
  replace hstD := hstD.keep hA6
  have kD := Blk.new_ w6 28 #[.int .i64 cap, .slice AD psD.length cD, .slice BD tsD.length eD] (w6.heap.size) (by simp)
  have hZ6 : Below w.heap.size w _ := hY6.trans (hA6.mono hY6.size)
  go_wp2_with fail
  refine (qSA _ _ _ hstA hst0).mono ?_
  rintro e w7 ⟨rfl, hb7⟩
  obtain ⟨hc7, hf7⟩ := bcell hb7
  have hz7 := hb7.size
  simp at hz7
  replace hst0 := hst0.keep hb7
  replace kC := kC.keep hb7
  replace hstA := hstA.keep hb7
  replace kA := kA.keep hb7
  replace hstB := hstB.keep hb7
  replace kB := kB.keep hb7
  replace hstD := hstD.keep hb7
  replace kD := kD.keep hb7
  have hY7 := hZ6.trans (hb7.mono hZ6.size)
  have zkC_7 : w.heap.size < w7.heap.size := by omega
  have zkA_7 : w4.heap.size < w7.heap.size := by omega
  have zkB_7 : w5.heap.size < w7.heap.size := by omega
  have zkD_7 : w6.heap.size < w7.heap.size := by omega
  have hZ7 : Below w.heap.size w w7 := hY7
  go_wp2_with fail
  refine (qSD _ _ _ hstD hst0).mono ?_
  rintro e w8 ⟨rfl, hb8⟩
  obtain ⟨hc8, hf8⟩ := bcell hb8
  have hz8 := hb8.size
  replace hst0 := hst0.keep hb8
  replace kC := kC.keep hb8
  replace hstA := hstA.keep hb8
  replace kA := kA.keep hb8
  replace hstB := hstB.keep hb8
  replace kB := kB.keep hb8
  replace hstD := hstD.keep hb8
  replace kD := kD.keep hb8
  have hY8 := hZ7.trans (hb8.mono hZ7.size)
  have zkC_8 : w.heap.size < w8.heap.size := by omega
  have zkA_8 : w4.heap.size < w8.heap.size := by omega
  have zkB_8 : w5.heap.size < w8.heap.size := by omega
  have zkD_8 : w6.heap.size < w8.heap.size := by omega
  have hZ8 : Below w.heap.size w w8 := hY8
  go_wp2_with fail
  refine (qMA _ _ hstA).mono ?_
  rintro e w9 ⟨rfl, hb9⟩
  obtain ⟨hc9, hf9⟩ := bcell hb9
  have hz9 := hb9.size
  replace hst0 := hst0.keep hb9
  replace kC := kC.keep hb9
  replace hstA := hstA.keep hb9
  replace kA := kA.keep hb9
  replace hstB := hstB.keep hb9
  replace kB := kB.keep hb9
  replace hstD := hstD.keep hb9
  replace kD := kD.keep hb9
  have hY9 := hZ8.trans (hb9.mono hZ8.size)
  have zkC_9 : w.heap.size < w9.heap.size := by omega
  have zkA_9 : w4.heap.size < w9.heap.size := by omega
  have zkB_9 : w5.heap.size < w9.heap.size := by omega
  have zkD_9 : w6.heap.size < w9.heap.size := by omega
  have hZ9 : Below w.heap.size w w9 := hY9
  go_wp2_with fail
  refine (qMB _ _ hstB).mono ?_
  rintro e w10 ⟨rfl, hb10⟩
  obtain ⟨hc10, hf10⟩ := bcell hb10
  have hz10 := hb10.size
  replace hst0 := hst0.keep hb10
  replace kC := kC.keep hb10
  replace hstA := hstA.keep hb10
  replace kA := kA.keep hb10
  replace hstB := hstB.keep hb10
  replace kB := kB.keep hb10
  replace hstD := hstD.keep hb10
  replace kD := kD.keep hb10
  have hY10 := hZ9.trans (hb10.mono hZ9.size)
  have zkC_10 : w.heap.size < w10.heap.size := by omega
  have zkA_10 : w4.heap.size < w10.heap.size := by omega
  have zkB_10 : w5.heap.size < w10.heap.size := by omega
  have zkD_10 : w6.heap.size < w10.heap.size := by omega
  have hZ10 : Below w.heap.size w w10 := hY10
  go_wp2_with fail
  refine (qMD _ _ hstD).mono ?_
  rintro e w11 ⟨rfl, hb11⟩
  obtain ⟨hc11, hf11⟩ := bcell hb11
  have hz11 := hb11.size
  replace hst0 := hst0.keep hb11
  replace kC := kC.keep hb11
  replace hstA := hstA.keep hb11
  replace kA := kA.keep hb11
  replace hstB := hstB.keep hb11
  replace kB := kB.keep hb11
  replace hstD := hstD.keep hb11
  replace kD := kD.keep hb11
  have hY11 := hZ10.trans (hb11.mono hZ10.size)
  have zkC_11 : w.heap.size < w11.heap.size := by omega
  have zkA_11 : w4.heap.size < w11.heap.size := by omega
  have zkB_11 : w5.heap.size < w11.heap.size := by omega
  have zkD_11 : w6.heap.size < w11.heap.size := by omega
  go_wp2_with fail
  have kC_0 : w11.cell? ⟨w.heap.size, 0, none⟩ = some (.int .i64 cap) := by rw [kC.cell]; rfl
  have kC_1 : w11.cell? ⟨w.heap.size, 1, none⟩ = some (.slice A0 ps.length c0) := by rw [kC.cell]; rfl
  have kC_lt := kC.lt
  have kA_0 : w11.cell? ⟨w4.heap.size, 0, none⟩ = some (.int .i64 cap) := by rw [kA.cell]; rfl
  have kA_1 : w11.cell? ⟨w4.heap.size, 1, none⟩ = some (.slice AA psA.length cA) := by rw [kA.cell]; rfl
  have kA_lt := kA.lt
  have kB_0 : w11.cell? ⟨w5.heap.size, 0, none⟩ = some (.int .i64 cap) := by rw [kB.cell]; rfl
  have kB_1 : w11.cell? ⟨w5.heap.size, 1, none⟩ = some (.slice AB psB.length cB) := by rw [kB.cell]; rfl
  have kB_lt := kB.lt
  have kD_0 : w11.cell? ⟨w6.heap.size, 0, none⟩ = some (.int .i64 cap) := by rw [kD.cell]; rfl
  have kD_1 : w11.cell? ⟨w6.heap.size, 1, none⟩ = some (.slice AD psD.length cD) := by rw [kD.cell]; rfl
  have kD_lt := kD.lt
  have G0 := (Below.refl w11.heap.size w11).drew
  refine wp_region_held_drew (S := fun w' => w'.cell? ⟨w.heap.size, 0, none⟩ = some (.int .i64 cap) ∧ w'.cell? ⟨w.heap.size, 1, none⟩ = some (.slice A0 ps.length c0) ∧ w'.cell? ⟨w4.heap.size, 0, none⟩ = some (.int .i64 cap) ∧ w'.cell? ⟨w4.heap.size, 1, none⟩ = some (.slice AA psA.length cA) ∧ w'.cell? ⟨w5.heap.size, 0, none⟩ = some (.int .i64 cap) ∧ w'.cell? ⟨w5.heap.size, 1, none⟩ = some (.slice AB psB.length cB) ∧ w'.cell? ⟨w6.heap.size, 0, none⟩ = some (.int .i64 cap) ∧ w'.cell? ⟨w6.heap.size, 1, none⟩ = some (.slice AD psD.length cD)) (by kernel_rfl) ?_ (fun hHeldlr => ?_)
  · exact ⟨(G0.cell (p := ⟨w.heap.size, 0, none⟩) kC_lt).trans kC_0, (G0.cell (p := ⟨w.heap.size, 1, none⟩) kC_lt).trans kC_1, (G0.cell (p := ⟨w4.heap.size, 0, none⟩) kA_lt).trans kA_0, (G0.cell (p := ⟨w4.heap.size, 1, none⟩) kA_lt).trans kA_1, (G0.cell (p := ⟨w5.heap.size, 0, none⟩) kB_lt).trans kB_0, (G0.cell (p := ⟨w5.heap.size, 1, none⟩) kB_lt).trans kB_1, (G0.cell (p := ⟨w6.heap.size, 0, none⟩) kD_lt).trans kD_0, (G0.cell (p := ⟨w6.heap.size, 1, none⟩) kD_lt).trans kD_1⟩
  refine wpAnyH_take (i := 0) (oi := { dst := some 96, op := Op.fieldAddr 28 (Operand.tmp 16) 0, type := 0, pos := "law.go:124", after := _, guard := none }) (v := ?vlr0) rfl (by kernel_rfl) (by kernel_rfl) (by kernel_rfl) (fun _ _ _ h => h) (Or.inl ⟨by rfl, ?hylr0⟩) (by assumption) ?restlr0
  case hylr0 => (intro w hSw; (try dsimp only at hSw); go_simp <;> with_reducible rfl)
  try simp only [Act.put, List.setIfInBounds_toArray, List.set_cons_zero, List.set_cons_succ]
  refine wpAnyH_take (i := 1) (oi := { dst := some 97, op := Op.load 25 (Operand.tmp 96), type := 25, pos := "law.go:124", after := _, guard := none }) (v := ?vlr1) rfl (by kernel_rfl) (by kernel_rfl) (by kernel_rfl) (fun _ _ _ h => h) (Or.inl ⟨by rfl, ?hylr1⟩) (by assumption) ?restlr1
  case hylr1 => (intro w hSw; (try dsimp only at hSw); go_simp <;> with_reducible rfl)
  try simp only [Act.put, List.setIfInBounds_toArray, List.set_cons_zero, List.set_cons_succ]
  refine wpAnyH_take (i := 3) (oi := { dst := some 99, op := Op.fieldAddr 28 (Operand.tmp 4) 0, type := 0, pos := "law.go:124", after := _, guard := none }) (v := ?vlr3) rfl (by kernel_rfl) (by kernel_rfl) (by kernel_rfl) (fun _ _ _ h => h) (Or.inl ⟨by rfl, ?hylr3⟩) (by assumption) ?restlr3
  case hylr3 => (intro w hSw; (try dsimp only at hSw); go_simp <;> with_reducible rfl)
  try simp only [Act.put, List.setIfInBounds_toArray, List.set_cons_zero, List.set_cons_succ]
  refine wpAnyH_take (i := 4) (oi := { dst := some 100, op := Op.load 25 (Operand.tmp 99), type := 25, pos := "law.go:124", after := _, guard := none }) (v := ?vlr4) rfl (by kernel_rfl) (by kernel_rfl) (by kernel_rfl) (fun _ _ _ h => h) (Or.inl ⟨by rfl, ?hylr4⟩) (by assumption) ?restlr4
  case hylr4 => (intro w hSw; (try dsimp only at hSw); go_simp <;> with_reducible rfl)
  try simp only [Act.put, List.setIfInBounds_toArray, List.set_cons_zero, List.set_cons_succ]
  refine wpAnyH_ready (rs := [2]) (by kernel_rfl) (by simp) ?_
  refine AllReadyH.cons (o := { dst := some 98, op := Op.call { callee := Callee.value (Operand.func 25), args := #[Operand.tmp 97], argTypes := #[25] }, type := 3, pos := "law.go:124", after := _, guard := none }) rfl (fun K hK => ?_) AllReadyH.nil
  go_simp
  refine (qUD _ _ (hstD.keep G0).store).mono ?_
  rintro x x1 ⟨rfl, hx1⟩
  have G1 := G0.trans (hx1.mono G0.size)
  try go_wp2_with fail
  refine hK.out _ _ ?_ (fun hHeldlr2 => ?_)
  · exact ⟨(G1.cell (p := ⟨w.heap.size, 0, none⟩) kC_lt).trans kC_0, (G1.cell (p := ⟨w.heap.size, 1, none⟩) kC_lt).trans kC_1, (G1.cell (p := ⟨w4.heap.size, 0, none⟩) kA_lt).trans kA_0, (G1.cell (p := ⟨w4.heap.size, 1, none⟩) kA_lt).trans kA_1, (G1.cell (p := ⟨w5.heap.size, 0, none⟩) kB_lt).trans kB_0, (G1.cell (p := ⟨w5.heap.size, 1, none⟩) kB_lt).trans kB_1, (G1.cell (p := ⟨w6.heap.size, 0, none⟩) kD_lt).trans kD_0, (G1.cell (p := ⟨w6.heap.size, 1, none⟩) kD_lt).trans kD_1⟩
  clear hK K hHeldlr
  try simp only [Act.put, List.setIfInBounds_toArray, List.set_cons_zero, List.set_cons_succ]
  refine wpAnyH_ready (rs := [5]) (by kernel_rfl) (by simp) ?_
  refine AllReadyH.cons (o := { dst := some 101, op := Op.call { callee := Callee.value (Operand.func 25), args := #[Operand.tmp 100], argTypes := #[25] }, type := 3, pos := "law.go:124", after := _, guard := none }) rfl (fun K hK => ?_) AllReadyH.nil
  go_simp
  refine (qUH _ _ (hst0.keep G1).store).mono ?_
  rintro x x2 ⟨rfl, hx2⟩
  have G2 := G1.trans (hx2.mono G1.size)
  try go_wp2_with fail
  refine hK.out _ _ ?_ (fun hHeldlr5 => ?_)
  · exact ⟨(G2.cell (p := ⟨w.heap.size, 0, none⟩) kC_lt).trans kC_0, (G2.cell (p := ⟨w.heap.size, 1, none⟩) kC_lt).trans kC_1, (G2.cell (p := ⟨w4.heap.size, 0, none⟩) kA_lt).trans kA_0, (G2.cell (p := ⟨w4.heap.size, 1, none⟩) kA_lt).trans kA_1, (G2.cell (p := ⟨w5.heap.size, 0, none⟩) kB_lt).trans kB_0, (G2.cell (p := ⟨w5.heap.size, 1, none⟩) kB_lt).trans kB_1, (G2.cell (p := ⟨w6.heap.size, 0, none⟩) kD_lt).trans kD_0, (G2.cell (p := ⟨w6.heap.size, 1, none⟩) kD_lt).trans kD_1⟩
  clear hK K hHeldlr2
  try simp only [Act.put, List.setIfInBounds_toArray, List.set_cons_zero, List.set_cons_succ]
  refine wpAnyH_take (i := 6) (oi := { dst := some 102, op := Op.binOp BinOp.leq 3 (Operand.tmp 98) (Operand.tmp 101) 3, type := 4, pos := "law.go:124", after := _, guard := none }) (v := .bool true) rfl (by kernel_rfl) (by kernel_rfl) (by kernel_rfl) (fun _ _ _ h => h) (Or.inl ⟨by rfl, ?hylr6⟩) (by assumption) ?restlr6
  case hylr6 => (intro w hSw; (try dsimp only at hSw); go_simp <;> first | done | with_reducible rfl | omega | (simp; done) | (simp; omega) | (simp [*]; done) | (simp [*]; omega) | exact decide_eq_false (by omega) | exact decide_eq_true (by omega))
  try simp only [Act.put, List.setIfInBounds_toArray, List.set_cons_zero, List.set_cons_succ]
  refine wpAnyH_take (i := 7) (oi := { dst := some 18, op := Op.assign (Operand.tmp 102), type := 4, pos := "law.go:124", after := _, guard := none }) (v := ?vlr7) rfl (by kernel_rfl) (by kernel_rfl) (by kernel_rfl) (fun _ _ _ h => h) (Or.inl ⟨by rfl, ?hylr7⟩) (by assumption) ?restlr7
  case hylr7 => (intro w hSw; (try dsimp only at hSw); go_simp <;> with_reducible rfl)
  try simp only [Act.put, List.setIfInBounds_toArray, List.set_cons_zero, List.set_cons_succ]
  refine wpAnyH_done (by kernel_rfl) ?_ _
  go_upto_region 13 with fail
  have G3 := G2.drew
  refine wp_region_held_drew (S := fun w' => w'.cell? ⟨w.heap.size, 0, none⟩ = some (.int .i64 cap) ∧ w'.cell? ⟨w.heap.size, 1, none⟩ = some (.slice A0 ps.length c0) ∧ w'.cell? ⟨w4.heap.size, 0, none⟩ = some (.int .i64 cap) ∧ w'.cell? ⟨w4.heap.size, 1, none⟩ = some (.slice AA psA.length cA) ∧ w'.cell? ⟨w5.heap.size, 0, none⟩ = some (.int .i64 cap) ∧ w'.cell? ⟨w5.heap.size, 1, none⟩ = some (.slice AB psB.length cB) ∧ w'.cell? ⟨w6.heap.size, 0, none⟩ = some (.int .i64 cap) ∧ w'.cell? ⟨w6.heap.size, 1, none⟩ = some (.slice AD psD.length cD)) (by kernel_rfl) ?_ (fun hHeldmr => ?_)
  · exact ⟨(G3.cell (p := ⟨w.heap.size, 0, none⟩) kC_lt).trans kC_0, (G3.cell (p := ⟨w.heap.size, 1, none⟩) kC_lt).trans kC_1, (G3.cell (p := ⟨w4.heap.size, 0, none⟩) kA_lt).trans kA_0, (G3.cell (p := ⟨w4.heap.size, 1, none⟩) kA_lt).trans kA_1, (G3.cell (p := ⟨w5.heap.size, 0, none⟩) kB_lt).trans kB_0, (G3.cell (p := ⟨w5.heap.size, 1, none⟩) kB_lt).trans kB_1, (G3.cell (p := ⟨w6.heap.size, 0, none⟩) kD_lt).trans kD_0, (G3.cell (p := ⟨w6.heap.size, 1, none⟩) kD_lt).trans kD_1⟩
  refine wpAnyH_take (i := 0) (oi := { dst := some 103, op := Op.move (Operand.tmp 18), type := 4, pos := "law.go:125", after := _, guard := none }) (v := ?vmr0) rfl (by kernel_rfl) (by kernel_rfl) (by kernel_rfl) (fun _ _ _ h => h) (Or.inl ⟨by rfl, ?hymr0⟩) (by assumption) ?restmr0
  case hymr0 => (intro w hSw; (try dsimp only at hSw); go_simp <;> with_reducible rfl)
  try simp only [Act.put, List.setIfInBounds_toArray, List.set_cons_zero, List.set_cons_succ]
  refine wpAnyH_take (i := 1) (oi := { dst := some 104, op := Op.move (Operand.tmp 103), type := 4, pos := "law.go:125", after := _, guard := none }) (v := ?vmr1) rfl (by kernel_rfl) (by kernel_rfl) (by kernel_rfl) (fun _ _ _ h => h) (Or.inl ⟨by rfl, ?hymr1⟩) (by assumption) ?restmr1
  case hymr1 => (intro w hSw; (try dsimp only at hSw); go_simp <;> with_reducible rfl)
  try simp only [Act.put, List.setIfInBounds_toArray, List.set_cons_zero, List.set_cons_succ]
  refine wpAnyH_take (i := 2) (oi := { dst := some 105, op := Op.fieldAddr 28 (Operand.tmp 13) 0, type := 0, pos := "law.go:125", after := _, guard := some (1, true) }) (v := ?vmr2) rfl (by kernel_rfl) (by kernel_rfl) (by kernel_rfl) (fun _ _ _ h => h) (Or.inl ⟨by rfl, ?hymr2⟩) (by assumption) ?restmr2
  case hymr2 => (intro w hSw; (try dsimp only at hSw); go_simp <;> with_reducible rfl)
  try simp only [Act.put, List.setIfInBounds_toArray, List.set_cons_zero, List.set_cons_succ]
  refine wpAnyH_take (i := 3) (oi := { dst := some 106, op := Op.load 25 (Operand.tmp 105), type := 25, pos := "law.go:125", after := _, guard := some (1, true) }) (v := ?vmr3) rfl (by kernel_rfl) (by kernel_rfl) (by kernel_rfl) (fun _ _ _ h => h) (Or.inl ⟨by rfl, ?hymr3⟩) (by assumption) ?restmr3
  case hymr3 => (intro w hSw; (try dsimp only at hSw); go_simp <;> with_reducible rfl)
  try simp only [Act.put, List.setIfInBounds_toArray, List.set_cons_zero, List.set_cons_succ]
  refine wpAnyH_take (i := 5) (oi := { dst := some 108, op := Op.fieldAddr 28 (Operand.tmp 4) 0, type := 0, pos := "law.go:125", after := _, guard := some (1, true) }) (v := ?vmr5) rfl (by kernel_rfl) (by kernel_rfl) (by kernel_rfl) (fun _ _ _ h => h) (Or.inl ⟨by rfl, ?hymr5⟩) (by assumption) ?restmr5
  case hymr5 => (intro w hSw; (try dsimp only at hSw); go_simp <;> with_reducible rfl)
  try simp only [Act.put, List.setIfInBounds_toArray, List.set_cons_zero, List.set_cons_succ]
  refine wpAnyH_take (i := 6) (oi := { dst := some 109, op := Op.load 25 (Operand.tmp 108), type := 25, pos := "law.go:125", after := _, guard := some (1, true) }) (v := ?vmr6) rfl (by kernel_rfl) (by kernel_rfl) (by kernel_rfl) (fun _ _ _ h => h) (Or.inl ⟨by rfl, ?hymr6⟩) (by assumption) ?restmr6
  case hymr6 => (intro w hSw; (try dsimp only at hSw); go_simp <;> with_reducible rfl)
  try simp only [Act.put, List.setIfInBounds_toArray, List.set_cons_zero, List.set_cons_succ]
  refine wpAnyH_ready (rs := [4]) (by kernel_rfl) (by simp) ?_
  refine AllReadyH.cons (o := { dst := some 107, op := Op.call { callee := Callee.value (Operand.func 25), args := #[Operand.tmp 106], argTypes := #[25] }, type := 3, pos := "law.go:125", after := _, guard := some (1, true) }) rfl (fun K hK => ?_) AllReadyH.nil
  go_simp
  refine (qUB _ _ (hstB.keep G3).store).mono ?_
  rintro x x4 ⟨rfl, hx4⟩
  have G4 := G3.trans (hx4.mono G3.size)
  try go_wp2_with fail
  refine hK.out _ _ ?_ (fun hHeldmr4 => ?_)
  · exact ⟨(G4.cell (p := ⟨w.heap.size, 0, none⟩) kC_lt).trans kC_0, (G4.cell (p := ⟨w.heap.size, 1, none⟩) kC_lt).trans kC_1, (G4.cell (p := ⟨w4.heap.size, 0, none⟩) kA_lt).trans kA_0, (G4.cell (p := ⟨w4.heap.size, 1, none⟩) kA_lt).trans kA_1, (G4.cell (p := ⟨w5.heap.size, 0, none⟩) kB_lt).trans kB_0, (G4.cell (p := ⟨w5.heap.size, 1, none⟩) kB_lt).trans kB_1, (G4.cell (p := ⟨w6.heap.size, 0, none⟩) kD_lt).trans kD_0, (G4.cell (p := ⟨w6.heap.size, 1, none⟩) kD_lt).trans kD_1⟩
  clear hK K hHeldmr
  try simp only [Act.put, List.setIfInBounds_toArray, List.set_cons_zero, List.set_cons_succ]
  refine wpAnyH_ready (rs := [7]) (by kernel_rfl) (by simp) ?_
  refine AllReadyH.cons (o := { dst := some 110, op := Op.call { callee := Callee.value (Operand.func 25), args := #[Operand.tmp 109], argTypes := #[25] }, type := 3, pos := "law.go:125", after := _, guard := some (1, true) }) rfl (fun K hK => ?_) AllReadyH.nil
  go_simp
  refine (qUH _ _ (hst0.keep G4).store).mono ?_
  rintro x x5 ⟨rfl, hx5⟩
  have G5 := G4.trans (hx5.mono G4.size)
  try go_wp2_with fail
  refine hK.out _ _ ?_ (fun hHeldmr7 => ?_)
  · exact ⟨(G5.cell (p := ⟨w.heap.size, 0, none⟩) kC_lt).trans kC_0, (G5.cell (p := ⟨w.heap.size, 1, none⟩) kC_lt).trans kC_1, (G5.cell (p := ⟨w4.heap.size, 0, none⟩) kA_lt).trans kA_0, (G5.cell (p := ⟨w4.heap.size, 1, none⟩) kA_lt).trans kA_1, (G5.cell (p := ⟨w5.heap.size, 0, none⟩) kB_lt).trans kB_0, (G5.cell (p := ⟨w5.heap.size, 1, none⟩) kB_lt).trans kB_1, (G5.cell (p := ⟨w6.heap.size, 0, none⟩) kD_lt).trans kD_0, (G5.cell (p := ⟨w6.heap.size, 1, none⟩) kD_lt).trans kD_1⟩
  clear hK K hHeldmr4
  try simp only [Act.put, List.setIfInBounds_toArray, List.set_cons_zero, List.set_cons_succ]
  refine wpAnyH_take (i := 8) (oi := { dst := some 111, op := Op.binOp BinOp.eql 3 (Operand.tmp 107) (Operand.tmp 110) 3, type := 4, pos := "law.go:125", after := _, guard := some (1, true) }) (v := .bool true) rfl (by kernel_rfl) (by kernel_rfl) (by kernel_rfl) (fun _ _ _ h => h) (Or.inl ⟨by rfl, ?hymr8⟩) (by assumption) ?restmr8
  case hymr8 => (intro w hSw; (try dsimp only at hSw); go_simp <;> first | done | with_reducible rfl | omega | (simp; done) | (simp; omega) | (simp [*]; done) | (simp [*]; omega) | exact decide_eq_false (by omega) | exact decide_eq_true (by omega))
  try simp only [Act.put, List.setIfInBounds_toArray, List.set_cons_zero, List.set_cons_succ]
  refine wpAnyH_take (i := 9) (oi := { dst := some 112, op := Op.pick (Operand.tmp 104) (Operand.tmp 111) (Operand.const (Value.bool false)), type := 4, pos := "law.go:125", after := _, guard := none }) (v := ?vmr9) rfl (by kernel_rfl) (by kernel_rfl) (by kernel_rfl) (fun _ _ _ h => h) (Or.inl ⟨by rfl, ?hymr9⟩) (by assumption) ?restmr9
  case hymr9 => (intro w hSw; (try dsimp only at hSw); go_simp <;> with_reducible rfl)
  try simp only [Act.put, List.setIfInBounds_toArray, List.set_cons_zero, List.set_cons_succ]
  refine wpAnyH_take (i := 10) (oi := { dst := some 113, op := Op.move (Operand.tmp 112), type := 4, pos := "law.go:125", after := _, guard := none }) (v := ?vmr10) rfl (by kernel_rfl) (by kernel_rfl) (by kernel_rfl) (fun _ _ _ h => h) (Or.inl ⟨by rfl, ?hymr10⟩) (by assumption) ?restmr10
  case hymr10 => (intro w hSw; (try dsimp only at hSw); go_simp <;> with_reducible rfl)
  try simp only [Act.put, List.setIfInBounds_toArray, List.set_cons_zero, List.set_cons_succ]
  refine wpAnyH_take (i := 11) (oi := { dst := some 114, op := Op.fieldAddr 28 (Operand.tmp 11) 0, type := 0, pos := "law.go:125", after := _, guard := some (10, true) }) (v := ?vmr11) rfl (by kernel_rfl) (by kernel_rfl) (by kernel_rfl) (fun _ _ _ h => h) (Or.inl ⟨by rfl, ?hymr11⟩) (by assumption) ?restmr11
  case hymr11 => (intro w hSw; (try dsimp only at hSw); go_simp <;> with_reducible rfl)
  try simp only [Act.put, List.setIfInBounds_toArray, List.set_cons_zero, List.set_cons_succ]
  refine wpAnyH_take (i := 12) (oi := { dst := some 115, op := Op.load 25 (Operand.tmp 114), type := 25, pos := "law.go:125", after := _, guard := some (10, true) }) (v := ?vmr12) rfl (by kernel_rfl) (by kernel_rfl) (by kernel_rfl) (fun _ _ _ h => h) (Or.inl ⟨by rfl, ?hymr12⟩) (by assumption) ?restmr12
  case hymr12 => (intro w hSw; (try dsimp only at hSw); go_simp <;> with_reducible rfl)
  try simp only [Act.put, List.setIfInBounds_toArray, List.set_cons_zero, List.set_cons_succ]
  refine wpAnyH_take (i := 14) (oi := { dst := some 117, op := Op.fieldAddr 28 (Operand.tmp 4) 0, type := 0, pos := "law.go:125", after := _, guard := some (10, true) }) (v := ?vmr14) rfl (by kernel_rfl) (by kernel_rfl) (by kernel_rfl) (fun _ _ _ h => h) (Or.inl ⟨by rfl, ?hymr14⟩) (by assumption) ?restmr14
  case hymr14 => (intro w hSw; (try dsimp only at hSw); go_simp <;> with_reducible rfl)
  try simp only [Act.put, List.setIfInBounds_toArray, List.set_cons_zero, List.set_cons_succ]
  refine wpAnyH_take (i := 15) (oi := { dst := some 118, op := Op.load 25 (Operand.tmp 117), type := 25, pos := "law.go:125", after := _, guard := some (10, true) }) (v := ?vmr15) rfl (by kernel_rfl) (by kernel_rfl) (by kernel_rfl) (fun _ _ _ h => h) (Or.inl ⟨by rfl, ?hymr15⟩) (by assumption) ?restmr15
  case hymr15 => (intro w hSw; (try dsimp only at hSw); go_simp <;> with_reducible rfl)
  try simp only [Act.put, List.setIfInBounds_toArray, List.set_cons_zero, List.set_cons_succ]
  refine wpAnyH_ready (rs := [13]) (by kernel_rfl) (by simp) ?_
  refine AllReadyH.cons (o := { dst := some 116, op := Op.call { callee := Callee.value (Operand.func 25), args := #[Operand.tmp 115], argTypes := #[25] }, type := 3, pos := "law.go:125", after := _, guard := some (10, true) }) rfl (fun K hK => ?_) AllReadyH.nil
  go_simp
  refine (qUA _ _ (hstA.keep G5).store).mono ?_
  rintro x x6 ⟨rfl, hx6⟩
  have G6 := G5.trans (hx6.mono G5.size)
  try go_wp2_with fail
  refine hK.out _ _ ?_ (fun hHeldmr13 => ?_)
  · exact ⟨(G6.cell (p := ⟨w.heap.size, 0, none⟩) kC_lt).trans kC_0, (G6.cell (p := ⟨w.heap.size, 1, none⟩) kC_lt).trans kC_1, (G6.cell (p := ⟨w4.heap.size, 0, none⟩) kA_lt).trans kA_0, (G6.cell (p := ⟨w4.heap.size, 1, none⟩) kA_lt).trans kA_1, (G6.cell (p := ⟨w5.heap.size, 0, none⟩) kB_lt).trans kB_0, (G6.cell (p := ⟨w5.heap.size, 1, none⟩) kB_lt).trans kB_1, (G6.cell (p := ⟨w6.heap.size, 0, none⟩) kD_lt).trans kD_0, (G6.cell (p := ⟨w6.heap.size, 1, none⟩) kD_lt).trans kD_1⟩
  clear hK K hHeldmr7
  try simp only [Act.put, List.setIfInBounds_toArray, List.set_cons_zero, List.set_cons_succ]
  refine wpAnyH_ready (rs := [16]) (by kernel_rfl) (by simp) ?_
  refine AllReadyH.cons (o := { dst := some 119, op := Op.call { callee := Callee.value (Operand.func 25), args := #[Operand.tmp 118], argTypes := #[25] }, type := 3, pos := "law.go:125", after := _, guard := some (10, true) }) rfl (fun K hK => ?_) AllReadyH.nil
  go_simp
  refine (qUH _ _ (hst0.keep G6).store).mono ?_
  rintro x x7 ⟨rfl, hx7⟩
  have G7 := G6.trans (hx7.mono G6.size)
  try go_wp2_with fail
  refine hK.out _ _ ?_ (fun hHeldmr16 => ?_)
  · exact ⟨(G7.cell (p := ⟨w.heap.size, 0, none⟩) kC_lt).trans kC_0, (G7.cell (p := ⟨w.heap.size, 1, none⟩) kC_lt).trans kC_1, (G7.cell (p := ⟨w4.heap.size, 0, none⟩) kA_lt).trans kA_0, (G7.cell (p := ⟨w4.heap.size, 1, none⟩) kA_lt).trans kA_1, (G7.cell (p := ⟨w5.heap.size, 0, none⟩) kB_lt).trans kB_0, (G7.cell (p := ⟨w5.heap.size, 1, none⟩) kB_lt).trans kB_1, (G7.cell (p := ⟨w6.heap.size, 0, none⟩) kD_lt).trans kD_0, (G7.cell (p := ⟨w6.heap.size, 1, none⟩) kD_lt).trans kD_1⟩
  clear hK K hHeldmr13
  try simp only [Act.put, List.setIfInBounds_toArray, List.set_cons_zero, List.set_cons_succ]
  refine wpAnyH_take (i := 17) (oi := { dst := some 120, op := Op.binOp BinOp.add 3 (Operand.tmp 119) (Operand.const (Value.int IntKind.i64 1)) 3, type := 3, pos := "law.go:125", after := _, guard := some (10, true) }) (v := ?vmr17) rfl (by kernel_rfl) (by kernel_rfl) (by kernel_rfl) (fun _ _ _ h => h) (Or.inl ⟨by rfl, ?hymr17⟩) (by assumption) ?restmr17
  case hymr17 => (intro w hSw; (try dsimp only at hSw); go_simp <;> with_reducible rfl)
  try simp only [Act.put, List.setIfInBounds_toArray, List.set_cons_zero, List.set_cons_succ]
  refine wpAnyH_take (i := 18) (oi := { dst := some 121, op := Op.binOp BinOp.leq 3 (Operand.tmp 116) (Operand.tmp 120) 3, type := 4, pos := "law.go:125", after := _, guard := some (10, true) }) (v := .bool true) rfl (by kernel_rfl) (by kernel_rfl) (by kernel_rfl) (fun _ _ _ h => h) (Or.inl ⟨by rfl, ?hymr18⟩) (by assumption) ?restmr18
  case hymr18 => (intro w hSw; (try dsimp only at hSw); go_simp <;> first | done | with_reducible rfl | omega | (simp; done) | (simp; omega) | (simp [*]; done) | (simp [*]; omega) | exact decide_eq_false (by omega) | exact decide_eq_true (by omega))
  try simp only [Act.put, List.setIfInBounds_toArray, List.set_cons_zero, List.set_cons_succ]
  refine wpAnyH_take (i := 19) (oi := { dst := some 122, op := Op.pick (Operand.tmp 113) (Operand.tmp 121) (Operand.const (Value.bool false)), type := 4, pos := "law.go:125", after := _, guard := none }) (v := ?vmr19) rfl (by kernel_rfl) (by kernel_rfl) (by kernel_rfl) (fun _ _ _ h => h) (Or.inl ⟨by rfl, ?hymr19⟩) (by assumption) ?restmr19
  case hymr19 => (intro w hSw; (try dsimp only at hSw); go_simp <;> with_reducible rfl)
  try simp only [Act.put, List.setIfInBounds_toArray, List.set_cons_zero, List.set_cons_succ]
  refine wpAnyH_take (i := 20) (oi := { dst := some 8, op := Op.assign (Operand.tmp 122), type := 4, pos := "law.go:125", after := _, guard := none }) (v := ?vmr20) rfl (by kernel_rfl) (by kernel_rfl) (by kernel_rfl) (fun _ _ _ h => h) (Or.inl ⟨by rfl, ?hymr20⟩) (by assumption) ?restmr20
  case hymr20 => (intro w hSw; (try dsimp only at hSw); go_simp <;> with_reducible rfl)
  try simp only [Act.put, List.setIfInBounds_toArray, List.set_cons_zero, List.set_cons_succ]
  refine wpAnyH_done (by kernel_rfl) ?_ _
  go_wp2
  go_ret
  exact ⟨rfl, hY11.trans (G7.mono hY11.size)⟩

set_option maxRecDepth 100000 in
set_option maxHeartbeats 4000000 in
theorem tableStays_oBD (w : World) (A0 B0 : Option Addr) (c0 e0 : Nat) (cap : Int) (ps : List Pg) (ts : List (List Int)) (hst0 : HpV w (.agg #[.int .i64 cap, .slice A0 ps.length c0, .slice B0 ts.length e0]) cap ps ts) (t a v : Int) (hF : fewH ps ts = true) (hM : mayH cap ps ts = true) (ln : ps.length ≤ 20) (lm : ts.length ≤ 5) (ll : ∀ t ∈ ts, t.length ≤ 4) (eA nB eB nD eD uH uA uD : Int) (psA psB psD : List Pg) (tsA tsB tsD : List (List Int)) (hA : writeH cap ps ts t a v = (eA, psA, tsA)) (hB : forkH cap ps ts t = (nB, eB, psB, tsB)) (hD : dropH cap ps ts t = (nD, eD, psD, tsD)) (lA : psA.length ≤ 900) (lB : psB.length ≤ 900) (lD : psD.length ≤ 900) (mA : mayH cap psA tsA = true) (mB : mayH cap psB tsB = true) (mD : mayH cap psD tsD = true) (vH : usedL cap ps = uH) (vA : usedL cap psA = uA) (vB : usedL cap psB = uH) (vD : usedL cap psD = uD) (b0 : 0 ≤ uH) (b1 : uH ≤ 20) (b2 : uD ≤ uH) (b3 : uA ≤ uH + 1) (hA1 : eA = 0) (hB1 : (eB != 0) = true) (hB2 : sameH cap psB tsB cap ps ts = true) (hD1 : (eD != 0) = true) (hD2 : sameH cap psD tsD cap ps ts = true)  :
    Calls Try.prog 8 #[.agg #[.int .i64 cap, .slice A0 ps.length c0, .slice B0 ts.length e0], .int .i64 t, .int .i64 a, .int .i64 v] w fun e w' => e = .returned (.bool true) ∧ Below w.heap.size w w' := by
  have qF := fun v W h => few_any v cap ps ts W h
  rw [hF] at qF
  have qM := fun v W h => tmay_any v cap ps ts W h (by omega)
  rw [hM] at qM
  have qA := fun x W h => tWrite_any x cap ps ts t a v W h (by omega) (by omega) (fun t ht => by have := ll t ht; omega)
  rw [hA] at qA
  have qB := fun x W h => Fork_any x cap ps ts t W h (by omega) (by omega) (fun t ht => by have := ll t ht; omega)
  rw [hB] at qB
  have qD := fun x W h => Drop_any x cap ps ts t W h (by omega) (by omega) (fun t ht => by have := ll t ht; omega)
  rw [hD] at qD
  have qMA := fun x W h => tmay_any x cap psA tsA W h (by omega)
  rw [mA] at qMA
  have qUA := fun x W h => Used_any x cap psA W h
  rw [vA] at qUA
  have qMB := fun x W h => tmay_any x cap psB tsB W h (by omega)
  rw [mB] at qMB
  have qUB := fun x W h => Used_any x cap psB W h
  rw [vB] at qUB
  have qMD := fun x W h => tmay_any x cap psD tsD W h (by omega)
  rw [mD] at qMD
  have qUD := fun x W h => Used_any x cap psD W h
  rw [vD] at qUD
  have qUH := fun x W h => Used_any x cap ps W h
  rw [vH] at qUH
  have hwr : IntKind.i64.wrap (uH + 1) = uH + 1 := by rw [IntKind.wrap_i64]; omega
  clear hF hM hA hB hD ll mA mB mD vH vA vB vD
  subst hA1
  have qSB := fun x y W h g => tsame_any x y cap psB tsB cap ps ts W h g
  rw [hB2] at qSB
  clear hB2
  have qSD := fun x y W h g => tsame_any x y cap psD tsD cap ps ts W h g
  rw [hD2] at qSD
  clear hD2
  go_enter Try.func8, Try.ntmps8
  have hA0 := ((Below.refl w.heap.size w).alloc (Nat.le_refl _) (.cells #[.int .i64 cap, .slice A0 ps.length c0, .slice B0 ts.length e0] 28))
  replace hst0 := hst0.keep hA0
  have kC := Blk.new_ w 28 #[.int .i64 cap, .slice A0 ps.length c0, .slice B0 ts.length e0] (w.heap.size) (by simp)
  have hZ0 : Below w.heap.size w _ := hA0
  go_wp2_with fail
  refine (tawake_any _).mono ?_
  rintro e w1 ⟨rfl, hb1⟩
  obtain ⟨hc1, hf1⟩ := bcell hb1
  have hz1 := hb1.size
  simp at hz1
  replace hst0 := hst0.keep hb1
  replace kC := kC.keep hb1
  have hY1 := hZ0.trans (hb1.mono hZ0.size)
  have zkC_1 : w.heap.size < w1.heap.size := by omega
  have hZ1 : Below w.heap.size w w1 := hY1
  go_wp2_with fail
  refine (qF _ _ hst0).mono ?_
  rintro e w2 ⟨rfl, hb2⟩
  obtain ⟨hc2, hf2⟩ := bcell hb2
  have hz2 := hb2.size
  replace hst0 := hst0.keep hb2
  replace kC := kC.keep hb2
  have hY2 := hZ1.trans (hb2.mono hZ1.size)
  have zkC_2 : w.heap.size < w2.heap.size := by omega
  have hZ2 : Below w.heap.size w w2 := hY2
  go_wp2_with fail
  refine (qM _ _ hst0).mono ?_
  rintro e w3 ⟨rfl, hb3⟩
  obtain ⟨hc3, hf3⟩ := bcell hb3
  have hz3 := hb3.size
  replace hst0 := hst0.keep hb3
  replace kC := kC.keep hb3
  have hY3 := hZ2.trans (hb3.mono hZ2.size)
  have zkC_3 : w.heap.size < w3.heap.size := by omega
  have hZ3 : Below w.heap.size w w3 := hY3
  go_wp2_with fail
  refine (qA _ _ hst0).mono ?_
  rintro e w4 ⟨v4, rfl, hstA, hb4⟩
  obtain ⟨hc4, hf4⟩ := bcell hb4
  have hz4 := hb4.size
  replace hst0 := hst0.keep hb4
  replace kC := kC.keep hb4
  have hY4 := hZ3.trans (hb4.mono hZ3.size)
  have zkC_4 : w.heap.size < w4.heap.size := by omega
  replace hstA := hstA.to
  try dsimp only at hstA
  obtain ⟨AA, cA, BA, eA, rfl, hstA⟩ := hstA.form
  have hA4 := ((Below.refl w4.heap.size w4).alloc (Nat.le_refl _) (.cells #[.int .i64 cap, .slice AA psA.length cA, .slice BA tsA.length eA] 28))
  replace hst0 := hst0.keep hA4
  replace kC := kC.keep hA4
  replace hstA := hstA.keep hA4
  have kA := Blk.new_ w4 28 #[.int .i64 cap, .slice AA psA.length cA, .slice BA tsA.length eA] (w4.heap.size) (by simp)
  have hZ4 : Below w.heap.size w _ := hY4.trans (hA4.mono hY4.size)
  go_wp2_with fail
  refine (qB _ _ hst0).mono ?_
  rintro e w5 ⟨v5, rfl, hstB, hb5⟩
  obtain ⟨hc5, hf5⟩ := bcell hb5
  have hz5 := hb5.size
  simp at hz5
  replace hst0 := hst0.keep hb5
  replace kC := kC.keep hb5
  replace hstA := hstA.keep hb5
  replace kA := kA.keep hb5
  have hY5 := hZ4.trans (hb5.mono hZ4.size)
  have zkC_5 : w.heap.size < w5.heap.size := by omega
  have zkA_5 : w4.heap.size < w5.heap.size := by omega
  replace hstB := hstB.to
  try dsimp only at hstB
  obtain ⟨AB, cB, BB, eB, rfl, hstB⟩ := hstB.form
  have hA5 := ((Below.refl w5.heap.size w5).alloc (Nat.le_refl _) (.cells #[.int .i64 cap, .slice AB psB.length cB, .slice BB tsB.length eB] 28))
  replace hst0 := hst0.keep hA5
  replace kC := kC.keep hA5
  replace hstA := hstA.keep hA5
  replace kA := kA.keep hA5
  replace hstB := hstB.keep hA5
  have kB := Blk.new_ w5 28 #[.int .i64 cap, .slice AB psB.length cB, .slice BB tsB.length eB] (w5.heap.size) (by simp)
  have hZ5 : Below w.heap.size w _ := hY5.trans (hA5.mono hY5.size)
  go_wp2_with fail
  refine (qD _ _ hst0).mono ?_
  rintro e w6 ⟨v6, rfl, hstD, hb6⟩
  obtain ⟨hc6, hf6⟩ := bcell hb6
  have hz6 := hb6.size
  simp at hz6
  replace hst0 := hst0.keep hb6
  replace kC := kC.keep hb6
  replace hstA := hstA.keep hb6
  replace kA := kA.keep hb6
  replace hstB := hstB.keep hb6
  replace kB := kB.keep hb6
  have hY6 := hZ5.trans (hb6.mono hZ5.size)
  have zkC_6 : w.heap.size < w6.heap.size := by omega
  have zkA_6 : w4.heap.size < w6.heap.size := by omega
  have zkB_6 : w5.heap.size < w6.heap.size := by omega
  replace hstD := hstD.to
  try dsimp only at hstD
  obtain ⟨AD, cD, BD, eD, rfl, hstD⟩ := hstD.form
  have hA6 := ((Below.refl w6.heap.size w6).alloc (Nat.le_refl _) (.cells #[.int .i64 cap, .slice AD psD.length cD, .slice BD tsD.length eD] 28))
  replace hst0 := hst0.keep hA6
  replace kC := kC.keep hA6
  replace hstA := hstA.keep hA6
  replace kA := kA.keep hA6
  replace hstB := hstB.keep hA6
  replace kB := kB.keep hA6
  replace hstD := hstD.keep hA6
  have kD := Blk.new_ w6 28 #[.int .i64 cap, .slice AD psD.length cD, .slice BD tsD.length eD] (w6.heap.size) (by simp)
  have hZ6 : Below w.heap.size w _ := hY6.trans (hA6.mono hY6.size)
  go_wp2_with fail
  refine (qSB _ _ _ hstB hst0).mono ?_
  rintro e w7 ⟨rfl, hb7⟩
  obtain ⟨hc7, hf7⟩ := bcell hb7
  have hz7 := hb7.size
  simp at hz7
  replace hst0 := hst0.keep hb7
  replace kC := kC.keep hb7
  replace hstA := hstA.keep hb7
  replace kA := kA.keep hb7
  replace hstB := hstB.keep hb7
  replace kB := kB.keep hb7
  replace hstD := hstD.keep hb7
  replace kD := kD.keep hb7
  have hY7 := hZ6.trans (hb7.mono hZ6.size)
  have zkC_7 : w.heap.size < w7.heap.size := by omega
  have zkA_7 : w4.heap.size < w7.heap.size := by omega
  have zkB_7 : w5.heap.size < w7.heap.size := by omega
  have zkD_7 : w6.heap.size < w7.heap.size := by omega
  have hZ7 : Below w.heap.size w w7 := hY7
  go_wp2_with fail
  refine (qSD _ _ _ hstD hst0).mono ?_
  rintro e w8 ⟨rfl, hb8⟩
  obtain ⟨hc8, hf8⟩ := bcell hb8
  have hz8 := hb8.size
  replace hst0 := hst0.keep hb8
  replace kC := kC.keep hb8
  replace hstA := hstA.keep hb8
  replace kA := kA.keep hb8
  replace hstB := hstB.keep hb8
  replace kB := kB.keep hb8
  replace hstD := hstD.keep hb8
  replace kD := kD.keep hb8
  have hY8 := hZ7.trans (hb8.mono hZ7.size)
  have zkC_8 : w.heap.size < w8.heap.size := by omega
  have zkA_8 : w4.heap.size < w8.heap.size := by omega
  have zkB_8 : w5.heap.size < w8.heap.size := by omega
  have zkD_8 : w6.heap.size < w8.heap.size := by omega
  have hZ8 : Below w.heap.size w w8 := hY8
  go_wp2_with fail
  refine (qMA _ _ hstA).mono ?_
  rintro e w9 ⟨rfl, hb9⟩
  obtain ⟨hc9, hf9⟩ := bcell hb9
  have hz9 := hb9.size
  replace hst0 := hst0.keep hb9
  replace kC := kC.keep hb9
  replace hstA := hstA.keep hb9
  replace kA := kA.keep hb9
  replace hstB := hstB.keep hb9
  replace kB := kB.keep hb9
  replace hstD := hstD.keep hb9
  replace kD := kD.keep hb9
  have hY9 := hZ8.trans (hb9.mono hZ8.size)
  have zkC_9 : w.heap.size < w9.heap.size := by omega
  have zkA_9 : w4.heap.size < w9.heap.size := by omega
  have zkB_9 : w5.heap.size < w9.heap.size := by omega
  have zkD_9 : w6.heap.size < w9.heap.size := by omega
  have hZ9 : Below w.heap.size w w9 := hY9
  go_wp2_with fail
  refine (qMB _ _ hstB).mono ?_
  rintro e w10 ⟨rfl, hb10⟩
  obtain ⟨hc10, hf10⟩ := bcell hb10
  have hz10 := hb10.size
  replace hst0 := hst0.keep hb10
  replace kC := kC.keep hb10
  replace hstA := hstA.keep hb10
  replace kA := kA.keep hb10
  replace hstB := hstB.keep hb10
  replace kB := kB.keep hb10
  replace hstD := hstD.keep hb10
  replace kD := kD.keep hb10
  have hY10 := hZ9.trans (hb10.mono hZ9.size)
  have zkC_10 : w.heap.size < w10.heap.size := by omega
  have zkA_10 : w4.heap.size < w10.heap.size := by omega
  have zkB_10 : w5.heap.size < w10.heap.size := by omega
  have zkD_10 : w6.heap.size < w10.heap.size := by omega
  have hZ10 : Below w.heap.size w w10 := hY10
  go_wp2_with fail
  refine (qMD _ _ hstD).mono ?_
  rintro e w11 ⟨rfl, hb11⟩
  obtain ⟨hc11, hf11⟩ := bcell hb11
  have hz11 := hb11.size
  replace hst0 := hst0.keep hb11
  replace kC := kC.keep hb11
  replace hstA := hstA.keep hb11
  replace kA := kA.keep hb11
  replace hstB := hstB.keep hb11
  replace kB := kB.keep hb11
  replace hstD := hstD.keep hb11
  replace kD := kD.keep hb11
  have hY11 := hZ10.trans (hb11.mono hZ10.size)
  have zkC_11 : w.heap.size < w11.heap.size := by omega
  have zkA_11 : w4.heap.size < w11.heap.size := by omega
  have zkB_11 : w5.heap.size < w11.heap.size := by omega
  have zkD_11 : w6.heap.size < w11.heap.size := by omega
  go_wp2_with fail
  have kC_0 : w11.cell? ⟨w.heap.size, 0, none⟩ = some (.int .i64 cap) := by rw [kC.cell]; rfl
  have kC_1 : w11.cell? ⟨w.heap.size, 1, none⟩ = some (.slice A0 ps.length c0) := by rw [kC.cell]; rfl
  have kC_lt := kC.lt
  have kA_0 : w11.cell? ⟨w4.heap.size, 0, none⟩ = some (.int .i64 cap) := by rw [kA.cell]; rfl
  have kA_1 : w11.cell? ⟨w4.heap.size, 1, none⟩ = some (.slice AA psA.length cA) := by rw [kA.cell]; rfl
  have kA_lt := kA.lt
  have kB_0 : w11.cell? ⟨w5.heap.size, 0, none⟩ = some (.int .i64 cap) := by rw [kB.cell]; rfl
  have kB_1 : w11.cell? ⟨w5.heap.size, 1, none⟩ = some (.slice AB psB.length cB) := by rw [kB.cell]; rfl
  have kB_lt := kB.lt
  have kD_0 : w11.cell? ⟨w6.heap.size, 0, none⟩ = some (.int .i64 cap) := by rw [kD.cell]; rfl
  have kD_1 : w11.cell? ⟨w6.heap.size, 1, none⟩ = some (.slice AD psD.length cD) := by rw [kD.cell]; rfl
  have kD_lt := kD.lt
  have G0 := (Below.refl w11.heap.size w11).drew
  refine wp_region_held_drew (S := fun w' => w'.cell? ⟨w.heap.size, 0, none⟩ = some (.int .i64 cap) ∧ w'.cell? ⟨w.heap.size, 1, none⟩ = some (.slice A0 ps.length c0) ∧ w'.cell? ⟨w4.heap.size, 0, none⟩ = some (.int .i64 cap) ∧ w'.cell? ⟨w4.heap.size, 1, none⟩ = some (.slice AA psA.length cA) ∧ w'.cell? ⟨w5.heap.size, 0, none⟩ = some (.int .i64 cap) ∧ w'.cell? ⟨w5.heap.size, 1, none⟩ = some (.slice AB psB.length cB) ∧ w'.cell? ⟨w6.heap.size, 0, none⟩ = some (.int .i64 cap) ∧ w'.cell? ⟨w6.heap.size, 1, none⟩ = some (.slice AD psD.length cD)) (by kernel_rfl) ?_ (fun hHeldnr => ?_)
  · exact ⟨(G0.cell (p := ⟨w.heap.size, 0, none⟩) kC_lt).trans kC_0, (G0.cell (p := ⟨w.heap.size, 1, none⟩) kC_lt).trans kC_1, (G0.cell (p := ⟨w4.heap.size, 0, none⟩) kA_lt).trans kA_0, (G0.cell (p := ⟨w4.heap.size, 1, none⟩) kA_lt).trans kA_1, (G0.cell (p := ⟨w5.heap.size, 0, none⟩) kB_lt).trans kB_0, (G0.cell (p := ⟨w5.heap.size, 1, none⟩) kB_lt).trans kB_1, (G0.cell (p := ⟨w6.heap.size, 0, none⟩) kD_lt).trans kD_0, (G0.cell (p := ⟨w6.heap.size, 1, none⟩) kD_lt).trans kD_1⟩
  refine wpAnyH_take (i := 0) (oi := { dst := some 96, op := Op.fieldAddr 28 (Operand.tmp 16) 0, type := 0, pos := "law.go:124", after := _, guard := none }) (v := ?vnr0) rfl (by kernel_rfl) (by kernel_rfl) (by kernel_rfl) (fun _ _ _ h => h) (Or.inl ⟨by rfl, ?hynr0⟩) (by assumption) ?restnr0
  case hynr0 => (intro w hSw; (try dsimp only at hSw); go_simp <;> with_reducible rfl)
  try simp only [Act.put, List.setIfInBounds_toArray, List.set_cons_zero, List.set_cons_succ]
  refine wpAnyH_take (i := 1) (oi := { dst := some 97, op := Op.load 25 (Operand.tmp 96), type := 25, pos := "law.go:124", after := _, guard := none }) (v := ?vnr1) rfl (by kernel_rfl) (by kernel_rfl) (by kernel_rfl) (fun _ _ _ h => h) (Or.inl ⟨by rfl, ?hynr1⟩) (by assumption) ?restnr1
  case hynr1 => (intro w hSw; (try dsimp only at hSw); go_simp <;> with_reducible rfl)
  try simp only [Act.put, List.setIfInBounds_toArray, List.set_cons_zero, List.set_cons_succ]
  refine wpAnyH_take (i := 3) (oi := { dst := some 99, op := Op.fieldAddr 28 (Operand.tmp 4) 0, type := 0, pos := "law.go:124", after := _, guard := none }) (v := ?vnr3) rfl (by kernel_rfl) (by kernel_rfl) (by kernel_rfl) (fun _ _ _ h => h) (Or.inl ⟨by rfl, ?hynr3⟩) (by assumption) ?restnr3
  case hynr3 => (intro w hSw; (try dsimp only at hSw); go_simp <;> with_reducible rfl)
  try simp only [Act.put, List.setIfInBounds_toArray, List.set_cons_zero, List.set_cons_succ]
  refine wpAnyH_take (i := 4) (oi := { dst := some 100, op := Op.load 25 (Operand.tmp 99), type := 25, pos := "law.go:124", after := _, guard := none }) (v := ?vnr4) rfl (by kernel_rfl) (by kernel_rfl) (by kernel_rfl) (fun _ _ _ h => h) (Or.inl ⟨by rfl, ?hynr4⟩) (by assumption) ?restnr4
  case hynr4 => (intro w hSw; (try dsimp only at hSw); go_simp <;> with_reducible rfl)
  try simp only [Act.put, List.setIfInBounds_toArray, List.set_cons_zero, List.set_cons_succ]
  refine wpAnyH_ready (rs := [2]) (by kernel_rfl) (by simp) ?_
  refine AllReadyH.cons (o := { dst := some 98, op := Op.call { callee := Callee.value (Operand.func 25), args := #[Operand.tmp 97], argTypes := #[25] }, type := 3, pos := "law.go:124", after := _, guard := none }) rfl (fun K hK => ?_) AllReadyH.nil
  go_simp
  refine (qUD _ _ (hstD.keep G0).store).mono ?_
  rintro x x1 ⟨rfl, hx1⟩
  have G1 := G0.trans (hx1.mono G0.size)
  try go_wp2_with fail
  refine hK.out _ _ ?_ (fun hHeldnr2 => ?_)
  · exact ⟨(G1.cell (p := ⟨w.heap.size, 0, none⟩) kC_lt).trans kC_0, (G1.cell (p := ⟨w.heap.size, 1, none⟩) kC_lt).trans kC_1, (G1.cell (p := ⟨w4.heap.size, 0, none⟩) kA_lt).trans kA_0, (G1.cell (p := ⟨w4.heap.size, 1, none⟩) kA_lt).trans kA_1, (G1.cell (p := ⟨w5.heap.size, 0, none⟩) kB_lt).trans kB_0, (G1.cell (p := ⟨w5.heap.size, 1, none⟩) kB_lt).trans kB_1, (G1.cell (p := ⟨w6.heap.size, 0, none⟩) kD_lt).trans kD_0, (G1.cell (p := ⟨w6.heap.size, 1, none⟩) kD_lt).trans kD_1⟩
  clear hK K hHeldnr
  try simp only [Act.put, List.setIfInBounds_toArray, List.set_cons_zero, List.set_cons_succ]
  refine wpAnyH_ready (rs := [5]) (by kernel_rfl) (by simp) ?_
  refine AllReadyH.cons (o := { dst := some 101, op := Op.call { callee := Callee.value (Operand.func 25), args := #[Operand.tmp 100], argTypes := #[25] }, type := 3, pos := "law.go:124", after := _, guard := none }) rfl (fun K hK => ?_) AllReadyH.nil
  go_simp
  refine (qUH _ _ (hst0.keep G1).store).mono ?_
  rintro x x2 ⟨rfl, hx2⟩
  have G2 := G1.trans (hx2.mono G1.size)
  try go_wp2_with fail
  refine hK.out _ _ ?_ (fun hHeldnr5 => ?_)
  · exact ⟨(G2.cell (p := ⟨w.heap.size, 0, none⟩) kC_lt).trans kC_0, (G2.cell (p := ⟨w.heap.size, 1, none⟩) kC_lt).trans kC_1, (G2.cell (p := ⟨w4.heap.size, 0, none⟩) kA_lt).trans kA_0, (G2.cell (p := ⟨w4.heap.size, 1, none⟩) kA_lt).trans kA_1, (G2.cell (p := ⟨w5.heap.size, 0, none⟩) kB_lt).trans kB_0, (G2.cell (p := ⟨w5.heap.size, 1, none⟩) kB_lt).trans kB_1, (G2.cell (p := ⟨w6.heap.size, 0, none⟩) kD_lt).trans kD_0, (G2.cell (p := ⟨w6.heap.size, 1, none⟩) kD_lt).trans kD_1⟩
  clear hK K hHeldnr2
  try simp only [Act.put, List.setIfInBounds_toArray, List.set_cons_zero, List.set_cons_succ]
  refine wpAnyH_take (i := 6) (oi := { dst := some 102, op := Op.binOp BinOp.leq 3 (Operand.tmp 98) (Operand.tmp 101) 3, type := 4, pos := "law.go:124", after := _, guard := none }) (v := .bool true) rfl (by kernel_rfl) (by kernel_rfl) (by kernel_rfl) (fun _ _ _ h => h) (Or.inl ⟨by rfl, ?hynr6⟩) (by assumption) ?restnr6
  case hynr6 => (intro w hSw; (try dsimp only at hSw); go_simp <;> first | done | with_reducible rfl | omega | (simp; done) | (simp; omega) | (simp [*]; done) | (simp [*]; omega) | exact decide_eq_false (by omega) | exact decide_eq_true (by omega))
  try simp only [Act.put, List.setIfInBounds_toArray, List.set_cons_zero, List.set_cons_succ]
  refine wpAnyH_take (i := 7) (oi := { dst := some 18, op := Op.assign (Operand.tmp 102), type := 4, pos := "law.go:124", after := _, guard := none }) (v := ?vnr7) rfl (by kernel_rfl) (by kernel_rfl) (by kernel_rfl) (fun _ _ _ h => h) (Or.inl ⟨by rfl, ?hynr7⟩) (by assumption) ?restnr7
  case hynr7 => (intro w hSw; (try dsimp only at hSw); go_simp <;> with_reducible rfl)
  try simp only [Act.put, List.setIfInBounds_toArray, List.set_cons_zero, List.set_cons_succ]
  refine wpAnyH_done (by kernel_rfl) ?_ _
  go_upto_region 13 with fail
  have G3 := G2.drew
  refine wp_region_held_drew (S := fun w' => w'.cell? ⟨w.heap.size, 0, none⟩ = some (.int .i64 cap) ∧ w'.cell? ⟨w.heap.size, 1, none⟩ = some (.slice A0 ps.length c0) ∧ w'.cell? ⟨w4.heap.size, 0, none⟩ = some (.int .i64 cap) ∧ w'.cell? ⟨w4.heap.size, 1, none⟩ = some (.slice AA psA.length cA) ∧ w'.cell? ⟨w5.heap.size, 0, none⟩ = some (.int .i64 cap) ∧ w'.cell? ⟨w5.heap.size, 1, none⟩ = some (.slice AB psB.length cB) ∧ w'.cell? ⟨w6.heap.size, 0, none⟩ = some (.int .i64 cap) ∧ w'.cell? ⟨w6.heap.size, 1, none⟩ = some (.slice AD psD.length cD)) (by kernel_rfl) ?_ (fun hHeldor => ?_)
  · exact ⟨(G3.cell (p := ⟨w.heap.size, 0, none⟩) kC_lt).trans kC_0, (G3.cell (p := ⟨w.heap.size, 1, none⟩) kC_lt).trans kC_1, (G3.cell (p := ⟨w4.heap.size, 0, none⟩) kA_lt).trans kA_0, (G3.cell (p := ⟨w4.heap.size, 1, none⟩) kA_lt).trans kA_1, (G3.cell (p := ⟨w5.heap.size, 0, none⟩) kB_lt).trans kB_0, (G3.cell (p := ⟨w5.heap.size, 1, none⟩) kB_lt).trans kB_1, (G3.cell (p := ⟨w6.heap.size, 0, none⟩) kD_lt).trans kD_0, (G3.cell (p := ⟨w6.heap.size, 1, none⟩) kD_lt).trans kD_1⟩
  refine wpAnyH_take (i := 0) (oi := { dst := some 103, op := Op.move (Operand.tmp 18), type := 4, pos := "law.go:125", after := _, guard := none }) (v := ?vor0) rfl (by kernel_rfl) (by kernel_rfl) (by kernel_rfl) (fun _ _ _ h => h) (Or.inl ⟨by rfl, ?hyor0⟩) (by assumption) ?restor0
  case hyor0 => (intro w hSw; (try dsimp only at hSw); go_simp <;> with_reducible rfl)
  try simp only [Act.put, List.setIfInBounds_toArray, List.set_cons_zero, List.set_cons_succ]
  refine wpAnyH_take (i := 1) (oi := { dst := some 104, op := Op.move (Operand.tmp 103), type := 4, pos := "law.go:125", after := _, guard := none }) (v := ?vor1) rfl (by kernel_rfl) (by kernel_rfl) (by kernel_rfl) (fun _ _ _ h => h) (Or.inl ⟨by rfl, ?hyor1⟩) (by assumption) ?restor1
  case hyor1 => (intro w hSw; (try dsimp only at hSw); go_simp <;> with_reducible rfl)
  try simp only [Act.put, List.setIfInBounds_toArray, List.set_cons_zero, List.set_cons_succ]
  refine wpAnyH_take (i := 2) (oi := { dst := some 105, op := Op.fieldAddr 28 (Operand.tmp 13) 0, type := 0, pos := "law.go:125", after := _, guard := some (1, true) }) (v := ?vor2) rfl (by kernel_rfl) (by kernel_rfl) (by kernel_rfl) (fun _ _ _ h => h) (Or.inl ⟨by rfl, ?hyor2⟩) (by assumption) ?restor2
  case hyor2 => (intro w hSw; (try dsimp only at hSw); go_simp <;> with_reducible rfl)
  try simp only [Act.put, List.setIfInBounds_toArray, List.set_cons_zero, List.set_cons_succ]
  refine wpAnyH_take (i := 3) (oi := { dst := some 106, op := Op.load 25 (Operand.tmp 105), type := 25, pos := "law.go:125", after := _, guard := some (1, true) }) (v := ?vor3) rfl (by kernel_rfl) (by kernel_rfl) (by kernel_rfl) (fun _ _ _ h => h) (Or.inl ⟨by rfl, ?hyor3⟩) (by assumption) ?restor3
  case hyor3 => (intro w hSw; (try dsimp only at hSw); go_simp <;> with_reducible rfl)
  try simp only [Act.put, List.setIfInBounds_toArray, List.set_cons_zero, List.set_cons_succ]
  refine wpAnyH_take (i := 5) (oi := { dst := some 108, op := Op.fieldAddr 28 (Operand.tmp 4) 0, type := 0, pos := "law.go:125", after := _, guard := some (1, true) }) (v := ?vor5) rfl (by kernel_rfl) (by kernel_rfl) (by kernel_rfl) (fun _ _ _ h => h) (Or.inl ⟨by rfl, ?hyor5⟩) (by assumption) ?restor5
  case hyor5 => (intro w hSw; (try dsimp only at hSw); go_simp <;> with_reducible rfl)
  try simp only [Act.put, List.setIfInBounds_toArray, List.set_cons_zero, List.set_cons_succ]
  refine wpAnyH_take (i := 6) (oi := { dst := some 109, op := Op.load 25 (Operand.tmp 108), type := 25, pos := "law.go:125", after := _, guard := some (1, true) }) (v := ?vor6) rfl (by kernel_rfl) (by kernel_rfl) (by kernel_rfl) (fun _ _ _ h => h) (Or.inl ⟨by rfl, ?hyor6⟩) (by assumption) ?restor6
  case hyor6 => (intro w hSw; (try dsimp only at hSw); go_simp <;> with_reducible rfl)
  try simp only [Act.put, List.setIfInBounds_toArray, List.set_cons_zero, List.set_cons_succ]
  refine wpAnyH_ready (rs := [4]) (by kernel_rfl) (by simp) ?_
  refine AllReadyH.cons (o := { dst := some 107, op := Op.call { callee := Callee.value (Operand.func 25), args := #[Operand.tmp 106], argTypes := #[25] }, type := 3, pos := "law.go:125", after := _, guard := some (1, true) }) rfl (fun K hK => ?_) AllReadyH.nil
  go_simp
  refine (qUB _ _ (hstB.keep G3).store).mono ?_
  rintro x x4 ⟨rfl, hx4⟩
  have G4 := G3.trans (hx4.mono G3.size)
  try go_wp2_with fail
  refine hK.out _ _ ?_ (fun hHeldor4 => ?_)
  · exact ⟨(G4.cell (p := ⟨w.heap.size, 0, none⟩) kC_lt).trans kC_0, (G4.cell (p := ⟨w.heap.size, 1, none⟩) kC_lt).trans kC_1, (G4.cell (p := ⟨w4.heap.size, 0, none⟩) kA_lt).trans kA_0, (G4.cell (p := ⟨w4.heap.size, 1, none⟩) kA_lt).trans kA_1, (G4.cell (p := ⟨w5.heap.size, 0, none⟩) kB_lt).trans kB_0, (G4.cell (p := ⟨w5.heap.size, 1, none⟩) kB_lt).trans kB_1, (G4.cell (p := ⟨w6.heap.size, 0, none⟩) kD_lt).trans kD_0, (G4.cell (p := ⟨w6.heap.size, 1, none⟩) kD_lt).trans kD_1⟩
  clear hK K hHeldor
  try simp only [Act.put, List.setIfInBounds_toArray, List.set_cons_zero, List.set_cons_succ]
  refine wpAnyH_ready (rs := [7]) (by kernel_rfl) (by simp) ?_
  refine AllReadyH.cons (o := { dst := some 110, op := Op.call { callee := Callee.value (Operand.func 25), args := #[Operand.tmp 109], argTypes := #[25] }, type := 3, pos := "law.go:125", after := _, guard := some (1, true) }) rfl (fun K hK => ?_) AllReadyH.nil
  go_simp
  refine (qUH _ _ (hst0.keep G4).store).mono ?_
  rintro x x5 ⟨rfl, hx5⟩
  have G5 := G4.trans (hx5.mono G4.size)
  try go_wp2_with fail
  refine hK.out _ _ ?_ (fun hHeldor7 => ?_)
  · exact ⟨(G5.cell (p := ⟨w.heap.size, 0, none⟩) kC_lt).trans kC_0, (G5.cell (p := ⟨w.heap.size, 1, none⟩) kC_lt).trans kC_1, (G5.cell (p := ⟨w4.heap.size, 0, none⟩) kA_lt).trans kA_0, (G5.cell (p := ⟨w4.heap.size, 1, none⟩) kA_lt).trans kA_1, (G5.cell (p := ⟨w5.heap.size, 0, none⟩) kB_lt).trans kB_0, (G5.cell (p := ⟨w5.heap.size, 1, none⟩) kB_lt).trans kB_1, (G5.cell (p := ⟨w6.heap.size, 0, none⟩) kD_lt).trans kD_0, (G5.cell (p := ⟨w6.heap.size, 1, none⟩) kD_lt).trans kD_1⟩
  clear hK K hHeldor4
  try simp only [Act.put, List.setIfInBounds_toArray, List.set_cons_zero, List.set_cons_succ]
  refine wpAnyH_take (i := 8) (oi := { dst := some 111, op := Op.binOp BinOp.eql 3 (Operand.tmp 107) (Operand.tmp 110) 3, type := 4, pos := "law.go:125", after := _, guard := some (1, true) }) (v := .bool true) rfl (by kernel_rfl) (by kernel_rfl) (by kernel_rfl) (fun _ _ _ h => h) (Or.inl ⟨by rfl, ?hyor8⟩) (by assumption) ?restor8
  case hyor8 => (intro w hSw; (try dsimp only at hSw); go_simp <;> first | done | with_reducible rfl | omega | (simp; done) | (simp; omega) | (simp [*]; done) | (simp [*]; omega) | exact decide_eq_false (by omega) | exact decide_eq_true (by omega))
  try simp only [Act.put, List.setIfInBounds_toArray, List.set_cons_zero, List.set_cons_succ]
  refine wpAnyH_take (i := 9) (oi := { dst := some 112, op := Op.pick (Operand.tmp 104) (Operand.tmp 111) (Operand.const (Value.bool false)), type := 4, pos := "law.go:125", after := _, guard := none }) (v := ?vor9) rfl (by kernel_rfl) (by kernel_rfl) (by kernel_rfl) (fun _ _ _ h => h) (Or.inl ⟨by rfl, ?hyor9⟩) (by assumption) ?restor9
  case hyor9 => (intro w hSw; (try dsimp only at hSw); go_simp <;> with_reducible rfl)
  try simp only [Act.put, List.setIfInBounds_toArray, List.set_cons_zero, List.set_cons_succ]
  refine wpAnyH_take (i := 10) (oi := { dst := some 113, op := Op.move (Operand.tmp 112), type := 4, pos := "law.go:125", after := _, guard := none }) (v := ?vor10) rfl (by kernel_rfl) (by kernel_rfl) (by kernel_rfl) (fun _ _ _ h => h) (Or.inl ⟨by rfl, ?hyor10⟩) (by assumption) ?restor10
  case hyor10 => (intro w hSw; (try dsimp only at hSw); go_simp <;> with_reducible rfl)
  try simp only [Act.put, List.setIfInBounds_toArray, List.set_cons_zero, List.set_cons_succ]
  refine wpAnyH_take (i := 11) (oi := { dst := some 114, op := Op.fieldAddr 28 (Operand.tmp 11) 0, type := 0, pos := "law.go:125", after := _, guard := some (10, true) }) (v := ?vor11) rfl (by kernel_rfl) (by kernel_rfl) (by kernel_rfl) (fun _ _ _ h => h) (Or.inl ⟨by rfl, ?hyor11⟩) (by assumption) ?restor11
  case hyor11 => (intro w hSw; (try dsimp only at hSw); go_simp <;> with_reducible rfl)
  try simp only [Act.put, List.setIfInBounds_toArray, List.set_cons_zero, List.set_cons_succ]
  refine wpAnyH_take (i := 12) (oi := { dst := some 115, op := Op.load 25 (Operand.tmp 114), type := 25, pos := "law.go:125", after := _, guard := some (10, true) }) (v := ?vor12) rfl (by kernel_rfl) (by kernel_rfl) (by kernel_rfl) (fun _ _ _ h => h) (Or.inl ⟨by rfl, ?hyor12⟩) (by assumption) ?restor12
  case hyor12 => (intro w hSw; (try dsimp only at hSw); go_simp <;> with_reducible rfl)
  try simp only [Act.put, List.setIfInBounds_toArray, List.set_cons_zero, List.set_cons_succ]
  refine wpAnyH_take (i := 14) (oi := { dst := some 117, op := Op.fieldAddr 28 (Operand.tmp 4) 0, type := 0, pos := "law.go:125", after := _, guard := some (10, true) }) (v := ?vor14) rfl (by kernel_rfl) (by kernel_rfl) (by kernel_rfl) (fun _ _ _ h => h) (Or.inl ⟨by rfl, ?hyor14⟩) (by assumption) ?restor14
  case hyor14 => (intro w hSw; (try dsimp only at hSw); go_simp <;> with_reducible rfl)
  try simp only [Act.put, List.setIfInBounds_toArray, List.set_cons_zero, List.set_cons_succ]
  refine wpAnyH_take (i := 15) (oi := { dst := some 118, op := Op.load 25 (Operand.tmp 117), type := 25, pos := "law.go:125", after := _, guard := some (10, true) }) (v := ?vor15) rfl (by kernel_rfl) (by kernel_rfl) (by kernel_rfl) (fun _ _ _ h => h) (Or.inl ⟨by rfl, ?hyor15⟩) (by assumption) ?restor15
  case hyor15 => (intro w hSw; (try dsimp only at hSw); go_simp <;> with_reducible rfl)
  try simp only [Act.put, List.setIfInBounds_toArray, List.set_cons_zero, List.set_cons_succ]
  refine wpAnyH_ready (rs := [13]) (by kernel_rfl) (by simp) ?_
  refine AllReadyH.cons (o := { dst := some 116, op := Op.call { callee := Callee.value (Operand.func 25), args := #[Operand.tmp 115], argTypes := #[25] }, type := 3, pos := "law.go:125", after := _, guard := some (10, true) }) rfl (fun K hK => ?_) AllReadyH.nil
  go_simp
  refine (qUA _ _ (hstA.keep G5).store).mono ?_
  rintro x x6 ⟨rfl, hx6⟩
  have G6 := G5.trans (hx6.mono G5.size)
  try go_wp2_with fail
  refine hK.out _ _ ?_ (fun hHeldor13 => ?_)
  · exact ⟨(G6.cell (p := ⟨w.heap.size, 0, none⟩) kC_lt).trans kC_0, (G6.cell (p := ⟨w.heap.size, 1, none⟩) kC_lt).trans kC_1, (G6.cell (p := ⟨w4.heap.size, 0, none⟩) kA_lt).trans kA_0, (G6.cell (p := ⟨w4.heap.size, 1, none⟩) kA_lt).trans kA_1, (G6.cell (p := ⟨w5.heap.size, 0, none⟩) kB_lt).trans kB_0, (G6.cell (p := ⟨w5.heap.size, 1, none⟩) kB_lt).trans kB_1, (G6.cell (p := ⟨w6.heap.size, 0, none⟩) kD_lt).trans kD_0, (G6.cell (p := ⟨w6.heap.size, 1, none⟩) kD_lt).trans kD_1⟩
  clear hK K hHeldor7
  try simp only [Act.put, List.setIfInBounds_toArray, List.set_cons_zero, List.set_cons_succ]
  refine wpAnyH_ready (rs := [16]) (by kernel_rfl) (by simp) ?_
  refine AllReadyH.cons (o := { dst := some 119, op := Op.call { callee := Callee.value (Operand.func 25), args := #[Operand.tmp 118], argTypes := #[25] }, type := 3, pos := "law.go:125", after := _, guard := some (10, true) }) rfl (fun K hK => ?_) AllReadyH.nil
  go_simp
  refine (qUH _ _ (hst0.keep G6).store).mono ?_
  rintro x x7 ⟨rfl, hx7⟩
  have G7 := G6.trans (hx7.mono G6.size)
  try go_wp2_with fail
  refine hK.out _ _ ?_ (fun hHeldor16 => ?_)
  · exact ⟨(G7.cell (p := ⟨w.heap.size, 0, none⟩) kC_lt).trans kC_0, (G7.cell (p := ⟨w.heap.size, 1, none⟩) kC_lt).trans kC_1, (G7.cell (p := ⟨w4.heap.size, 0, none⟩) kA_lt).trans kA_0, (G7.cell (p := ⟨w4.heap.size, 1, none⟩) kA_lt).trans kA_1, (G7.cell (p := ⟨w5.heap.size, 0, none⟩) kB_lt).trans kB_0, (G7.cell (p := ⟨w5.heap.size, 1, none⟩) kB_lt).trans kB_1, (G7.cell (p := ⟨w6.heap.size, 0, none⟩) kD_lt).trans kD_0, (G7.cell (p := ⟨w6.heap.size, 1, none⟩) kD_lt).trans kD_1⟩
  clear hK K hHeldor13
  try simp only [Act.put, List.setIfInBounds_toArray, List.set_cons_zero, List.set_cons_succ]
  refine wpAnyH_take (i := 17) (oi := { dst := some 120, op := Op.binOp BinOp.add 3 (Operand.tmp 119) (Operand.const (Value.int IntKind.i64 1)) 3, type := 3, pos := "law.go:125", after := _, guard := some (10, true) }) (v := ?vor17) rfl (by kernel_rfl) (by kernel_rfl) (by kernel_rfl) (fun _ _ _ h => h) (Or.inl ⟨by rfl, ?hyor17⟩) (by assumption) ?restor17
  case hyor17 => (intro w hSw; (try dsimp only at hSw); go_simp <;> with_reducible rfl)
  try simp only [Act.put, List.setIfInBounds_toArray, List.set_cons_zero, List.set_cons_succ]
  refine wpAnyH_take (i := 18) (oi := { dst := some 121, op := Op.binOp BinOp.leq 3 (Operand.tmp 116) (Operand.tmp 120) 3, type := 4, pos := "law.go:125", after := _, guard := some (10, true) }) (v := .bool true) rfl (by kernel_rfl) (by kernel_rfl) (by kernel_rfl) (fun _ _ _ h => h) (Or.inl ⟨by rfl, ?hyor18⟩) (by assumption) ?restor18
  case hyor18 => (intro w hSw; (try dsimp only at hSw); go_simp <;> first | done | with_reducible rfl | omega | (simp; done) | (simp; omega) | (simp [*]; done) | (simp [*]; omega) | exact decide_eq_false (by omega) | exact decide_eq_true (by omega))
  try simp only [Act.put, List.setIfInBounds_toArray, List.set_cons_zero, List.set_cons_succ]
  refine wpAnyH_take (i := 19) (oi := { dst := some 122, op := Op.pick (Operand.tmp 113) (Operand.tmp 121) (Operand.const (Value.bool false)), type := 4, pos := "law.go:125", after := _, guard := none }) (v := ?vor19) rfl (by kernel_rfl) (by kernel_rfl) (by kernel_rfl) (fun _ _ _ h => h) (Or.inl ⟨by rfl, ?hyor19⟩) (by assumption) ?restor19
  case hyor19 => (intro w hSw; (try dsimp only at hSw); go_simp <;> with_reducible rfl)
  try simp only [Act.put, List.setIfInBounds_toArray, List.set_cons_zero, List.set_cons_succ]
  refine wpAnyH_take (i := 20) (oi := { dst := some 8, op := Op.assign (Operand.tmp 122), type := 4, pos := "law.go:125", after := _, guard := none }) (v := ?vor20) rfl (by kernel_rfl) (by kernel_rfl) (by kernel_rfl) (fun _ _ _ h => h) (Or.inl ⟨by rfl, ?hyor20⟩) (by assumption) ?restor20
  case hyor20 => (intro w hSw; (try dsimp only at hSw); go_simp <;> with_reducible rfl)
  try simp only [Act.put, List.setIfInBounds_toArray, List.set_cons_zero, List.set_cons_succ]
  refine wpAnyH_done (by kernel_rfl) ?_ _
  go_wp2
  go_ret
  exact ⟨rfl, hY11.trans (G7.mono hY11.size)⟩

set_option maxRecDepth 100000 in
set_option maxHeartbeats 4000000 in
theorem tableStays_ABD (w : World) (A0 B0 : Option Addr) (c0 e0 : Nat) (cap : Int) (ps : List Pg) (ts : List (List Int)) (hst0 : HpV w (.agg #[.int .i64 cap, .slice A0 ps.length c0, .slice B0 ts.length e0]) cap ps ts) (t a v : Int) (hF : fewH ps ts = true) (hM : mayH cap ps ts = true) (ln : ps.length ≤ 20) (lm : ts.length ≤ 5) (ll : ∀ t ∈ ts, t.length ≤ 4) (eA nB eB nD eD uH uA uD : Int) (psA psB psD : List Pg) (tsA tsB tsD : List (List Int)) (hA : writeH cap ps ts t a v = (eA, psA, tsA)) (hB : forkH cap ps ts t = (nB, eB, psB, tsB)) (hD : dropH cap ps ts t = (nD, eD, psD, tsD)) (lA : psA.length ≤ 900) (lB : psB.length ≤ 900) (lD : psD.length ≤ 900) (mA : mayH cap psA tsA = true) (mB : mayH cap psB tsB = true) (mD : mayH cap psD tsD = true) (vH : usedL cap ps = uH) (vA : usedL cap psA = uA) (vB : usedL cap psB = uH) (vD : usedL cap psD = uD) (b0 : 0 ≤ uH) (b1 : uH ≤ 20) (b2 : uD ≤ uH) (b3 : uA ≤ uH + 1) (hA1 : (eA != 0) = true) (hA2 : sameH cap psA tsA cap ps ts = true) (hB1 : (eB != 0) = true) (hB2 : sameH cap psB tsB cap ps ts = true) (hD1 : (eD != 0) = true) (hD2 : sameH cap psD tsD cap ps ts = true)  :
    Calls Try.prog 8 #[.agg #[.int .i64 cap, .slice A0 ps.length c0, .slice B0 ts.length e0], .int .i64 t, .int .i64 a, .int .i64 v] w fun e w' => e = .returned (.bool true) ∧ Below w.heap.size w w' := by
  have qF := fun v W h => few_any v cap ps ts W h
  rw [hF] at qF
  have qM := fun v W h => tmay_any v cap ps ts W h (by omega)
  rw [hM] at qM
  have qA := fun x W h => tWrite_any x cap ps ts t a v W h (by omega) (by omega) (fun t ht => by have := ll t ht; omega)
  rw [hA] at qA
  have qB := fun x W h => Fork_any x cap ps ts t W h (by omega) (by omega) (fun t ht => by have := ll t ht; omega)
  rw [hB] at qB
  have qD := fun x W h => Drop_any x cap ps ts t W h (by omega) (by omega) (fun t ht => by have := ll t ht; omega)
  rw [hD] at qD
  have qMA := fun x W h => tmay_any x cap psA tsA W h (by omega)
  rw [mA] at qMA
  have qUA := fun x W h => Used_any x cap psA W h
  rw [vA] at qUA
  have qMB := fun x W h => tmay_any x cap psB tsB W h (by omega)
  rw [mB] at qMB
  have qUB := fun x W h => Used_any x cap psB W h
  rw [vB] at qUB
  have qMD := fun x W h => tmay_any x cap psD tsD W h (by omega)
  rw [mD] at qMD
  have qUD := fun x W h => Used_any x cap psD W h
  rw [vD] at qUD
  have qUH := fun x W h => Used_any x cap ps W h
  rw [vH] at qUH
  have hwr : IntKind.i64.wrap (uH + 1) = uH + 1 := by rw [IntKind.wrap_i64]; omega
  clear hF hM hA hB hD ll mA mB mD vH vA vB vD
  have qSA := fun x y W h g => tsame_any x y cap psA tsA cap ps ts W h g
  rw [hA2] at qSA
  clear hA2
  have qSB := fun x y W h g => tsame_any x y cap psB tsB cap ps ts W h g
  rw [hB2] at qSB
  clear hB2
  have qSD := fun x y W h g => tsame_any x y cap psD tsD cap ps ts W h g
  rw [hD2] at qSD
  clear hD2
  go_enter Try.func8, Try.ntmps8
  have hA0 := ((Below.refl w.heap.size w).alloc (Nat.le_refl _) (.cells #[.int .i64 cap, .slice A0 ps.length c0, .slice B0 ts.length e0] 28))
  replace hst0 := hst0.keep hA0
  have kC := Blk.new_ w 28 #[.int .i64 cap, .slice A0 ps.length c0, .slice B0 ts.length e0] (w.heap.size) (by simp)
  have hZ0 : Below w.heap.size w _ := hA0
  go_wp2_with fail
  refine (tawake_any _).mono ?_
  rintro e w1 ⟨rfl, hb1⟩
  obtain ⟨hc1, hf1⟩ := bcell hb1
  have hz1 := hb1.size
  simp at hz1
  replace hst0 := hst0.keep hb1
  replace kC := kC.keep hb1
  have hY1 := hZ0.trans (hb1.mono hZ0.size)
  have zkC_1 : w.heap.size < w1.heap.size := by omega
  have hZ1 : Below w.heap.size w w1 := hY1
  go_wp2_with fail
  refine (qF _ _ hst0).mono ?_
  rintro e w2 ⟨rfl, hb2⟩
  obtain ⟨hc2, hf2⟩ := bcell hb2
  have hz2 := hb2.size
  replace hst0 := hst0.keep hb2
  replace kC := kC.keep hb2
  have hY2 := hZ1.trans (hb2.mono hZ1.size)
  have zkC_2 : w.heap.size < w2.heap.size := by omega
  have hZ2 : Below w.heap.size w w2 := hY2
  go_wp2_with fail
  refine (qM _ _ hst0).mono ?_
  rintro e w3 ⟨rfl, hb3⟩
  obtain ⟨hc3, hf3⟩ := bcell hb3
  have hz3 := hb3.size
  replace hst0 := hst0.keep hb3
  replace kC := kC.keep hb3
  have hY3 := hZ2.trans (hb3.mono hZ2.size)
  have zkC_3 : w.heap.size < w3.heap.size := by omega
  have hZ3 : Below w.heap.size w w3 := hY3
  go_wp2_with fail
  refine (qA _ _ hst0).mono ?_
  rintro e w4 ⟨v4, rfl, hstA, hb4⟩
  obtain ⟨hc4, hf4⟩ := bcell hb4
  have hz4 := hb4.size
  replace hst0 := hst0.keep hb4
  replace kC := kC.keep hb4
  have hY4 := hZ3.trans (hb4.mono hZ3.size)
  have zkC_4 : w.heap.size < w4.heap.size := by omega
  replace hstA := hstA.to
  try dsimp only at hstA
  obtain ⟨AA, cA, BA, eA, rfl, hstA⟩ := hstA.form
  have hA4 := ((Below.refl w4.heap.size w4).alloc (Nat.le_refl _) (.cells #[.int .i64 cap, .slice AA psA.length cA, .slice BA tsA.length eA] 28))
  replace hst0 := hst0.keep hA4
  replace kC := kC.keep hA4
  replace hstA := hstA.keep hA4
  have kA := Blk.new_ w4 28 #[.int .i64 cap, .slice AA psA.length cA, .slice BA tsA.length eA] (w4.heap.size) (by simp)
  have hZ4 : Below w.heap.size w _ := hY4.trans (hA4.mono hY4.size)
  go_wp2_with fail
  refine (qB _ _ hst0).mono ?_
  rintro e w5 ⟨v5, rfl, hstB, hb5⟩
  obtain ⟨hc5, hf5⟩ := bcell hb5
  have hz5 := hb5.size
  simp at hz5
  replace hst0 := hst0.keep hb5
  replace kC := kC.keep hb5
  replace hstA := hstA.keep hb5
  replace kA := kA.keep hb5
  have hY5 := hZ4.trans (hb5.mono hZ4.size)
  have zkC_5 : w.heap.size < w5.heap.size := by omega
  have zkA_5 : w4.heap.size < w5.heap.size := by omega
  replace hstB := hstB.to
  try dsimp only at hstB
  obtain ⟨AB, cB, BB, eB, rfl, hstB⟩ := hstB.form
  have hA5 := ((Below.refl w5.heap.size w5).alloc (Nat.le_refl _) (.cells #[.int .i64 cap, .slice AB psB.length cB, .slice BB tsB.length eB] 28))
  replace hst0 := hst0.keep hA5
  replace kC := kC.keep hA5
  replace hstA := hstA.keep hA5
  replace kA := kA.keep hA5
  replace hstB := hstB.keep hA5
  have kB := Blk.new_ w5 28 #[.int .i64 cap, .slice AB psB.length cB, .slice BB tsB.length eB] (w5.heap.size) (by simp)
  have hZ5 : Below w.heap.size w _ := hY5.trans (hA5.mono hY5.size)
  go_wp2_with fail
  refine (qD _ _ hst0).mono ?_
  rintro e w6 ⟨v6, rfl, hstD, hb6⟩
  obtain ⟨hc6, hf6⟩ := bcell hb6
  have hz6 := hb6.size
  simp at hz6
  replace hst0 := hst0.keep hb6
  replace kC := kC.keep hb6
  replace hstA := hstA.keep hb6
  replace kA := kA.keep hb6
  replace hstB := hstB.keep hb6
  replace kB := kB.keep hb6
  have hY6 := hZ5.trans (hb6.mono hZ5.size)
  have zkC_6 : w.heap.size < w6.heap.size := by omega
  have zkA_6 : w4.heap.size < w6.heap.size := by omega
  have zkB_6 : w5.heap.size < w6.heap.size := by omega
  replace hstD := hstD.to
  try dsimp only at hstD
  obtain ⟨AD, cD, BD, eD, rfl, hstD⟩ := hstD.form
  have hA6 := ((Below.refl w6.heap.size w6).alloc (Nat.le_refl _) (.cells #[.int .i64 cap, .slice AD psD.length cD, .slice BD tsD.length eD] 28))
  replace hst0 := hst0.keep hA6
  replace kC := kC.keep hA6
  replace hstA := hstA.keep hA6
  replace kA := kA.keep hA6
  replace hstB := hstB.keep hA6
  replace kB := kB.keep hA6
  replace hstD := hstD.keep hA6
  have kD := Blk.new_ w6 28 #[.int .i64 cap, .slice AD psD.length cD, .slice BD tsD.length eD] (w6.heap.size) (by simp)
  have hZ6 : Below w.heap.size w _ := hY6.trans (hA6.mono hY6.size)
  go_wp2_with fail
  refine (qSA _ _ _ hstA hst0).mono ?_
  rintro e w7 ⟨rfl, hb7⟩
  obtain ⟨hc7, hf7⟩ := bcell hb7
  have hz7 := hb7.size
  simp at hz7
  replace hst0 := hst0.keep hb7
  replace kC := kC.keep hb7
  replace hstA := hstA.keep hb7
  replace kA := kA.keep hb7
  replace hstB := hstB.keep hb7
  replace kB := kB.keep hb7
  replace hstD := hstD.keep hb7
  replace kD := kD.keep hb7
  have hY7 := hZ6.trans (hb7.mono hZ6.size)
  have zkC_7 : w.heap.size < w7.heap.size := by omega
  have zkA_7 : w4.heap.size < w7.heap.size := by omega
  have zkB_7 : w5.heap.size < w7.heap.size := by omega
  have zkD_7 : w6.heap.size < w7.heap.size := by omega
  have hZ7 : Below w.heap.size w w7 := hY7
  go_wp2_with fail
  refine (qSB _ _ _ hstB hst0).mono ?_
  rintro e w8 ⟨rfl, hb8⟩
  obtain ⟨hc8, hf8⟩ := bcell hb8
  have hz8 := hb8.size
  replace hst0 := hst0.keep hb8
  replace kC := kC.keep hb8
  replace hstA := hstA.keep hb8
  replace kA := kA.keep hb8
  replace hstB := hstB.keep hb8
  replace kB := kB.keep hb8
  replace hstD := hstD.keep hb8
  replace kD := kD.keep hb8
  have hY8 := hZ7.trans (hb8.mono hZ7.size)
  have zkC_8 : w.heap.size < w8.heap.size := by omega
  have zkA_8 : w4.heap.size < w8.heap.size := by omega
  have zkB_8 : w5.heap.size < w8.heap.size := by omega
  have zkD_8 : w6.heap.size < w8.heap.size := by omega
  have hZ8 : Below w.heap.size w w8 := hY8
  go_wp2_with fail
  refine (qSD _ _ _ hstD hst0).mono ?_
  rintro e w9 ⟨rfl, hb9⟩
  obtain ⟨hc9, hf9⟩ := bcell hb9
  have hz9 := hb9.size
  replace hst0 := hst0.keep hb9
  replace kC := kC.keep hb9
  replace hstA := hstA.keep hb9
  replace kA := kA.keep hb9
  replace hstB := hstB.keep hb9
  replace kB := kB.keep hb9
  replace hstD := hstD.keep hb9
  replace kD := kD.keep hb9
  have hY9 := hZ8.trans (hb9.mono hZ8.size)
  have zkC_9 : w.heap.size < w9.heap.size := by omega
  have zkA_9 : w4.heap.size < w9.heap.size := by omega
  have zkB_9 : w5.heap.size < w9.heap.size := by omega
  have zkD_9 : w6.heap.size < w9.heap.size := by omega
  have hZ9 : Below w.heap.size w w9 := hY9
  go_wp2_with fail
  refine (qMA _ _ hstA).mono ?_
  rintro e w10 ⟨rfl, hb10⟩
  obtain ⟨hc10, hf10⟩ := bcell hb10
  have hz10 := hb10.size
  replace hst0 := hst0.keep hb10
  replace kC := kC.keep hb10
  replace hstA := hstA.keep hb10
  replace kA := kA.keep hb10
  replace hstB := hstB.keep hb10
  replace kB := kB.keep hb10
  replace hstD := hstD.keep hb10
  replace kD := kD.keep hb10
  have hY10 := hZ9.trans (hb10.mono hZ9.size)
  have zkC_10 : w.heap.size < w10.heap.size := by omega
  have zkA_10 : w4.heap.size < w10.heap.size := by omega
  have zkB_10 : w5.heap.size < w10.heap.size := by omega
  have zkD_10 : w6.heap.size < w10.heap.size := by omega
  have hZ10 : Below w.heap.size w w10 := hY10
  go_wp2_with fail
  refine (qMB _ _ hstB).mono ?_
  rintro e w11 ⟨rfl, hb11⟩
  obtain ⟨hc11, hf11⟩ := bcell hb11
  have hz11 := hb11.size
  replace hst0 := hst0.keep hb11
  replace kC := kC.keep hb11
  replace hstA := hstA.keep hb11
  replace kA := kA.keep hb11
  replace hstB := hstB.keep hb11
  replace kB := kB.keep hb11
  replace hstD := hstD.keep hb11
  replace kD := kD.keep hb11
  have hY11 := hZ10.trans (hb11.mono hZ10.size)
  have zkC_11 : w.heap.size < w11.heap.size := by omega
  have zkA_11 : w4.heap.size < w11.heap.size := by omega
  have zkB_11 : w5.heap.size < w11.heap.size := by omega
  have zkD_11 : w6.heap.size < w11.heap.size := by omega
  have hZ11 : Below w.heap.size w w11 := hY11
  go_wp2_with fail
  refine (qMD _ _ hstD).mono ?_
  rintro e w12 ⟨rfl, hb12⟩
  obtain ⟨hc12, hf12⟩ := bcell hb12
  have hz12 := hb12.size
  replace hst0 := hst0.keep hb12
  replace kC := kC.keep hb12
  replace hstA := hstA.keep hb12
  replace kA := kA.keep hb12
  replace hstB := hstB.keep hb12
  replace kB := kB.keep hb12
  replace hstD := hstD.keep hb12
  replace kD := kD.keep hb12
  have hY12 := hZ11.trans (hb12.mono hZ11.size)
  have zkC_12 : w.heap.size < w12.heap.size := by omega
  have zkA_12 : w4.heap.size < w12.heap.size := by omega
  have zkB_12 : w5.heap.size < w12.heap.size := by omega
  have zkD_12 : w6.heap.size < w12.heap.size := by omega
  go_wp2_with fail
  have kC_0 : w12.cell? ⟨w.heap.size, 0, none⟩ = some (.int .i64 cap) := by rw [kC.cell]; rfl
  have kC_1 : w12.cell? ⟨w.heap.size, 1, none⟩ = some (.slice A0 ps.length c0) := by rw [kC.cell]; rfl
  have kC_lt := kC.lt
  have kA_0 : w12.cell? ⟨w4.heap.size, 0, none⟩ = some (.int .i64 cap) := by rw [kA.cell]; rfl
  have kA_1 : w12.cell? ⟨w4.heap.size, 1, none⟩ = some (.slice AA psA.length cA) := by rw [kA.cell]; rfl
  have kA_lt := kA.lt
  have kB_0 : w12.cell? ⟨w5.heap.size, 0, none⟩ = some (.int .i64 cap) := by rw [kB.cell]; rfl
  have kB_1 : w12.cell? ⟨w5.heap.size, 1, none⟩ = some (.slice AB psB.length cB) := by rw [kB.cell]; rfl
  have kB_lt := kB.lt
  have kD_0 : w12.cell? ⟨w6.heap.size, 0, none⟩ = some (.int .i64 cap) := by rw [kD.cell]; rfl
  have kD_1 : w12.cell? ⟨w6.heap.size, 1, none⟩ = some (.slice AD psD.length cD) := by rw [kD.cell]; rfl
  have kD_lt := kD.lt
  have G0 := (Below.refl w12.heap.size w12).drew
  refine wp_region_held_drew (S := fun w' => w'.cell? ⟨w.heap.size, 0, none⟩ = some (.int .i64 cap) ∧ w'.cell? ⟨w.heap.size, 1, none⟩ = some (.slice A0 ps.length c0) ∧ w'.cell? ⟨w4.heap.size, 0, none⟩ = some (.int .i64 cap) ∧ w'.cell? ⟨w4.heap.size, 1, none⟩ = some (.slice AA psA.length cA) ∧ w'.cell? ⟨w5.heap.size, 0, none⟩ = some (.int .i64 cap) ∧ w'.cell? ⟨w5.heap.size, 1, none⟩ = some (.slice AB psB.length cB) ∧ w'.cell? ⟨w6.heap.size, 0, none⟩ = some (.int .i64 cap) ∧ w'.cell? ⟨w6.heap.size, 1, none⟩ = some (.slice AD psD.length cD)) (by kernel_rfl) ?_ (fun hHeldpr => ?_)
  · exact ⟨(G0.cell (p := ⟨w.heap.size, 0, none⟩) kC_lt).trans kC_0, (G0.cell (p := ⟨w.heap.size, 1, none⟩) kC_lt).trans kC_1, (G0.cell (p := ⟨w4.heap.size, 0, none⟩) kA_lt).trans kA_0, (G0.cell (p := ⟨w4.heap.size, 1, none⟩) kA_lt).trans kA_1, (G0.cell (p := ⟨w5.heap.size, 0, none⟩) kB_lt).trans kB_0, (G0.cell (p := ⟨w5.heap.size, 1, none⟩) kB_lt).trans kB_1, (G0.cell (p := ⟨w6.heap.size, 0, none⟩) kD_lt).trans kD_0, (G0.cell (p := ⟨w6.heap.size, 1, none⟩) kD_lt).trans kD_1⟩
  refine wpAnyH_take (i := 0) (oi := { dst := some 96, op := Op.fieldAddr 28 (Operand.tmp 16) 0, type := 0, pos := "law.go:124", after := _, guard := none }) (v := ?vpr0) rfl (by kernel_rfl) (by kernel_rfl) (by kernel_rfl) (fun _ _ _ h => h) (Or.inl ⟨by rfl, ?hypr0⟩) (by assumption) ?restpr0
  case hypr0 => (intro w hSw; (try dsimp only at hSw); go_simp <;> with_reducible rfl)
  try simp only [Act.put, List.setIfInBounds_toArray, List.set_cons_zero, List.set_cons_succ]
  refine wpAnyH_take (i := 1) (oi := { dst := some 97, op := Op.load 25 (Operand.tmp 96), type := 25, pos := "law.go:124", after := _, guard := none }) (v := ?vpr1) rfl (by kernel_rfl) (by kernel_rfl) (by kernel_rfl) (fun _ _ _ h => h) (Or.inl ⟨by rfl, ?hypr1⟩) (by assumption) ?restpr1
  case hypr1 => (intro w hSw; (try dsimp only at hSw); go_simp <;> with_reducible rfl)
  try simp only [Act.put, List.setIfInBounds_toArray, List.set_cons_zero, List.set_cons_succ]
  refine wpAnyH_take (i := 3) (oi := { dst := some 99, op := Op.fieldAddr 28 (Operand.tmp 4) 0, type := 0, pos := "law.go:124", after := _, guard := none }) (v := ?vpr3) rfl (by kernel_rfl) (by kernel_rfl) (by kernel_rfl) (fun _ _ _ h => h) (Or.inl ⟨by rfl, ?hypr3⟩) (by assumption) ?restpr3
  case hypr3 => (intro w hSw; (try dsimp only at hSw); go_simp <;> with_reducible rfl)
  try simp only [Act.put, List.setIfInBounds_toArray, List.set_cons_zero, List.set_cons_succ]
  refine wpAnyH_take (i := 4) (oi := { dst := some 100, op := Op.load 25 (Operand.tmp 99), type := 25, pos := "law.go:124", after := _, guard := none }) (v := ?vpr4) rfl (by kernel_rfl) (by kernel_rfl) (by kernel_rfl) (fun _ _ _ h => h) (Or.inl ⟨by rfl, ?hypr4⟩) (by assumption) ?restpr4
  case hypr4 => (intro w hSw; (try dsimp only at hSw); go_simp <;> with_reducible rfl)
  try simp only [Act.put, List.setIfInBounds_toArray, List.set_cons_zero, List.set_cons_succ]
  refine wpAnyH_ready (rs := [2]) (by kernel_rfl) (by simp) ?_
  refine AllReadyH.cons (o := { dst := some 98, op := Op.call { callee := Callee.value (Operand.func 25), args := #[Operand.tmp 97], argTypes := #[25] }, type := 3, pos := "law.go:124", after := _, guard := none }) rfl (fun K hK => ?_) AllReadyH.nil
  go_simp
  refine (qUD _ _ (hstD.keep G0).store).mono ?_
  rintro x x1 ⟨rfl, hx1⟩
  have G1 := G0.trans (hx1.mono G0.size)
  try go_wp2_with fail
  refine hK.out _ _ ?_ (fun hHeldpr2 => ?_)
  · exact ⟨(G1.cell (p := ⟨w.heap.size, 0, none⟩) kC_lt).trans kC_0, (G1.cell (p := ⟨w.heap.size, 1, none⟩) kC_lt).trans kC_1, (G1.cell (p := ⟨w4.heap.size, 0, none⟩) kA_lt).trans kA_0, (G1.cell (p := ⟨w4.heap.size, 1, none⟩) kA_lt).trans kA_1, (G1.cell (p := ⟨w5.heap.size, 0, none⟩) kB_lt).trans kB_0, (G1.cell (p := ⟨w5.heap.size, 1, none⟩) kB_lt).trans kB_1, (G1.cell (p := ⟨w6.heap.size, 0, none⟩) kD_lt).trans kD_0, (G1.cell (p := ⟨w6.heap.size, 1, none⟩) kD_lt).trans kD_1⟩
  clear hK K hHeldpr
  try simp only [Act.put, List.setIfInBounds_toArray, List.set_cons_zero, List.set_cons_succ]
  refine wpAnyH_ready (rs := [5]) (by kernel_rfl) (by simp) ?_
  refine AllReadyH.cons (o := { dst := some 101, op := Op.call { callee := Callee.value (Operand.func 25), args := #[Operand.tmp 100], argTypes := #[25] }, type := 3, pos := "law.go:124", after := _, guard := none }) rfl (fun K hK => ?_) AllReadyH.nil
  go_simp
  refine (qUH _ _ (hst0.keep G1).store).mono ?_
  rintro x x2 ⟨rfl, hx2⟩
  have G2 := G1.trans (hx2.mono G1.size)
  try go_wp2_with fail
  refine hK.out _ _ ?_ (fun hHeldpr5 => ?_)
  · exact ⟨(G2.cell (p := ⟨w.heap.size, 0, none⟩) kC_lt).trans kC_0, (G2.cell (p := ⟨w.heap.size, 1, none⟩) kC_lt).trans kC_1, (G2.cell (p := ⟨w4.heap.size, 0, none⟩) kA_lt).trans kA_0, (G2.cell (p := ⟨w4.heap.size, 1, none⟩) kA_lt).trans kA_1, (G2.cell (p := ⟨w5.heap.size, 0, none⟩) kB_lt).trans kB_0, (G2.cell (p := ⟨w5.heap.size, 1, none⟩) kB_lt).trans kB_1, (G2.cell (p := ⟨w6.heap.size, 0, none⟩) kD_lt).trans kD_0, (G2.cell (p := ⟨w6.heap.size, 1, none⟩) kD_lt).trans kD_1⟩
  clear hK K hHeldpr2
  try simp only [Act.put, List.setIfInBounds_toArray, List.set_cons_zero, List.set_cons_succ]
  refine wpAnyH_take (i := 6) (oi := { dst := some 102, op := Op.binOp BinOp.leq 3 (Operand.tmp 98) (Operand.tmp 101) 3, type := 4, pos := "law.go:124", after := _, guard := none }) (v := .bool true) rfl (by kernel_rfl) (by kernel_rfl) (by kernel_rfl) (fun _ _ _ h => h) (Or.inl ⟨by rfl, ?hypr6⟩) (by assumption) ?restpr6
  case hypr6 => (intro w hSw; (try dsimp only at hSw); go_simp <;> first | done | with_reducible rfl | omega | (simp; done) | (simp; omega) | (simp [*]; done) | (simp [*]; omega) | exact decide_eq_false (by omega) | exact decide_eq_true (by omega))
  try simp only [Act.put, List.setIfInBounds_toArray, List.set_cons_zero, List.set_cons_succ]
  refine wpAnyH_take (i := 7) (oi := { dst := some 18, op := Op.assign (Operand.tmp 102), type := 4, pos := "law.go:124", after := _, guard := none }) (v := ?vpr7) rfl (by kernel_rfl) (by kernel_rfl) (by kernel_rfl) (fun _ _ _ h => h) (Or.inl ⟨by rfl, ?hypr7⟩) (by assumption) ?restpr7
  case hypr7 => (intro w hSw; (try dsimp only at hSw); go_simp <;> with_reducible rfl)
  try simp only [Act.put, List.setIfInBounds_toArray, List.set_cons_zero, List.set_cons_succ]
  refine wpAnyH_done (by kernel_rfl) ?_ _
  go_upto_region 13 with fail
  have G3 := G2.drew
  refine wp_region_held_drew (S := fun w' => w'.cell? ⟨w.heap.size, 0, none⟩ = some (.int .i64 cap) ∧ w'.cell? ⟨w.heap.size, 1, none⟩ = some (.slice A0 ps.length c0) ∧ w'.cell? ⟨w4.heap.size, 0, none⟩ = some (.int .i64 cap) ∧ w'.cell? ⟨w4.heap.size, 1, none⟩ = some (.slice AA psA.length cA) ∧ w'.cell? ⟨w5.heap.size, 0, none⟩ = some (.int .i64 cap) ∧ w'.cell? ⟨w5.heap.size, 1, none⟩ = some (.slice AB psB.length cB) ∧ w'.cell? ⟨w6.heap.size, 0, none⟩ = some (.int .i64 cap) ∧ w'.cell? ⟨w6.heap.size, 1, none⟩ = some (.slice AD psD.length cD)) (by kernel_rfl) ?_ (fun hHeldqr => ?_)
  · exact ⟨(G3.cell (p := ⟨w.heap.size, 0, none⟩) kC_lt).trans kC_0, (G3.cell (p := ⟨w.heap.size, 1, none⟩) kC_lt).trans kC_1, (G3.cell (p := ⟨w4.heap.size, 0, none⟩) kA_lt).trans kA_0, (G3.cell (p := ⟨w4.heap.size, 1, none⟩) kA_lt).trans kA_1, (G3.cell (p := ⟨w5.heap.size, 0, none⟩) kB_lt).trans kB_0, (G3.cell (p := ⟨w5.heap.size, 1, none⟩) kB_lt).trans kB_1, (G3.cell (p := ⟨w6.heap.size, 0, none⟩) kD_lt).trans kD_0, (G3.cell (p := ⟨w6.heap.size, 1, none⟩) kD_lt).trans kD_1⟩
  refine wpAnyH_take (i := 0) (oi := { dst := some 103, op := Op.move (Operand.tmp 18), type := 4, pos := "law.go:125", after := _, guard := none }) (v := ?vqr0) rfl (by kernel_rfl) (by kernel_rfl) (by kernel_rfl) (fun _ _ _ h => h) (Or.inl ⟨by rfl, ?hyqr0⟩) (by assumption) ?restqr0
  case hyqr0 => (intro w hSw; (try dsimp only at hSw); go_simp <;> with_reducible rfl)
  try simp only [Act.put, List.setIfInBounds_toArray, List.set_cons_zero, List.set_cons_succ]
  refine wpAnyH_take (i := 1) (oi := { dst := some 104, op := Op.move (Operand.tmp 103), type := 4, pos := "law.go:125", after := _, guard := none }) (v := ?vqr1) rfl (by kernel_rfl) (by kernel_rfl) (by kernel_rfl) (fun _ _ _ h => h) (Or.inl ⟨by rfl, ?hyqr1⟩) (by assumption) ?restqr1
  case hyqr1 => (intro w hSw; (try dsimp only at hSw); go_simp <;> with_reducible rfl)
  try simp only [Act.put, List.setIfInBounds_toArray, List.set_cons_zero, List.set_cons_succ]
  refine wpAnyH_take (i := 2) (oi := { dst := some 105, op := Op.fieldAddr 28 (Operand.tmp 13) 0, type := 0, pos := "law.go:125", after := _, guard := some (1, true) }) (v := ?vqr2) rfl (by kernel_rfl) (by kernel_rfl) (by kernel_rfl) (fun _ _ _ h => h) (Or.inl ⟨by rfl, ?hyqr2⟩) (by assumption) ?restqr2
  case hyqr2 => (intro w hSw; (try dsimp only at hSw); go_simp <;> with_reducible rfl)
  try simp only [Act.put, List.setIfInBounds_toArray, List.set_cons_zero, List.set_cons_succ]
  refine wpAnyH_take (i := 3) (oi := { dst := some 106, op := Op.load 25 (Operand.tmp 105), type := 25, pos := "law.go:125", after := _, guard := some (1, true) }) (v := ?vqr3) rfl (by kernel_rfl) (by kernel_rfl) (by kernel_rfl) (fun _ _ _ h => h) (Or.inl ⟨by rfl, ?hyqr3⟩) (by assumption) ?restqr3
  case hyqr3 => (intro w hSw; (try dsimp only at hSw); go_simp <;> with_reducible rfl)
  try simp only [Act.put, List.setIfInBounds_toArray, List.set_cons_zero, List.set_cons_succ]
  refine wpAnyH_take (i := 5) (oi := { dst := some 108, op := Op.fieldAddr 28 (Operand.tmp 4) 0, type := 0, pos := "law.go:125", after := _, guard := some (1, true) }) (v := ?vqr5) rfl (by kernel_rfl) (by kernel_rfl) (by kernel_rfl) (fun _ _ _ h => h) (Or.inl ⟨by rfl, ?hyqr5⟩) (by assumption) ?restqr5
  case hyqr5 => (intro w hSw; (try dsimp only at hSw); go_simp <;> with_reducible rfl)
  try simp only [Act.put, List.setIfInBounds_toArray, List.set_cons_zero, List.set_cons_succ]
  refine wpAnyH_take (i := 6) (oi := { dst := some 109, op := Op.load 25 (Operand.tmp 108), type := 25, pos := "law.go:125", after := _, guard := some (1, true) }) (v := ?vqr6) rfl (by kernel_rfl) (by kernel_rfl) (by kernel_rfl) (fun _ _ _ h => h) (Or.inl ⟨by rfl, ?hyqr6⟩) (by assumption) ?restqr6
  case hyqr6 => (intro w hSw; (try dsimp only at hSw); go_simp <;> with_reducible rfl)
  try simp only [Act.put, List.setIfInBounds_toArray, List.set_cons_zero, List.set_cons_succ]
  refine wpAnyH_ready (rs := [4]) (by kernel_rfl) (by simp) ?_
  refine AllReadyH.cons (o := { dst := some 107, op := Op.call { callee := Callee.value (Operand.func 25), args := #[Operand.tmp 106], argTypes := #[25] }, type := 3, pos := "law.go:125", after := _, guard := some (1, true) }) rfl (fun K hK => ?_) AllReadyH.nil
  go_simp
  refine (qUB _ _ (hstB.keep G3).store).mono ?_
  rintro x x4 ⟨rfl, hx4⟩
  have G4 := G3.trans (hx4.mono G3.size)
  try go_wp2_with fail
  refine hK.out _ _ ?_ (fun hHeldqr4 => ?_)
  · exact ⟨(G4.cell (p := ⟨w.heap.size, 0, none⟩) kC_lt).trans kC_0, (G4.cell (p := ⟨w.heap.size, 1, none⟩) kC_lt).trans kC_1, (G4.cell (p := ⟨w4.heap.size, 0, none⟩) kA_lt).trans kA_0, (G4.cell (p := ⟨w4.heap.size, 1, none⟩) kA_lt).trans kA_1, (G4.cell (p := ⟨w5.heap.size, 0, none⟩) kB_lt).trans kB_0, (G4.cell (p := ⟨w5.heap.size, 1, none⟩) kB_lt).trans kB_1, (G4.cell (p := ⟨w6.heap.size, 0, none⟩) kD_lt).trans kD_0, (G4.cell (p := ⟨w6.heap.size, 1, none⟩) kD_lt).trans kD_1⟩
  clear hK K hHeldqr
  try simp only [Act.put, List.setIfInBounds_toArray, List.set_cons_zero, List.set_cons_succ]
  refine wpAnyH_ready (rs := [7]) (by kernel_rfl) (by simp) ?_
  refine AllReadyH.cons (o := { dst := some 110, op := Op.call { callee := Callee.value (Operand.func 25), args := #[Operand.tmp 109], argTypes := #[25] }, type := 3, pos := "law.go:125", after := _, guard := some (1, true) }) rfl (fun K hK => ?_) AllReadyH.nil
  go_simp
  refine (qUH _ _ (hst0.keep G4).store).mono ?_
  rintro x x5 ⟨rfl, hx5⟩
  have G5 := G4.trans (hx5.mono G4.size)
  try go_wp2_with fail
  refine hK.out _ _ ?_ (fun hHeldqr7 => ?_)
  · exact ⟨(G5.cell (p := ⟨w.heap.size, 0, none⟩) kC_lt).trans kC_0, (G5.cell (p := ⟨w.heap.size, 1, none⟩) kC_lt).trans kC_1, (G5.cell (p := ⟨w4.heap.size, 0, none⟩) kA_lt).trans kA_0, (G5.cell (p := ⟨w4.heap.size, 1, none⟩) kA_lt).trans kA_1, (G5.cell (p := ⟨w5.heap.size, 0, none⟩) kB_lt).trans kB_0, (G5.cell (p := ⟨w5.heap.size, 1, none⟩) kB_lt).trans kB_1, (G5.cell (p := ⟨w6.heap.size, 0, none⟩) kD_lt).trans kD_0, (G5.cell (p := ⟨w6.heap.size, 1, none⟩) kD_lt).trans kD_1⟩
  clear hK K hHeldqr4
  try simp only [Act.put, List.setIfInBounds_toArray, List.set_cons_zero, List.set_cons_succ]
  refine wpAnyH_take (i := 8) (oi := { dst := some 111, op := Op.binOp BinOp.eql 3 (Operand.tmp 107) (Operand.tmp 110) 3, type := 4, pos := "law.go:125", after := _, guard := some (1, true) }) (v := .bool true) rfl (by kernel_rfl) (by kernel_rfl) (by kernel_rfl) (fun _ _ _ h => h) (Or.inl ⟨by rfl, ?hyqr8⟩) (by assumption) ?restqr8
  case hyqr8 => (intro w hSw; (try dsimp only at hSw); go_simp <;> first | done | with_reducible rfl | omega | (simp; done) | (simp; omega) | (simp [*]; done) | (simp [*]; omega) | exact decide_eq_false (by omega) | exact decide_eq_true (by omega))
  try simp only [Act.put, List.setIfInBounds_toArray, List.set_cons_zero, List.set_cons_succ]
  refine wpAnyH_take (i := 9) (oi := { dst := some 112, op := Op.pick (Operand.tmp 104) (Operand.tmp 111) (Operand.const (Value.bool false)), type := 4, pos := "law.go:125", after := _, guard := none }) (v := ?vqr9) rfl (by kernel_rfl) (by kernel_rfl) (by kernel_rfl) (fun _ _ _ h => h) (Or.inl ⟨by rfl, ?hyqr9⟩) (by assumption) ?restqr9
  case hyqr9 => (intro w hSw; (try dsimp only at hSw); go_simp <;> with_reducible rfl)
  try simp only [Act.put, List.setIfInBounds_toArray, List.set_cons_zero, List.set_cons_succ]
  refine wpAnyH_take (i := 10) (oi := { dst := some 113, op := Op.move (Operand.tmp 112), type := 4, pos := "law.go:125", after := _, guard := none }) (v := ?vqr10) rfl (by kernel_rfl) (by kernel_rfl) (by kernel_rfl) (fun _ _ _ h => h) (Or.inl ⟨by rfl, ?hyqr10⟩) (by assumption) ?restqr10
  case hyqr10 => (intro w hSw; (try dsimp only at hSw); go_simp <;> with_reducible rfl)
  try simp only [Act.put, List.setIfInBounds_toArray, List.set_cons_zero, List.set_cons_succ]
  refine wpAnyH_take (i := 11) (oi := { dst := some 114, op := Op.fieldAddr 28 (Operand.tmp 11) 0, type := 0, pos := "law.go:125", after := _, guard := some (10, true) }) (v := ?vqr11) rfl (by kernel_rfl) (by kernel_rfl) (by kernel_rfl) (fun _ _ _ h => h) (Or.inl ⟨by rfl, ?hyqr11⟩) (by assumption) ?restqr11
  case hyqr11 => (intro w hSw; (try dsimp only at hSw); go_simp <;> with_reducible rfl)
  try simp only [Act.put, List.setIfInBounds_toArray, List.set_cons_zero, List.set_cons_succ]
  refine wpAnyH_take (i := 12) (oi := { dst := some 115, op := Op.load 25 (Operand.tmp 114), type := 25, pos := "law.go:125", after := _, guard := some (10, true) }) (v := ?vqr12) rfl (by kernel_rfl) (by kernel_rfl) (by kernel_rfl) (fun _ _ _ h => h) (Or.inl ⟨by rfl, ?hyqr12⟩) (by assumption) ?restqr12
  case hyqr12 => (intro w hSw; (try dsimp only at hSw); go_simp <;> with_reducible rfl)
  try simp only [Act.put, List.setIfInBounds_toArray, List.set_cons_zero, List.set_cons_succ]
  refine wpAnyH_take (i := 14) (oi := { dst := some 117, op := Op.fieldAddr 28 (Operand.tmp 4) 0, type := 0, pos := "law.go:125", after := _, guard := some (10, true) }) (v := ?vqr14) rfl (by kernel_rfl) (by kernel_rfl) (by kernel_rfl) (fun _ _ _ h => h) (Or.inl ⟨by rfl, ?hyqr14⟩) (by assumption) ?restqr14
  case hyqr14 => (intro w hSw; (try dsimp only at hSw); go_simp <;> with_reducible rfl)
  try simp only [Act.put, List.setIfInBounds_toArray, List.set_cons_zero, List.set_cons_succ]
  refine wpAnyH_take (i := 15) (oi := { dst := some 118, op := Op.load 25 (Operand.tmp 117), type := 25, pos := "law.go:125", after := _, guard := some (10, true) }) (v := ?vqr15) rfl (by kernel_rfl) (by kernel_rfl) (by kernel_rfl) (fun _ _ _ h => h) (Or.inl ⟨by rfl, ?hyqr15⟩) (by assumption) ?restqr15
  case hyqr15 => (intro w hSw; (try dsimp only at hSw); go_simp <;> with_reducible rfl)
  try simp only [Act.put, List.setIfInBounds_toArray, List.set_cons_zero, List.set_cons_succ]
  refine wpAnyH_ready (rs := [13]) (by kernel_rfl) (by simp) ?_
  refine AllReadyH.cons (o := { dst := some 116, op := Op.call { callee := Callee.value (Operand.func 25), args := #[Operand.tmp 115], argTypes := #[25] }, type := 3, pos := "law.go:125", after := _, guard := some (10, true) }) rfl (fun K hK => ?_) AllReadyH.nil
  go_simp
  refine (qUA _ _ (hstA.keep G5).store).mono ?_
  rintro x x6 ⟨rfl, hx6⟩
  have G6 := G5.trans (hx6.mono G5.size)
  try go_wp2_with fail
  refine hK.out _ _ ?_ (fun hHeldqr13 => ?_)
  · exact ⟨(G6.cell (p := ⟨w.heap.size, 0, none⟩) kC_lt).trans kC_0, (G6.cell (p := ⟨w.heap.size, 1, none⟩) kC_lt).trans kC_1, (G6.cell (p := ⟨w4.heap.size, 0, none⟩) kA_lt).trans kA_0, (G6.cell (p := ⟨w4.heap.size, 1, none⟩) kA_lt).trans kA_1, (G6.cell (p := ⟨w5.heap.size, 0, none⟩) kB_lt).trans kB_0, (G6.cell (p := ⟨w5.heap.size, 1, none⟩) kB_lt).trans kB_1, (G6.cell (p := ⟨w6.heap.size, 0, none⟩) kD_lt).trans kD_0, (G6.cell (p := ⟨w6.heap.size, 1, none⟩) kD_lt).trans kD_1⟩
  clear hK K hHeldqr7
  try simp only [Act.put, List.setIfInBounds_toArray, List.set_cons_zero, List.set_cons_succ]
  refine wpAnyH_ready (rs := [16]) (by kernel_rfl) (by simp) ?_
  refine AllReadyH.cons (o := { dst := some 119, op := Op.call { callee := Callee.value (Operand.func 25), args := #[Operand.tmp 118], argTypes := #[25] }, type := 3, pos := "law.go:125", after := _, guard := some (10, true) }) rfl (fun K hK => ?_) AllReadyH.nil
  go_simp
  refine (qUH _ _ (hst0.keep G6).store).mono ?_
  rintro x x7 ⟨rfl, hx7⟩
  have G7 := G6.trans (hx7.mono G6.size)
  try go_wp2_with fail
  refine hK.out _ _ ?_ (fun hHeldqr16 => ?_)
  · exact ⟨(G7.cell (p := ⟨w.heap.size, 0, none⟩) kC_lt).trans kC_0, (G7.cell (p := ⟨w.heap.size, 1, none⟩) kC_lt).trans kC_1, (G7.cell (p := ⟨w4.heap.size, 0, none⟩) kA_lt).trans kA_0, (G7.cell (p := ⟨w4.heap.size, 1, none⟩) kA_lt).trans kA_1, (G7.cell (p := ⟨w5.heap.size, 0, none⟩) kB_lt).trans kB_0, (G7.cell (p := ⟨w5.heap.size, 1, none⟩) kB_lt).trans kB_1, (G7.cell (p := ⟨w6.heap.size, 0, none⟩) kD_lt).trans kD_0, (G7.cell (p := ⟨w6.heap.size, 1, none⟩) kD_lt).trans kD_1⟩
  clear hK K hHeldqr13
  try simp only [Act.put, List.setIfInBounds_toArray, List.set_cons_zero, List.set_cons_succ]
  refine wpAnyH_take (i := 17) (oi := { dst := some 120, op := Op.binOp BinOp.add 3 (Operand.tmp 119) (Operand.const (Value.int IntKind.i64 1)) 3, type := 3, pos := "law.go:125", after := _, guard := some (10, true) }) (v := ?vqr17) rfl (by kernel_rfl) (by kernel_rfl) (by kernel_rfl) (fun _ _ _ h => h) (Or.inl ⟨by rfl, ?hyqr17⟩) (by assumption) ?restqr17
  case hyqr17 => (intro w hSw; (try dsimp only at hSw); go_simp <;> with_reducible rfl)
  try simp only [Act.put, List.setIfInBounds_toArray, List.set_cons_zero, List.set_cons_succ]
  refine wpAnyH_take (i := 18) (oi := { dst := some 121, op := Op.binOp BinOp.leq 3 (Operand.tmp 116) (Operand.tmp 120) 3, type := 4, pos := "law.go:125", after := _, guard := some (10, true) }) (v := .bool true) rfl (by kernel_rfl) (by kernel_rfl) (by kernel_rfl) (fun _ _ _ h => h) (Or.inl ⟨by rfl, ?hyqr18⟩) (by assumption) ?restqr18
  case hyqr18 => (intro w hSw; (try dsimp only at hSw); go_simp <;> first | done | with_reducible rfl | omega | (simp; done) | (simp; omega) | (simp [*]; done) | (simp [*]; omega) | exact decide_eq_false (by omega) | exact decide_eq_true (by omega))
  try simp only [Act.put, List.setIfInBounds_toArray, List.set_cons_zero, List.set_cons_succ]
  refine wpAnyH_take (i := 19) (oi := { dst := some 122, op := Op.pick (Operand.tmp 113) (Operand.tmp 121) (Operand.const (Value.bool false)), type := 4, pos := "law.go:125", after := _, guard := none }) (v := ?vqr19) rfl (by kernel_rfl) (by kernel_rfl) (by kernel_rfl) (fun _ _ _ h => h) (Or.inl ⟨by rfl, ?hyqr19⟩) (by assumption) ?restqr19
  case hyqr19 => (intro w hSw; (try dsimp only at hSw); go_simp <;> with_reducible rfl)
  try simp only [Act.put, List.setIfInBounds_toArray, List.set_cons_zero, List.set_cons_succ]
  refine wpAnyH_take (i := 20) (oi := { dst := some 8, op := Op.assign (Operand.tmp 122), type := 4, pos := "law.go:125", after := _, guard := none }) (v := ?vqr20) rfl (by kernel_rfl) (by kernel_rfl) (by kernel_rfl) (fun _ _ _ h => h) (Or.inl ⟨by rfl, ?hyqr20⟩) (by assumption) ?restqr20
  case hyqr20 => (intro w hSw; (try dsimp only at hSw); go_simp <;> with_reducible rfl)
  try simp only [Act.put, List.setIfInBounds_toArray, List.set_cons_zero, List.set_cons_succ]
  refine wpAnyH_done (by kernel_rfl) ?_ _
  go_wp2
  go_ret
  exact ⟨rfl, hY12.trans (G7.mono hY12.size)⟩

theorem tableStays_walk (w : World) (v0 : Value) (cap : Int) (ps : List Pg) (ts : List (List Int)) (hst0 : HpV w v0 cap ps ts) (_wc : okI cap) (_wp : ∀ q ∈ ps, pgOk q) (_wt : ∀ t ∈ ts, ∀ q ∈ t, okI q) (t : Int) (_w0 : (Lit.int .i64 t).wf = true) (a : Int) (_w1 : (Lit.int .i64 a).wf = true) (v : Int) (_w2 : (Lit.int .i64 v).wf = true) :
    Calls Try.prog 8 #[v0, .int .i64 t, .int .i64 a, .int .i64 v] w fun e w' => e = .returned (.bool true) ∧ Below w.heap.size w w' := by
  obtain ⟨A0, c0, B0, e0, rfl, hst0⟩ := hst0.form
  cases hF : fewH ps ts with
  | false => exact tableStays_many w A0 B0 c0 e0 cap ps ts hst0 t a v hF
  | true =>
  have ln : ps.length ≤ 20 := (few_iff.1 hF).2.1
  cases hM : mayH cap ps ts with
  | false => exact tableStays_bad w A0 B0 c0 e0 cap ps ts hst0 t a v hF hM ln
  | true =>
  have HM := mayH_iff.1 hM
  have lm : ts.length ≤ 5 := HM.five
  have ll : ∀ t ∈ ts, t.length ≤ 4 := fun t ht => by rcases HM.len t ht with h | h <;> omega
  rcases hA : writeH cap ps ts t a v with ⟨eA, psA, tsA⟩
  rcases hB : forkH cap ps ts t with ⟨nB, eB, psB, tsB⟩
  rcases hD : dropH cap ps ts t with ⟨nD, eD, psD, tsD⟩
  have HA := stays_write HM hA
  have HB := stays_fork HM hB
  have HD := stays_drop HM hD
  have lA := HA.1.lens.1
  have lB := HB.1.lens.1
  have lD := HD.1.lens.1
  have hu : usedL cap ps = (usedN ps : Int) := by unfold usedL; rw [if_pos HM.may]
  have hle := usedN_le ps
  have b0 : 0 ≤ usedL cap ps := by rw [hu]; omega
  have b1 : usedL cap ps ≤ 20 := by rw [hu]; omega
  by_cases zA : eA = 0
  · by_cases zB : eB = 0
    · by_cases zD : eD = 0
      · exact tableStays_ooo w A0 B0 c0 e0 cap ps ts hst0 t a v hF hM ln lm ll eA nB eB nD eD (usedL cap ps) (usedL cap psA) (usedL cap psD) psA psB psD tsA tsB tsD hA hB hD (by omega) (by omega) (by omega) (mayH_iff.2 HA.1) (mayH_iff.2 HB.1) (mayH_iff.2 HD.1) rfl rfl HB.2.2.symm rfl b0 b1 HD.2.2 HA.2.2 zA zB zD
      · exact tableStays_ooD w A0 B0 c0 e0 cap ps ts hst0 t a v hF hM ln lm ll eA nB eB nD eD (usedL cap ps) (usedL cap psA) (usedL cap psD) psA psB psD tsA tsB tsD hA hB hD (by omega) (by omega) (by omega) (mayH_iff.2 HA.1) (mayH_iff.2 HB.1) (mayH_iff.2 HD.1) rfl rfl HB.2.2.symm rfl b0 b1 HD.2.2 HA.2.2 zA zB (by simpa using zD) (HD.2.1 zD)
    · by_cases zD : eD = 0
      · exact tableStays_oBo w A0 B0 c0 e0 cap ps ts hst0 t a v hF hM ln lm ll eA nB eB nD eD (usedL cap ps) (usedL cap psA) (usedL cap psD) psA psB psD tsA tsB tsD hA hB hD (by omega) (by omega) (by omega) (mayH_iff.2 HA.1) (mayH_iff.2 HB.1) (mayH_iff.2 HD.1) rfl rfl HB.2.2.symm rfl b0 b1 HD.2.2 HA.2.2 zA (by simpa using zB) (HB.2.1 zB) zD
      · exact tableStays_oBD w A0 B0 c0 e0 cap ps ts hst0 t a v hF hM ln lm ll eA nB eB nD eD (usedL cap ps) (usedL cap psA) (usedL cap psD) psA psB psD tsA tsB tsD hA hB hD (by omega) (by omega) (by omega) (mayH_iff.2 HA.1) (mayH_iff.2 HB.1) (mayH_iff.2 HD.1) rfl rfl HB.2.2.symm rfl b0 b1 HD.2.2 HA.2.2 zA (by simpa using zB) (HB.2.1 zB) (by simpa using zD) (HD.2.1 zD)
  · by_cases zB : eB = 0
    · by_cases zD : eD = 0
      · exact tableStays_Aoo w A0 B0 c0 e0 cap ps ts hst0 t a v hF hM ln lm ll eA nB eB nD eD (usedL cap ps) (usedL cap psA) (usedL cap psD) psA psB psD tsA tsB tsD hA hB hD (by omega) (by omega) (by omega) (mayH_iff.2 HA.1) (mayH_iff.2 HB.1) (mayH_iff.2 HD.1) rfl rfl HB.2.2.symm rfl b0 b1 HD.2.2 HA.2.2 (by simpa using zA) (HA.2.1 zA) zB zD
      · exact tableStays_AoD w A0 B0 c0 e0 cap ps ts hst0 t a v hF hM ln lm ll eA nB eB nD eD (usedL cap ps) (usedL cap psA) (usedL cap psD) psA psB psD tsA tsB tsD hA hB hD (by omega) (by omega) (by omega) (mayH_iff.2 HA.1) (mayH_iff.2 HB.1) (mayH_iff.2 HD.1) rfl rfl HB.2.2.symm rfl b0 b1 HD.2.2 HA.2.2 (by simpa using zA) (HA.2.1 zA) zB (by simpa using zD) (HD.2.1 zD)
    · by_cases zD : eD = 0
      · exact tableStays_ABo w A0 B0 c0 e0 cap ps ts hst0 t a v hF hM ln lm ll eA nB eB nD eD (usedL cap ps) (usedL cap psA) (usedL cap psD) psA psB psD tsA tsB tsD hA hB hD (by omega) (by omega) (by omega) (mayH_iff.2 HA.1) (mayH_iff.2 HB.1) (mayH_iff.2 HD.1) rfl rfl HB.2.2.symm rfl b0 b1 HD.2.2 HA.2.2 (by simpa using zA) (HA.2.1 zA) (by simpa using zB) (HB.2.1 zB) zD
      · exact tableStays_ABD w A0 B0 c0 e0 cap ps ts hst0 t a v hF hM ln lm ll eA nB eB nD eD (usedL cap ps) (usedL cap psA) (usedL cap psD) psA psB psD tsA tsB tsD hA hB hD (by omega) (by omega) (by omega) (mayH_iff.2 HA.1) (mayH_iff.2 HB.1) (mayH_iff.2 HD.1) rfl rfl HB.2.2.symm rfl b0 b1 HD.2.2 HA.2.2 (by simpa using zA) (HA.2.1 zA) (by simpa using zB) (HB.2.1 zB) (by simpa using zD) (HD.2.1 zD)
end Go.Proofs.Ytoogobenjhmjjaa
