/- The walk of NameSigns. -/
import Derived.Deep.RegionHeld3
import Derived.Deep.DrawnRows
import Derived.Laws.BytesString
import Derived.Test.YtahpogbcodfdmaaNmAwake
import Derived.Test.YtahpogbcodfdmaaNmPlain2
namespace Go.Proofs.Ytahpogbcodfdmaa
open Go Go.RowKit
set_option linter.unusedVariables false

theorem conv_one (W : World) (o : Obj) (c : Int) (hc : (W.alloc o).cell? ⟨W.heap.size, 0, none⟩ = some (.int .u8 c)) :
    (convert 31 9 (.slice (some ⟨W.heap.size, 0, none⟩) 1 1)).run Try.prog ((W.alloc o).drew) = .ok (.string ⟨#[UInt8.ofNat c.toNat]⟩) ((W.alloc o).drew) := by
  rw [run_convert_bytes_string (P := Try.prog) _ 31 9 5 _ 1 1 Try.underlying31 Try.underlying5 Try.underlying9]
  exact run_bytesToString (P := Try.prog) _ _ 1 1 [c] (by
    have := run_load_cells Try.prog ((W.alloc o).drew) W.heap.size 0 [.int .u8 c] 1 rfl (fun j v hj => by
      match j, hj with
      | 0, hj => simp at hj; subst hj; exact hc)
    simpa [loadCells] using this)

set_option maxRecDepth 100000 in
set_option maxHeartbeats 4000000 in
theorem signs_long (s : ByteArray) (c k : Int) (hs : 200 < s.size) (w : World) :
    Calls Try.prog 7 #[.string s, .int .u8 c, .int .i64 k] w fun e w' => e = .returned (.bool true) ∧ Below w.heap.size w w' := by
  have hs' : (200 : Int) < (s.size : Int) := by omega
  go_enter Try.func7, Try.ntmps7
  have hY0 := Below.refl w.heap.size w
  go_wp2_with fail
  refine (awake_any _).mono ?_
  rintro e w1 ⟨rfl, hb⟩
  replace hY0 := hY0.trans (hb.mono hY0.size)
  clear hb
  go_wp2
  go_ret
  exact ⟨rfl, hY0⟩

set_option maxRecDepth 100000 in
set_option maxHeartbeats 4000000 in
theorem signs_neg (s : ByteArray) (c k : Int) (hs : s.size ≤ 200) (hk : k < 0) (w : World) :
    Calls Try.prog 7 #[.string s, .int .u8 c, .int .i64 k] w fun e w' => e = .returned (.bool true) ∧ Below w.heap.size w w' := by
  have hs' : ¬ (200 : Int) < (s.size : Int) := by omega
  go_enter Try.func7, Try.ntmps7
  have hY0 := Below.refl w.heap.size w
  go_wp2_with fail
  refine (awake_any _).mono ?_
  rintro e w1 ⟨rfl, hb⟩
  replace hY0 := hY0.trans (hb.mono hY0.size)
  clear hb
  go_wp2
  go_ret
  exact ⟨rfl, hY0⟩

set_option maxRecDepth 100000 in
set_option maxHeartbeats 4000000 in
theorem signs_big (s : ByteArray) (c k : Int) (hs : s.size ≤ 200) (hk : ¬ k < 0) (hk2 : (s.size : Int) < k) (w : World) :
    Calls Try.prog 7 #[.string s, .int .u8 c, .int .i64 k] w fun e w' => e = .returned (.bool true) ∧ Below w.heap.size w w' := by
  have hs' : ¬ (200 : Int) < (s.size : Int) := by omega
  go_enter Try.func7, Try.ntmps7
  have hY0 := Below.refl w.heap.size w
  go_wp2_with fail
  refine (awake_any _).mono ?_
  rintro e w1 ⟨rfl, hb⟩
  replace hY0 := hY0.trans (hb.mono hY0.size)
  clear hb
  go_wp2
  go_ret
  exact ⟨rfl, hY0⟩

set_option maxRecDepth 100000 in
set_option maxHeartbeats 4000000 in
theorem signs_a0 (s : ByteArray) (c : Int) (k n : Nat) (hs : s.size ≤ 200) (hk : k ≤ s.size) (c1 : 97 ≤ c) (c2 : c ≤ 122)(d2 : ∀ W : World, Calls Try.prog 15 #[.string s] W fun e w' => e = .returned (.int .i64 (n : Nat)) ∧ Below W.heap.size W w')(hn : n = 0) (w : World) :
    Calls Try.prog 7 #[.string s, .int .u8 c, .int .i64 (k : Int)] w fun e w' => e = .returned (.bool true) ∧ Below w.heap.size w w' := by
  have hs' : ¬ (200 : Int) < (s.size : Int) := by omega
  have hk0 : ¬ (k : Int) < 0 := by omega
  have hk2 : ¬ (s.size : Int) < (k : Int) := by omega
  have hk3 : (0 : Int) ≤ (k : Int) := by omega
  have hk4 : (k : Int) ≤ (s.size : Int) := by omega
  have hcv := fun W : World => conv_one W (.cells #[.int .u8 c] 5) c (by simp)
  have e1 : ∀ W, (Op.stringOp .add (s.extract 0 k) ⟨#[UInt8.ofNat c.toNat]⟩).run Try.prog W = .ok (.string (s.extract 0 k ++ ⟨#[UInt8.ofNat c.toNat]⟩)) W := fun W => run_string_add_sum W _ _ (by rw [ByteArray.size_extract]; show _ + 1 ≤ _; omega)
  have e2 : ∀ W, (Op.stringOp .add (s.extract 0 k ++ ⟨#[UInt8.ofNat c.toNat]⟩) (s.extract k s.size)).run Try.prog W = .ok (.string (s.extract 0 k ++ ⟨#[UInt8.ofNat c.toNat]⟩ ++ s.extract k s.size)) W := fun W => run_string_add_sum W _ _ (by rw [ByteArray.size_append, ByteArray.size_extract, ByteArray.size_extract]; show _ + 1 + _ ≤ _; omega)
  generalize s.extract 0 k ++ ⟨#[UInt8.ofNat c.toNat]⟩ ++ s.extract k s.size = x at *
  generalize s.extract 0 k ++ ⟨#[UInt8.ofNat c.toNat]⟩ = x1 at *
  have e7 : ∀ W, (Op.stringOp .add s ⟨#[55]⟩).run Try.prog W = .ok (.string (s ++ ⟨#[55]⟩)) W := fun W => run_string_add_sum W s _ (by show _ + 1 ≤ _; omega)
  generalize s ++ ⟨#[55]⟩ = s7 at *
  subst hn
  go_enter Try.func7, Try.ntmps7
  have hY0 := Below.refl w.heap.size w
  go_wp2_with fail
  refine (awake_any _).mono ?_
  rintro e w1 ⟨rfl, hb⟩
  replace hY0 := hY0.trans (hb.mono hY0.size)
  clear hb
  go_wp2_with fail
  have hcv1 := hcv w1
  clear hcv
  refine wp_region_held_drew (S := fun _ => True) (by kernel_rfl) ?_ (fun hHeldbr => ?_)
  · trivial
  refine wpAnyH_take (i := 0) (oi := { dst := some 48, op := Op.move (Operand.tmp 0), type := 9, pos := "law.go:81", after := _, guard := none }) (v := ?vbr0) rfl (by kernel_rfl) (by kernel_rfl) (by kernel_rfl) (fun _ _ _ h => h) (Or.inl ⟨by rfl, ?hybr0⟩) (by assumption) ?restbr0
  case hybr0 => (intro w hSw; (try dsimp only at hSw); go_simp <;> with_reducible rfl)
  try simp only [Act.put, List.setIfInBounds_toArray, List.set_cons_zero, List.set_cons_succ]
  refine wpAnyH_take (i := 1) (oi := { dst := some 49, op := Op.move (Operand.tmp 2), type := 3, pos := "law.go:81", after := _, guard := none }) (v := ?vbr1) rfl (by kernel_rfl) (by kernel_rfl) (by kernel_rfl) (fun _ _ _ h => h) (Or.inl ⟨by rfl, ?hybr1⟩) (by assumption) ?restbr1
  case hybr1 => (intro w hSw; (try dsimp only at hSw); go_simp <;> with_reducible rfl)
  try simp only [Act.put, List.setIfInBounds_toArray, List.set_cons_zero, List.set_cons_succ]
  refine wpAnyH_take (i := 2) (oi := { dst := some 50, op := Op.slice 9 (Operand.tmp 48) none (some (Operand.tmp 49)) none, type := 9, pos := "law.go:81", after := _, guard := none }) (v := ?vbr2) rfl (by kernel_rfl) (by kernel_rfl) (by kernel_rfl) (fun _ _ _ h => h) (Or.inl ⟨by rfl, ?hybr2⟩) (by assumption) ?restbr2
  case hybr2 => (intro w hSw; (try dsimp only at hSw); go_simp <;> with_reducible rfl)
  try simp only [Act.put, List.setIfInBounds_toArray, List.set_cons_zero, List.set_cons_succ]
  refine wpAnyH_take (i := 3) (oi := { dst := some 51, op := Op.move (Operand.tmp 1), type := 5, pos := "law.go:81", after := _, guard := none }) (v := ?vbr3) rfl (by kernel_rfl) (by kernel_rfl) (by kernel_rfl) (fun _ _ _ h => h) (Or.inl ⟨by rfl, ?hybr3⟩) (by assumption) ?restbr3
  case hybr3 => (intro w hSw; (try dsimp only at hSw); go_simp <;> with_reducible rfl)
  try simp only [Act.put, List.setIfInBounds_toArray, List.set_cons_zero, List.set_cons_succ]
  refine wpAnyH_take (i := 7) (oi := { dst := some 55, op := Op.move (Operand.tmp 0), type := 9, pos := "law.go:81", after := _, guard := none }) (v := ?vbr7) rfl (by kernel_rfl) (by kernel_rfl) (by kernel_rfl) (fun _ _ _ h => h) (Or.inl ⟨by rfl, ?hybr7⟩) (by assumption) ?restbr7
  case hybr7 => (intro w hSw; (try dsimp only at hSw); go_simp <;> with_reducible rfl)
  try simp only [Act.put, List.setIfInBounds_toArray, List.set_cons_zero, List.set_cons_succ]
  refine wpAnyH_take (i := 8) (oi := { dst := some 56, op := Op.move (Operand.tmp 2), type := 3, pos := "law.go:81", after := _, guard := none }) (v := ?vbr8) rfl (by kernel_rfl) (by kernel_rfl) (by kernel_rfl) (fun _ _ _ h => h) (Or.inl ⟨by rfl, ?hybr8⟩) (by assumption) ?restbr8
  case hybr8 => (intro w hSw; (try dsimp only at hSw); go_simp <;> with_reducible rfl)
  try simp only [Act.put, List.setIfInBounds_toArray, List.set_cons_zero, List.set_cons_succ]
  refine wpAnyH_take (i := 9) (oi := { dst := some 57, op := Op.slice 9 (Operand.tmp 55) (some (Operand.tmp 56)) none none, type := 9, pos := "law.go:81", after := _, guard := none }) (v := ?vbr9) rfl (by kernel_rfl) (by kernel_rfl) (by kernel_rfl) (fun _ _ _ h => h) (Or.inl ⟨by rfl, ?hybr9⟩) (by assumption) ?restbr9
  case hybr9 => (intro w hSw; (try dsimp only at hSw); go_simp <;> with_reducible rfl)
  try simp only [Act.put, List.setIfInBounds_toArray, List.set_cons_zero, List.set_cons_succ]
  refine wpAnyH_ready (rs := [4]) (by kernel_rfl) (by simp) ?_
  refine AllReadyH.cons (o := { dst := some 52, op := Op.buildSlice 31 1 #[(0, Operand.tmp 51)], type := 31, pos := "law.go:81", after := _, guard := none }) rfl (fun K hK => ?_) AllReadyH.nil
  go_simp
  skip
  refine hK.out _ _ ?_ (fun hHeldbr4 => ?_)
  · trivial
  clear hK K hHeldbr
  try simp only [Act.put, List.setIfInBounds_toArray, List.set_cons_zero, List.set_cons_succ]
  refine wpAnyH_ready (rs := [5]) (by kernel_rfl) (by simp) ?_
  refine AllReadyH.cons (o := { dst := some 53, op := Op.convert 31 9 (Operand.tmp 52), type := 9, pos := "law.go:81", after := _, guard := none }) rfl (fun K hK => ?_) AllReadyH.nil
  go_simp
  skip
  refine hK.out _ _ ?_ (fun hHeldbr5 => ?_)
  · trivial
  clear hK K hHeldbr4
  try simp only [Act.put, List.setIfInBounds_toArray, List.set_cons_zero, List.set_cons_succ]
  refine wpAnyH_take (i := 6) (oi := { dst := some 54, op := Op.binOp BinOp.add 9 (Operand.tmp 50) (Operand.tmp 53) 9, type := 9, pos := "law.go:81", after := _, guard := none }) (v := ?vbr6) rfl (by kernel_rfl) (by kernel_rfl) (by kernel_rfl) (fun _ _ _ h => h) (Or.inl ⟨by rfl, ?hybr6⟩) (by assumption) ?restbr6
  case hybr6 => (intro w hSw; (try dsimp only at hSw); go_simp <;> with_reducible rfl)
  try simp only [Act.put, List.setIfInBounds_toArray, List.set_cons_zero, List.set_cons_succ]
  refine wpAnyH_take (i := 10) (oi := { dst := some 58, op := Op.binOp BinOp.add 9 (Operand.tmp 54) (Operand.tmp 57) 9, type := 9, pos := "law.go:81", after := _, guard := none }) (v := ?vbr10) rfl (by kernel_rfl) (by kernel_rfl) (by kernel_rfl) (fun _ _ _ h => h) (Or.inl ⟨by rfl, ?hybr10⟩) (by assumption) ?restbr10
  case hybr10 => (intro w hSw; (try dsimp only at hSw); go_simp <;> with_reducible rfl)
  try simp only [Act.put, List.setIfInBounds_toArray, List.set_cons_zero, List.set_cons_succ]
  refine wpAnyH_ready (rs := [11]) (by kernel_rfl) (by simp) ?_
  refine AllReadyH.cons (o := { dst := some 9, op := Op.assign (Operand.tmp 58), type := 9, pos := "law.go:81", after := _, guard := none }) rfl (fun K hK => ?_) AllReadyH.nil
  go_simp
  skip
  refine hK.out _ _ ?_ (fun hHeldbr11 => ?_)
  · trivial
  clear hK K hHeldbr5
  try simp only [Act.put, List.setIfInBounds_toArray, List.set_cons_zero, List.set_cons_succ]
  refine wpAnyH_done (by kernel_rfl) ?_ _
  have hY1 := hY0.trans ((Below.refl w1.heap.size w1).alloc (Nat.le_refl _) (.cells #[.int .u8 c] 5) |>.mono hY0.size)
  replace hY0 : Below w.heap.size w ((w1.alloc (.cells #[.int .u8 c] 5)).drew) := below_drewN hY1 1
  clear hY1 hcv1 e1 e2
  go_wp2_with fail
  refine (d2 _).mono ?_
  rintro e w3 ⟨rfl, hb⟩
  replace hY0 := hY0.trans (hb.mono hY0.size)
  clear hb
  go_wp2
  go_ret
  exact ⟨rfl, hY0⟩

set_option maxRecDepth 100000 in
set_option maxHeartbeats 4000000 in
theorem signs_a7 (s : ByteArray) (c : Int) (k n : Nat) (hs : s.size ≤ 200) (hk : k ≤ s.size) (c1 : 97 ≤ c) (c2 : c ≤ 122)(d2 : ∀ W : World, Calls Try.prog 15 #[.string s] W fun e w' => e = .returned (.int .i64 (n : Nat)) ∧ Below W.heap.size W w')(hn : 0 < n) (h8 : n < 8)(d3 : ∀ W : World, Calls Try.prog 14 #[.string (s ++ ⟨#[55]⟩)] W fun e w' => e = .returned (.bool true) ∧ Below W.heap.size W w') (w : World) :
    Calls Try.prog 7 #[.string s, .int .u8 c, .int .i64 (k : Int)] w fun e w' => e = .returned (.bool true) ∧ Below w.heap.size w w' := by
  have hs' : ¬ (200 : Int) < (s.size : Int) := by omega
  have hk0 : ¬ (k : Int) < 0 := by omega
  have hk2 : ¬ (s.size : Int) < (k : Int) := by omega
  have hk3 : (0 : Int) ≤ (k : Int) := by omega
  have hk4 : (k : Int) ≤ (s.size : Int) := by omega
  have hcv := fun W : World => conv_one W (.cells #[.int .u8 c] 5) c (by simp)
  have e1 : ∀ W, (Op.stringOp .add (s.extract 0 k) ⟨#[UInt8.ofNat c.toNat]⟩).run Try.prog W = .ok (.string (s.extract 0 k ++ ⟨#[UInt8.ofNat c.toNat]⟩)) W := fun W => run_string_add_sum W _ _ (by rw [ByteArray.size_extract]; show _ + 1 ≤ _; omega)
  have e2 : ∀ W, (Op.stringOp .add (s.extract 0 k ++ ⟨#[UInt8.ofNat c.toNat]⟩) (s.extract k s.size)).run Try.prog W = .ok (.string (s.extract 0 k ++ ⟨#[UInt8.ofNat c.toNat]⟩ ++ s.extract k s.size)) W := fun W => run_string_add_sum W _ _ (by rw [ByteArray.size_append, ByteArray.size_extract, ByteArray.size_extract]; show _ + 1 + _ ≤ _; omega)
  generalize s.extract 0 k ++ ⟨#[UInt8.ofNat c.toNat]⟩ ++ s.extract k s.size = x at *
  generalize s.extract 0 k ++ ⟨#[UInt8.ofNat c.toNat]⟩ = x1 at *
  have e7 : ∀ W, (Op.stringOp .add s ⟨#[55]⟩).run Try.prog W = .ok (.string (s ++ ⟨#[55]⟩)) W := fun W => run_string_add_sum W s _ (by show _ + 1 ≤ _; omega)
  generalize s ++ ⟨#[55]⟩ = s7 at *
  have hn0 : ((n : Int) == 0) = false := by simp; omega
  have h8' : (n : Int) < 8 := by omega
  go_enter Try.func7, Try.ntmps7
  have hY0 := Below.refl w.heap.size w
  go_wp2_with fail
  refine (awake_any _).mono ?_
  rintro e w1 ⟨rfl, hb⟩
  replace hY0 := hY0.trans (hb.mono hY0.size)
  clear hb
  go_wp2_with fail
  have hcv1 := hcv w1
  clear hcv
  refine wp_region_held_drew (S := fun _ => True) (by kernel_rfl) ?_ (fun hHeldcr => ?_)
  · trivial
  refine wpAnyH_take (i := 0) (oi := { dst := some 48, op := Op.move (Operand.tmp 0), type := 9, pos := "law.go:81", after := _, guard := none }) (v := ?vcr0) rfl (by kernel_rfl) (by kernel_rfl) (by kernel_rfl) (fun _ _ _ h => h) (Or.inl ⟨by rfl, ?hycr0⟩) (by assumption) ?restcr0
  case hycr0 => (intro w hSw; (try dsimp only at hSw); go_simp <;> with_reducible rfl)
  try simp only [Act.put, List.setIfInBounds_toArray, List.set_cons_zero, List.set_cons_succ]
  refine wpAnyH_take (i := 1) (oi := { dst := some 49, op := Op.move (Operand.tmp 2), type := 3, pos := "law.go:81", after := _, guard := none }) (v := ?vcr1) rfl (by kernel_rfl) (by kernel_rfl) (by kernel_rfl) (fun _ _ _ h => h) (Or.inl ⟨by rfl, ?hycr1⟩) (by assumption) ?restcr1
  case hycr1 => (intro w hSw; (try dsimp only at hSw); go_simp <;> with_reducible rfl)
  try simp only [Act.put, List.setIfInBounds_toArray, List.set_cons_zero, List.set_cons_succ]
  refine wpAnyH_take (i := 2) (oi := { dst := some 50, op := Op.slice 9 (Operand.tmp 48) none (some (Operand.tmp 49)) none, type := 9, pos := "law.go:81", after := _, guard := none }) (v := ?vcr2) rfl (by kernel_rfl) (by kernel_rfl) (by kernel_rfl) (fun _ _ _ h => h) (Or.inl ⟨by rfl, ?hycr2⟩) (by assumption) ?restcr2
  case hycr2 => (intro w hSw; (try dsimp only at hSw); go_simp <;> with_reducible rfl)
  try simp only [Act.put, List.setIfInBounds_toArray, List.set_cons_zero, List.set_cons_succ]
  refine wpAnyH_take (i := 3) (oi := { dst := some 51, op := Op.move (Operand.tmp 1), type := 5, pos := "law.go:81", after := _, guard := none }) (v := ?vcr3) rfl (by kernel_rfl) (by kernel_rfl) (by kernel_rfl) (fun _ _ _ h => h) (Or.inl ⟨by rfl, ?hycr3⟩) (by assumption) ?restcr3
  case hycr3 => (intro w hSw; (try dsimp only at hSw); go_simp <;> with_reducible rfl)
  try simp only [Act.put, List.setIfInBounds_toArray, List.set_cons_zero, List.set_cons_succ]
  refine wpAnyH_take (i := 7) (oi := { dst := some 55, op := Op.move (Operand.tmp 0), type := 9, pos := "law.go:81", after := _, guard := none }) (v := ?vcr7) rfl (by kernel_rfl) (by kernel_rfl) (by kernel_rfl) (fun _ _ _ h => h) (Or.inl ⟨by rfl, ?hycr7⟩) (by assumption) ?restcr7
  case hycr7 => (intro w hSw; (try dsimp only at hSw); go_simp <;> with_reducible rfl)
  try simp only [Act.put, List.setIfInBounds_toArray, List.set_cons_zero, List.set_cons_succ]
  refine wpAnyH_take (i := 8) (oi := { dst := some 56, op := Op.move (Operand.tmp 2), type := 3, pos := "law.go:81", after := _, guard := none }) (v := ?vcr8) rfl (by kernel_rfl) (by kernel_rfl) (by kernel_rfl) (fun _ _ _ h => h) (Or.inl ⟨by rfl, ?hycr8⟩) (by assumption) ?restcr8
  case hycr8 => (intro w hSw; (try dsimp only at hSw); go_simp <;> with_reducible rfl)
  try simp only [Act.put, List.setIfInBounds_toArray, List.set_cons_zero, List.set_cons_succ]
  refine wpAnyH_take (i := 9) (oi := { dst := some 57, op := Op.slice 9 (Operand.tmp 55) (some (Operand.tmp 56)) none none, type := 9, pos := "law.go:81", after := _, guard := none }) (v := ?vcr9) rfl (by kernel_rfl) (by kernel_rfl) (by kernel_rfl) (fun _ _ _ h => h) (Or.inl ⟨by rfl, ?hycr9⟩) (by assumption) ?restcr9
  case hycr9 => (intro w hSw; (try dsimp only at hSw); go_simp <;> with_reducible rfl)
  try simp only [Act.put, List.setIfInBounds_toArray, List.set_cons_zero, List.set_cons_succ]
  refine wpAnyH_ready (rs := [4]) (by kernel_rfl) (by simp) ?_
  refine AllReadyH.cons (o := { dst := some 52, op := Op.buildSlice 31 1 #[(0, Operand.tmp 51)], type := 31, pos := "law.go:81", after := _, guard := none }) rfl (fun K hK => ?_) AllReadyH.nil
  go_simp
  skip
  refine hK.out _ _ ?_ (fun hHeldcr4 => ?_)
  · trivial
  clear hK K hHeldcr
  try simp only [Act.put, List.setIfInBounds_toArray, List.set_cons_zero, List.set_cons_succ]
  refine wpAnyH_ready (rs := [5]) (by kernel_rfl) (by simp) ?_
  refine AllReadyH.cons (o := { dst := some 53, op := Op.convert 31 9 (Operand.tmp 52), type := 9, pos := "law.go:81", after := _, guard := none }) rfl (fun K hK => ?_) AllReadyH.nil
  go_simp
  skip
  refine hK.out _ _ ?_ (fun hHeldcr5 => ?_)
  · trivial
  clear hK K hHeldcr4
  try simp only [Act.put, List.setIfInBounds_toArray, List.set_cons_zero, List.set_cons_succ]
  refine wpAnyH_take (i := 6) (oi := { dst := some 54, op := Op.binOp BinOp.add 9 (Operand.tmp 50) (Operand.tmp 53) 9, type := 9, pos := "law.go:81", after := _, guard := none }) (v := ?vcr6) rfl (by kernel_rfl) (by kernel_rfl) (by kernel_rfl) (fun _ _ _ h => h) (Or.inl ⟨by rfl, ?hycr6⟩) (by assumption) ?restcr6
  case hycr6 => (intro w hSw; (try dsimp only at hSw); go_simp <;> with_reducible rfl)
  try simp only [Act.put, List.setIfInBounds_toArray, List.set_cons_zero, List.set_cons_succ]
  refine wpAnyH_take (i := 10) (oi := { dst := some 58, op := Op.binOp BinOp.add 9 (Operand.tmp 54) (Operand.tmp 57) 9, type := 9, pos := "law.go:81", after := _, guard := none }) (v := ?vcr10) rfl (by kernel_rfl) (by kernel_rfl) (by kernel_rfl) (fun _ _ _ h => h) (Or.inl ⟨by rfl, ?hycr10⟩) (by assumption) ?restcr10
  case hycr10 => (intro w hSw; (try dsimp only at hSw); go_simp <;> with_reducible rfl)
  try simp only [Act.put, List.setIfInBounds_toArray, List.set_cons_zero, List.set_cons_succ]
  refine wpAnyH_ready (rs := [11]) (by kernel_rfl) (by simp) ?_
  refine AllReadyH.cons (o := { dst := some 9, op := Op.assign (Operand.tmp 58), type := 9, pos := "law.go:81", after := _, guard := none }) rfl (fun K hK => ?_) AllReadyH.nil
  go_simp
  skip
  refine hK.out _ _ ?_ (fun hHeldcr11 => ?_)
  · trivial
  clear hK K hHeldcr5
  try simp only [Act.put, List.setIfInBounds_toArray, List.set_cons_zero, List.set_cons_succ]
  refine wpAnyH_done (by kernel_rfl) ?_ _
  have hY1 := hY0.trans ((Below.refl w1.heap.size w1).alloc (Nat.le_refl _) (.cells #[.int .u8 c] 5) |>.mono hY0.size)
  replace hY0 : Below w.heap.size w ((w1.alloc (.cells #[.int .u8 c] 5)).drew) := below_drewN hY1 1
  clear hY1 hcv1 e1 e2
  go_wp2_with fail
  refine (d2 _).mono ?_
  rintro e w3 ⟨rfl, hb⟩
  replace hY0 := hY0.trans (hb.mono hY0.size)
  clear hb
  go_wp2_with fail
  refine (d3 _).mono ?_
  rintro e w4 ⟨rfl, hb⟩
  replace hY0 := hY0.trans (hb.mono hY0.size)
  clear hb
  go_wp2
  go_ret
  exact ⟨rfl, hY0⟩

set_option maxRecDepth 100000 in
set_option maxHeartbeats 4000000 in
theorem signs_a8 (s : ByteArray) (c : Int) (k n : Nat) (hs : s.size ≤ 200) (hk : k ≤ s.size) (c1 : 97 ≤ c) (c2 : c ≤ 122)(d2 : ∀ W : World, Calls Try.prog 15 #[.string s] W fun e w' => e = .returned (.int .i64 (n : Nat)) ∧ Below W.heap.size W w')(hn : 0 < n) (h8 : ¬ n < 8)(d3 : ∀ W : World, Calls Try.prog 14 #[.string (s ++ ⟨#[55]⟩)] W fun e w' => e = .returned (.bool false) ∧ Below W.heap.size W w') (w : World) :
    Calls Try.prog 7 #[.string s, .int .u8 c, .int .i64 (k : Int)] w fun e w' => e = .returned (.bool true) ∧ Below w.heap.size w w' := by
  have hs' : ¬ (200 : Int) < (s.size : Int) := by omega
  have hk0 : ¬ (k : Int) < 0 := by omega
  have hk2 : ¬ (s.size : Int) < (k : Int) := by omega
  have hk3 : (0 : Int) ≤ (k : Int) := by omega
  have hk4 : (k : Int) ≤ (s.size : Int) := by omega
  have hcv := fun W : World => conv_one W (.cells #[.int .u8 c] 5) c (by simp)
  have e1 : ∀ W, (Op.stringOp .add (s.extract 0 k) ⟨#[UInt8.ofNat c.toNat]⟩).run Try.prog W = .ok (.string (s.extract 0 k ++ ⟨#[UInt8.ofNat c.toNat]⟩)) W := fun W => run_string_add_sum W _ _ (by rw [ByteArray.size_extract]; show _ + 1 ≤ _; omega)
  have e2 : ∀ W, (Op.stringOp .add (s.extract 0 k ++ ⟨#[UInt8.ofNat c.toNat]⟩) (s.extract k s.size)).run Try.prog W = .ok (.string (s.extract 0 k ++ ⟨#[UInt8.ofNat c.toNat]⟩ ++ s.extract k s.size)) W := fun W => run_string_add_sum W _ _ (by rw [ByteArray.size_append, ByteArray.size_extract, ByteArray.size_extract]; show _ + 1 + _ ≤ _; omega)
  generalize s.extract 0 k ++ ⟨#[UInt8.ofNat c.toNat]⟩ ++ s.extract k s.size = x at *
  generalize s.extract 0 k ++ ⟨#[UInt8.ofNat c.toNat]⟩ = x1 at *
  have e7 : ∀ W, (Op.stringOp .add s ⟨#[55]⟩).run Try.prog W = .ok (.string (s ++ ⟨#[55]⟩)) W := fun W => run_string_add_sum W s _ (by show _ + 1 ≤ _; omega)
  generalize s ++ ⟨#[55]⟩ = s7 at *
  have hn0 : ((n : Int) == 0) = false := by simp; omega
  have h8' : ¬ (n : Int) < 8 := by omega
  have h8d : decide ((n : Int) < 8) = false := decide_eq_false h8'
  go_enter Try.func7, Try.ntmps7
  have hY0 := Below.refl w.heap.size w
  go_wp2_with fail
  refine (awake_any _).mono ?_
  rintro e w1 ⟨rfl, hb⟩
  replace hY0 := hY0.trans (hb.mono hY0.size)
  clear hb
  go_wp2_with fail
  have hcv1 := hcv w1
  clear hcv
  refine wp_region_held_drew (S := fun _ => True) (by kernel_rfl) ?_ (fun hHelddr => ?_)
  · trivial
  refine wpAnyH_take (i := 0) (oi := { dst := some 48, op := Op.move (Operand.tmp 0), type := 9, pos := "law.go:81", after := _, guard := none }) (v := ?vdr0) rfl (by kernel_rfl) (by kernel_rfl) (by kernel_rfl) (fun _ _ _ h => h) (Or.inl ⟨by rfl, ?hydr0⟩) (by assumption) ?restdr0
  case hydr0 => (intro w hSw; (try dsimp only at hSw); go_simp <;> with_reducible rfl)
  try simp only [Act.put, List.setIfInBounds_toArray, List.set_cons_zero, List.set_cons_succ]
  refine wpAnyH_take (i := 1) (oi := { dst := some 49, op := Op.move (Operand.tmp 2), type := 3, pos := "law.go:81", after := _, guard := none }) (v := ?vdr1) rfl (by kernel_rfl) (by kernel_rfl) (by kernel_rfl) (fun _ _ _ h => h) (Or.inl ⟨by rfl, ?hydr1⟩) (by assumption) ?restdr1
  case hydr1 => (intro w hSw; (try dsimp only at hSw); go_simp <;> with_reducible rfl)
  try simp only [Act.put, List.setIfInBounds_toArray, List.set_cons_zero, List.set_cons_succ]
  refine wpAnyH_take (i := 2) (oi := { dst := some 50, op := Op.slice 9 (Operand.tmp 48) none (some (Operand.tmp 49)) none, type := 9, pos := "law.go:81", after := _, guard := none }) (v := ?vdr2) rfl (by kernel_rfl) (by kernel_rfl) (by kernel_rfl) (fun _ _ _ h => h) (Or.inl ⟨by rfl, ?hydr2⟩) (by assumption) ?restdr2
  case hydr2 => (intro w hSw; (try dsimp only at hSw); go_simp <;> with_reducible rfl)
  try simp only [Act.put, List.setIfInBounds_toArray, List.set_cons_zero, List.set_cons_succ]
  refine wpAnyH_take (i := 3) (oi := { dst := some 51, op := Op.move (Operand.tmp 1), type := 5, pos := "law.go:81", after := _, guard := none }) (v := ?vdr3) rfl (by kernel_rfl) (by kernel_rfl) (by kernel_rfl) (fun _ _ _ h => h) (Or.inl ⟨by rfl, ?hydr3⟩) (by assumption) ?restdr3
  case hydr3 => (intro w hSw; (try dsimp only at hSw); go_simp <;> with_reducible rfl)
  try simp only [Act.put, List.setIfInBounds_toArray, List.set_cons_zero, List.set_cons_succ]
  refine wpAnyH_take (i := 7) (oi := { dst := some 55, op := Op.move (Operand.tmp 0), type := 9, pos := "law.go:81", after := _, guard := none }) (v := ?vdr7) rfl (by kernel_rfl) (by kernel_rfl) (by kernel_rfl) (fun _ _ _ h => h) (Or.inl ⟨by rfl, ?hydr7⟩) (by assumption) ?restdr7
  case hydr7 => (intro w hSw; (try dsimp only at hSw); go_simp <;> with_reducible rfl)
  try simp only [Act.put, List.setIfInBounds_toArray, List.set_cons_zero, List.set_cons_succ]
  refine wpAnyH_take (i := 8) (oi := { dst := some 56, op := Op.move (Operand.tmp 2), type := 3, pos := "law.go:81", after := _, guard := none }) (v := ?vdr8) rfl (by kernel_rfl) (by kernel_rfl) (by kernel_rfl) (fun _ _ _ h => h) (Or.inl ⟨by rfl, ?hydr8⟩) (by assumption) ?restdr8
  case hydr8 => (intro w hSw; (try dsimp only at hSw); go_simp <;> with_reducible rfl)
  try simp only [Act.put, List.setIfInBounds_toArray, List.set_cons_zero, List.set_cons_succ]
  refine wpAnyH_take (i := 9) (oi := { dst := some 57, op := Op.slice 9 (Operand.tmp 55) (some (Operand.tmp 56)) none none, type := 9, pos := "law.go:81", after := _, guard := none }) (v := ?vdr9) rfl (by kernel_rfl) (by kernel_rfl) (by kernel_rfl) (fun _ _ _ h => h) (Or.inl ⟨by rfl, ?hydr9⟩) (by assumption) ?restdr9
  case hydr9 => (intro w hSw; (try dsimp only at hSw); go_simp <;> with_reducible rfl)
  try simp only [Act.put, List.setIfInBounds_toArray, List.set_cons_zero, List.set_cons_succ]
  refine wpAnyH_ready (rs := [4]) (by kernel_rfl) (by simp) ?_
  refine AllReadyH.cons (o := { dst := some 52, op := Op.buildSlice 31 1 #[(0, Operand.tmp 51)], type := 31, pos := "law.go:81", after := _, guard := none }) rfl (fun K hK => ?_) AllReadyH.nil
  go_simp
  skip
  refine hK.out _ _ ?_ (fun hHelddr4 => ?_)
  · trivial
  clear hK K hHelddr
  try simp only [Act.put, List.setIfInBounds_toArray, List.set_cons_zero, List.set_cons_succ]
  refine wpAnyH_ready (rs := [5]) (by kernel_rfl) (by simp) ?_
  refine AllReadyH.cons (o := { dst := some 53, op := Op.convert 31 9 (Operand.tmp 52), type := 9, pos := "law.go:81", after := _, guard := none }) rfl (fun K hK => ?_) AllReadyH.nil
  go_simp
  skip
  refine hK.out _ _ ?_ (fun hHelddr5 => ?_)
  · trivial
  clear hK K hHelddr4
  try simp only [Act.put, List.setIfInBounds_toArray, List.set_cons_zero, List.set_cons_succ]
  refine wpAnyH_take (i := 6) (oi := { dst := some 54, op := Op.binOp BinOp.add 9 (Operand.tmp 50) (Operand.tmp 53) 9, type := 9, pos := "law.go:81", after := _, guard := none }) (v := ?vdr6) rfl (by kernel_rfl) (by kernel_rfl) (by kernel_rfl) (fun _ _ _ h => h) (Or.inl ⟨by rfl, ?hydr6⟩) (by assumption) ?restdr6
  case hydr6 => (intro w hSw; (try dsimp only at hSw); go_simp <;> with_reducible rfl)
  try simp only [Act.put, List.setIfInBounds_toArray, List.set_cons_zero, List.set_cons_succ]
  refine wpAnyH_take (i := 10) (oi := { dst := some 58, op := Op.binOp BinOp.add 9 (Operand.tmp 54) (Operand.tmp 57) 9, type := 9, pos := "law.go:81", after := _, guard := none }) (v := ?vdr10) rfl (by kernel_rfl) (by kernel_rfl) (by kernel_rfl) (fun _ _ _ h => h) (Or.inl ⟨by rfl, ?hydr10⟩) (by assumption) ?restdr10
  case hydr10 => (intro w hSw; (try dsimp only at hSw); go_simp <;> with_reducible rfl)
  try simp only [Act.put, List.setIfInBounds_toArray, List.set_cons_zero, List.set_cons_succ]
  refine wpAnyH_ready (rs := [11]) (by kernel_rfl) (by simp) ?_
  refine AllReadyH.cons (o := { dst := some 9, op := Op.assign (Operand.tmp 58), type := 9, pos := "law.go:81", after := _, guard := none }) rfl (fun K hK => ?_) AllReadyH.nil
  go_simp
  skip
  refine hK.out _ _ ?_ (fun hHelddr11 => ?_)
  · trivial
  clear hK K hHelddr5
  try simp only [Act.put, List.setIfInBounds_toArray, List.set_cons_zero, List.set_cons_succ]
  refine wpAnyH_done (by kernel_rfl) ?_ _
  have hY1 := hY0.trans ((Below.refl w1.heap.size w1).alloc (Nat.le_refl _) (.cells #[.int .u8 c] 5) |>.mono hY0.size)
  replace hY0 : Below w.heap.size w ((w1.alloc (.cells #[.int .u8 c] 5)).drew) := below_drewN hY1 1
  clear hY1 hcv1 e1 e2
  go_wp2_with fail
  refine (d2 _).mono ?_
  rintro e w3 ⟨rfl, hb⟩
  replace hY0 := hY0.trans (hb.mono hY0.size)
  clear hb
  go_wp2_with fail
  refine (d3 _).mono ?_
  rintro e w4 ⟨rfl, hb⟩
  replace hY0 := hY0.trans (hb.mono hY0.size)
  clear hb
  go_wp2
  go_ret
  exact ⟨rfl, hY0⟩

set_option maxRecDepth 100000 in
set_option maxHeartbeats 4000000 in
theorem signs_b0 (s : ByteArray) (c : Int) (k n : Nat) (hs : s.size ≤ 200) (hk : k ≤ s.size) (c1 : 97 ≤ c) (c2 : ¬ c ≤ 122) (c3 : 48 ≤ c) (c4 : ¬ c ≤ 57) (c5 : 128 ≤ c)(d2 : ∀ W : World, Calls Try.prog 15 #[.string s] W fun e w' => e = .returned (.int .i64 (n : Nat)) ∧ Below W.heap.size W w')(hn : n = 0) (w : World) :
    Calls Try.prog 7 #[.string s, .int .u8 c, .int .i64 (k : Int)] w fun e w' => e = .returned (.bool true) ∧ Below w.heap.size w w' := by
  have hs' : ¬ (200 : Int) < (s.size : Int) := by omega
  have hk0 : ¬ (k : Int) < 0 := by omega
  have hk2 : ¬ (s.size : Int) < (k : Int) := by omega
  have hk3 : (0 : Int) ≤ (k : Int) := by omega
  have hk4 : (k : Int) ≤ (s.size : Int) := by omega
  have hcv := fun W : World => conv_one W (.cells #[.int .u8 c] 5) c (by simp)
  have e1 : ∀ W, (Op.stringOp .add (s.extract 0 k) ⟨#[UInt8.ofNat c.toNat]⟩).run Try.prog W = .ok (.string (s.extract 0 k ++ ⟨#[UInt8.ofNat c.toNat]⟩)) W := fun W => run_string_add_sum W _ _ (by rw [ByteArray.size_extract]; show _ + 1 ≤ _; omega)
  have e2 : ∀ W, (Op.stringOp .add (s.extract 0 k ++ ⟨#[UInt8.ofNat c.toNat]⟩) (s.extract k s.size)).run Try.prog W = .ok (.string (s.extract 0 k ++ ⟨#[UInt8.ofNat c.toNat]⟩ ++ s.extract k s.size)) W := fun W => run_string_add_sum W _ _ (by rw [ByteArray.size_append, ByteArray.size_extract, ByteArray.size_extract]; show _ + 1 + _ ≤ _; omega)
  generalize s.extract 0 k ++ ⟨#[UInt8.ofNat c.toNat]⟩ ++ s.extract k s.size = x at *
  generalize s.extract 0 k ++ ⟨#[UInt8.ofNat c.toNat]⟩ = x1 at *
  have e7 : ∀ W, (Op.stringOp .add s ⟨#[55]⟩).run Try.prog W = .ok (.string (s ++ ⟨#[55]⟩)) W := fun W => run_string_add_sum W s _ (by show _ + 1 ≤ _; omega)
  generalize s ++ ⟨#[55]⟩ = s7 at *
  subst hn
  go_enter Try.func7, Try.ntmps7
  have hY0 := Below.refl w.heap.size w
  go_wp2_with fail
  refine (awake_any _).mono ?_
  rintro e w1 ⟨rfl, hb⟩
  replace hY0 := hY0.trans (hb.mono hY0.size)
  clear hb
  go_wp2_with fail
  have hcv1 := hcv w1
  clear hcv
  refine wp_region_held_drew (S := fun _ => True) (by kernel_rfl) ?_ (fun hHelder => ?_)
  · trivial
  refine wpAnyH_take (i := 0) (oi := { dst := some 48, op := Op.move (Operand.tmp 0), type := 9, pos := "law.go:81", after := _, guard := none }) (v := ?ver0) rfl (by kernel_rfl) (by kernel_rfl) (by kernel_rfl) (fun _ _ _ h => h) (Or.inl ⟨by rfl, ?hyer0⟩) (by assumption) ?rester0
  case hyer0 => (intro w hSw; (try dsimp only at hSw); go_simp <;> with_reducible rfl)
  try simp only [Act.put, List.setIfInBounds_toArray, List.set_cons_zero, List.set_cons_succ]
  refine wpAnyH_take (i := 1) (oi := { dst := some 49, op := Op.move (Operand.tmp 2), type := 3, pos := "law.go:81", after := _, guard := none }) (v := ?ver1) rfl (by kernel_rfl) (by kernel_rfl) (by kernel_rfl) (fun _ _ _ h => h) (Or.inl ⟨by rfl, ?hyer1⟩) (by assumption) ?rester1
  case hyer1 => (intro w hSw; (try dsimp only at hSw); go_simp <;> with_reducible rfl)
  try simp only [Act.put, List.setIfInBounds_toArray, List.set_cons_zero, List.set_cons_succ]
  refine wpAnyH_take (i := 2) (oi := { dst := some 50, op := Op.slice 9 (Operand.tmp 48) none (some (Operand.tmp 49)) none, type := 9, pos := "law.go:81", after := _, guard := none }) (v := ?ver2) rfl (by kernel_rfl) (by kernel_rfl) (by kernel_rfl) (fun _ _ _ h => h) (Or.inl ⟨by rfl, ?hyer2⟩) (by assumption) ?rester2
  case hyer2 => (intro w hSw; (try dsimp only at hSw); go_simp <;> with_reducible rfl)
  try simp only [Act.put, List.setIfInBounds_toArray, List.set_cons_zero, List.set_cons_succ]
  refine wpAnyH_take (i := 3) (oi := { dst := some 51, op := Op.move (Operand.tmp 1), type := 5, pos := "law.go:81", after := _, guard := none }) (v := ?ver3) rfl (by kernel_rfl) (by kernel_rfl) (by kernel_rfl) (fun _ _ _ h => h) (Or.inl ⟨by rfl, ?hyer3⟩) (by assumption) ?rester3
  case hyer3 => (intro w hSw; (try dsimp only at hSw); go_simp <;> with_reducible rfl)
  try simp only [Act.put, List.setIfInBounds_toArray, List.set_cons_zero, List.set_cons_succ]
  refine wpAnyH_take (i := 7) (oi := { dst := some 55, op := Op.move (Operand.tmp 0), type := 9, pos := "law.go:81", after := _, guard := none }) (v := ?ver7) rfl (by kernel_rfl) (by kernel_rfl) (by kernel_rfl) (fun _ _ _ h => h) (Or.inl ⟨by rfl, ?hyer7⟩) (by assumption) ?rester7
  case hyer7 => (intro w hSw; (try dsimp only at hSw); go_simp <;> with_reducible rfl)
  try simp only [Act.put, List.setIfInBounds_toArray, List.set_cons_zero, List.set_cons_succ]
  refine wpAnyH_take (i := 8) (oi := { dst := some 56, op := Op.move (Operand.tmp 2), type := 3, pos := "law.go:81", after := _, guard := none }) (v := ?ver8) rfl (by kernel_rfl) (by kernel_rfl) (by kernel_rfl) (fun _ _ _ h => h) (Or.inl ⟨by rfl, ?hyer8⟩) (by assumption) ?rester8
  case hyer8 => (intro w hSw; (try dsimp only at hSw); go_simp <;> with_reducible rfl)
  try simp only [Act.put, List.setIfInBounds_toArray, List.set_cons_zero, List.set_cons_succ]
  refine wpAnyH_take (i := 9) (oi := { dst := some 57, op := Op.slice 9 (Operand.tmp 55) (some (Operand.tmp 56)) none none, type := 9, pos := "law.go:81", after := _, guard := none }) (v := ?ver9) rfl (by kernel_rfl) (by kernel_rfl) (by kernel_rfl) (fun _ _ _ h => h) (Or.inl ⟨by rfl, ?hyer9⟩) (by assumption) ?rester9
  case hyer9 => (intro w hSw; (try dsimp only at hSw); go_simp <;> with_reducible rfl)
  try simp only [Act.put, List.setIfInBounds_toArray, List.set_cons_zero, List.set_cons_succ]
  refine wpAnyH_ready (rs := [4]) (by kernel_rfl) (by simp) ?_
  refine AllReadyH.cons (o := { dst := some 52, op := Op.buildSlice 31 1 #[(0, Operand.tmp 51)], type := 31, pos := "law.go:81", after := _, guard := none }) rfl (fun K hK => ?_) AllReadyH.nil
  go_simp
  skip
  refine hK.out _ _ ?_ (fun hHelder4 => ?_)
  · trivial
  clear hK K hHelder
  try simp only [Act.put, List.setIfInBounds_toArray, List.set_cons_zero, List.set_cons_succ]
  refine wpAnyH_ready (rs := [5]) (by kernel_rfl) (by simp) ?_
  refine AllReadyH.cons (o := { dst := some 53, op := Op.convert 31 9 (Operand.tmp 52), type := 9, pos := "law.go:81", after := _, guard := none }) rfl (fun K hK => ?_) AllReadyH.nil
  go_simp
  skip
  refine hK.out _ _ ?_ (fun hHelder5 => ?_)
  · trivial
  clear hK K hHelder4
  try simp only [Act.put, List.setIfInBounds_toArray, List.set_cons_zero, List.set_cons_succ]
  refine wpAnyH_take (i := 6) (oi := { dst := some 54, op := Op.binOp BinOp.add 9 (Operand.tmp 50) (Operand.tmp 53) 9, type := 9, pos := "law.go:81", after := _, guard := none }) (v := ?ver6) rfl (by kernel_rfl) (by kernel_rfl) (by kernel_rfl) (fun _ _ _ h => h) (Or.inl ⟨by rfl, ?hyer6⟩) (by assumption) ?rester6
  case hyer6 => (intro w hSw; (try dsimp only at hSw); go_simp <;> with_reducible rfl)
  try simp only [Act.put, List.setIfInBounds_toArray, List.set_cons_zero, List.set_cons_succ]
  refine wpAnyH_take (i := 10) (oi := { dst := some 58, op := Op.binOp BinOp.add 9 (Operand.tmp 54) (Operand.tmp 57) 9, type := 9, pos := "law.go:81", after := _, guard := none }) (v := ?ver10) rfl (by kernel_rfl) (by kernel_rfl) (by kernel_rfl) (fun _ _ _ h => h) (Or.inl ⟨by rfl, ?hyer10⟩) (by assumption) ?rester10
  case hyer10 => (intro w hSw; (try dsimp only at hSw); go_simp <;> with_reducible rfl)
  try simp only [Act.put, List.setIfInBounds_toArray, List.set_cons_zero, List.set_cons_succ]
  refine wpAnyH_ready (rs := [11]) (by kernel_rfl) (by simp) ?_
  refine AllReadyH.cons (o := { dst := some 9, op := Op.assign (Operand.tmp 58), type := 9, pos := "law.go:81", after := _, guard := none }) rfl (fun K hK => ?_) AllReadyH.nil
  go_simp
  skip
  refine hK.out _ _ ?_ (fun hHelder11 => ?_)
  · trivial
  clear hK K hHelder5
  try simp only [Act.put, List.setIfInBounds_toArray, List.set_cons_zero, List.set_cons_succ]
  refine wpAnyH_done (by kernel_rfl) ?_ _
  have hY1 := hY0.trans ((Below.refl w1.heap.size w1).alloc (Nat.le_refl _) (.cells #[.int .u8 c] 5) |>.mono hY0.size)
  replace hY0 : Below w.heap.size w ((w1.alloc (.cells #[.int .u8 c] 5)).drew) := below_drewN hY1 1
  clear hY1 hcv1 e1 e2
  go_wp2_with fail
  refine (d2 _).mono ?_
  rintro e w3 ⟨rfl, hb⟩
  replace hY0 := hY0.trans (hb.mono hY0.size)
  clear hb
  go_wp2
  go_ret
  exact ⟨rfl, hY0⟩

set_option maxRecDepth 100000 in
set_option maxHeartbeats 4000000 in
theorem signs_b7 (s : ByteArray) (c : Int) (k n : Nat) (hs : s.size ≤ 200) (hk : k ≤ s.size) (c1 : 97 ≤ c) (c2 : ¬ c ≤ 122) (c3 : 48 ≤ c) (c4 : ¬ c ≤ 57) (c5 : 128 ≤ c)(d2 : ∀ W : World, Calls Try.prog 15 #[.string s] W fun e w' => e = .returned (.int .i64 (n : Nat)) ∧ Below W.heap.size W w')(hn : 0 < n) (h8 : n < 8)(d3 : ∀ W : World, Calls Try.prog 14 #[.string (s ++ ⟨#[55]⟩)] W fun e w' => e = .returned (.bool true) ∧ Below W.heap.size W w') (w : World) :
    Calls Try.prog 7 #[.string s, .int .u8 c, .int .i64 (k : Int)] w fun e w' => e = .returned (.bool true) ∧ Below w.heap.size w w' := by
  have hs' : ¬ (200 : Int) < (s.size : Int) := by omega
  have hk0 : ¬ (k : Int) < 0 := by omega
  have hk2 : ¬ (s.size : Int) < (k : Int) := by omega
  have hk3 : (0 : Int) ≤ (k : Int) := by omega
  have hk4 : (k : Int) ≤ (s.size : Int) := by omega
  have hcv := fun W : World => conv_one W (.cells #[.int .u8 c] 5) c (by simp)
  have e1 : ∀ W, (Op.stringOp .add (s.extract 0 k) ⟨#[UInt8.ofNat c.toNat]⟩).run Try.prog W = .ok (.string (s.extract 0 k ++ ⟨#[UInt8.ofNat c.toNat]⟩)) W := fun W => run_string_add_sum W _ _ (by rw [ByteArray.size_extract]; show _ + 1 ≤ _; omega)
  have e2 : ∀ W, (Op.stringOp .add (s.extract 0 k ++ ⟨#[UInt8.ofNat c.toNat]⟩) (s.extract k s.size)).run Try.prog W = .ok (.string (s.extract 0 k ++ ⟨#[UInt8.ofNat c.toNat]⟩ ++ s.extract k s.size)) W := fun W => run_string_add_sum W _ _ (by rw [ByteArray.size_append, ByteArray.size_extract, ByteArray.size_extract]; show _ + 1 + _ ≤ _; omega)
  generalize s.extract 0 k ++ ⟨#[UInt8.ofNat c.toNat]⟩ ++ s.extract k s.size = x at *
  generalize s.extract 0 k ++ ⟨#[UInt8.ofNat c.toNat]⟩ = x1 at *
  have e7 : ∀ W, (Op.stringOp .add s ⟨#[55]⟩).run Try.prog W = .ok (.string (s ++ ⟨#[55]⟩)) W := fun W => run_string_add_sum W s _ (by show _ + 1 ≤ _; omega)
  generalize s ++ ⟨#[55]⟩ = s7 at *
  have hn0 : ((n : Int) == 0) = false := by simp; omega
  have h8' : (n : Int) < 8 := by omega
  go_enter Try.func7, Try.ntmps7
  have hY0 := Below.refl w.heap.size w
  go_wp2_with fail
  refine (awake_any _).mono ?_
  rintro e w1 ⟨rfl, hb⟩
  replace hY0 := hY0.trans (hb.mono hY0.size)
  clear hb
  go_wp2_with fail
  have hcv1 := hcv w1
  clear hcv
  refine wp_region_held_drew (S := fun _ => True) (by kernel_rfl) ?_ (fun hHeldfr => ?_)
  · trivial
  refine wpAnyH_take (i := 0) (oi := { dst := some 48, op := Op.move (Operand.tmp 0), type := 9, pos := "law.go:81", after := _, guard := none }) (v := ?vfr0) rfl (by kernel_rfl) (by kernel_rfl) (by kernel_rfl) (fun _ _ _ h => h) (Or.inl ⟨by rfl, ?hyfr0⟩) (by assumption) ?restfr0
  case hyfr0 => (intro w hSw; (try dsimp only at hSw); go_simp <;> with_reducible rfl)
  try simp only [Act.put, List.setIfInBounds_toArray, List.set_cons_zero, List.set_cons_succ]
  refine wpAnyH_take (i := 1) (oi := { dst := some 49, op := Op.move (Operand.tmp 2), type := 3, pos := "law.go:81", after := _, guard := none }) (v := ?vfr1) rfl (by kernel_rfl) (by kernel_rfl) (by kernel_rfl) (fun _ _ _ h => h) (Or.inl ⟨by rfl, ?hyfr1⟩) (by assumption) ?restfr1
  case hyfr1 => (intro w hSw; (try dsimp only at hSw); go_simp <;> with_reducible rfl)
  try simp only [Act.put, List.setIfInBounds_toArray, List.set_cons_zero, List.set_cons_succ]
  refine wpAnyH_take (i := 2) (oi := { dst := some 50, op := Op.slice 9 (Operand.tmp 48) none (some (Operand.tmp 49)) none, type := 9, pos := "law.go:81", after := _, guard := none }) (v := ?vfr2) rfl (by kernel_rfl) (by kernel_rfl) (by kernel_rfl) (fun _ _ _ h => h) (Or.inl ⟨by rfl, ?hyfr2⟩) (by assumption) ?restfr2
  case hyfr2 => (intro w hSw; (try dsimp only at hSw); go_simp <;> with_reducible rfl)
  try simp only [Act.put, List.setIfInBounds_toArray, List.set_cons_zero, List.set_cons_succ]
  refine wpAnyH_take (i := 3) (oi := { dst := some 51, op := Op.move (Operand.tmp 1), type := 5, pos := "law.go:81", after := _, guard := none }) (v := ?vfr3) rfl (by kernel_rfl) (by kernel_rfl) (by kernel_rfl) (fun _ _ _ h => h) (Or.inl ⟨by rfl, ?hyfr3⟩) (by assumption) ?restfr3
  case hyfr3 => (intro w hSw; (try dsimp only at hSw); go_simp <;> with_reducible rfl)
  try simp only [Act.put, List.setIfInBounds_toArray, List.set_cons_zero, List.set_cons_succ]
  refine wpAnyH_take (i := 7) (oi := { dst := some 55, op := Op.move (Operand.tmp 0), type := 9, pos := "law.go:81", after := _, guard := none }) (v := ?vfr7) rfl (by kernel_rfl) (by kernel_rfl) (by kernel_rfl) (fun _ _ _ h => h) (Or.inl ⟨by rfl, ?hyfr7⟩) (by assumption) ?restfr7
  case hyfr7 => (intro w hSw; (try dsimp only at hSw); go_simp <;> with_reducible rfl)
  try simp only [Act.put, List.setIfInBounds_toArray, List.set_cons_zero, List.set_cons_succ]
  refine wpAnyH_take (i := 8) (oi := { dst := some 56, op := Op.move (Operand.tmp 2), type := 3, pos := "law.go:81", after := _, guard := none }) (v := ?vfr8) rfl (by kernel_rfl) (by kernel_rfl) (by kernel_rfl) (fun _ _ _ h => h) (Or.inl ⟨by rfl, ?hyfr8⟩) (by assumption) ?restfr8
  case hyfr8 => (intro w hSw; (try dsimp only at hSw); go_simp <;> with_reducible rfl)
  try simp only [Act.put, List.setIfInBounds_toArray, List.set_cons_zero, List.set_cons_succ]
  refine wpAnyH_take (i := 9) (oi := { dst := some 57, op := Op.slice 9 (Operand.tmp 55) (some (Operand.tmp 56)) none none, type := 9, pos := "law.go:81", after := _, guard := none }) (v := ?vfr9) rfl (by kernel_rfl) (by kernel_rfl) (by kernel_rfl) (fun _ _ _ h => h) (Or.inl ⟨by rfl, ?hyfr9⟩) (by assumption) ?restfr9
  case hyfr9 => (intro w hSw; (try dsimp only at hSw); go_simp <;> with_reducible rfl)
  try simp only [Act.put, List.setIfInBounds_toArray, List.set_cons_zero, List.set_cons_succ]
  refine wpAnyH_ready (rs := [4]) (by kernel_rfl) (by simp) ?_
  refine AllReadyH.cons (o := { dst := some 52, op := Op.buildSlice 31 1 #[(0, Operand.tmp 51)], type := 31, pos := "law.go:81", after := _, guard := none }) rfl (fun K hK => ?_) AllReadyH.nil
  go_simp
  skip
  refine hK.out _ _ ?_ (fun hHeldfr4 => ?_)
  · trivial
  clear hK K hHeldfr
  try simp only [Act.put, List.setIfInBounds_toArray, List.set_cons_zero, List.set_cons_succ]
  refine wpAnyH_ready (rs := [5]) (by kernel_rfl) (by simp) ?_
  refine AllReadyH.cons (o := { dst := some 53, op := Op.convert 31 9 (Operand.tmp 52), type := 9, pos := "law.go:81", after := _, guard := none }) rfl (fun K hK => ?_) AllReadyH.nil
  go_simp
  skip
  refine hK.out _ _ ?_ (fun hHeldfr5 => ?_)
  · trivial
  clear hK K hHeldfr4
  try simp only [Act.put, List.setIfInBounds_toArray, List.set_cons_zero, List.set_cons_succ]
  refine wpAnyH_take (i := 6) (oi := { dst := some 54, op := Op.binOp BinOp.add 9 (Operand.tmp 50) (Operand.tmp 53) 9, type := 9, pos := "law.go:81", after := _, guard := none }) (v := ?vfr6) rfl (by kernel_rfl) (by kernel_rfl) (by kernel_rfl) (fun _ _ _ h => h) (Or.inl ⟨by rfl, ?hyfr6⟩) (by assumption) ?restfr6
  case hyfr6 => (intro w hSw; (try dsimp only at hSw); go_simp <;> with_reducible rfl)
  try simp only [Act.put, List.setIfInBounds_toArray, List.set_cons_zero, List.set_cons_succ]
  refine wpAnyH_take (i := 10) (oi := { dst := some 58, op := Op.binOp BinOp.add 9 (Operand.tmp 54) (Operand.tmp 57) 9, type := 9, pos := "law.go:81", after := _, guard := none }) (v := ?vfr10) rfl (by kernel_rfl) (by kernel_rfl) (by kernel_rfl) (fun _ _ _ h => h) (Or.inl ⟨by rfl, ?hyfr10⟩) (by assumption) ?restfr10
  case hyfr10 => (intro w hSw; (try dsimp only at hSw); go_simp <;> with_reducible rfl)
  try simp only [Act.put, List.setIfInBounds_toArray, List.set_cons_zero, List.set_cons_succ]
  refine wpAnyH_ready (rs := [11]) (by kernel_rfl) (by simp) ?_
  refine AllReadyH.cons (o := { dst := some 9, op := Op.assign (Operand.tmp 58), type := 9, pos := "law.go:81", after := _, guard := none }) rfl (fun K hK => ?_) AllReadyH.nil
  go_simp
  skip
  refine hK.out _ _ ?_ (fun hHeldfr11 => ?_)
  · trivial
  clear hK K hHeldfr5
  try simp only [Act.put, List.setIfInBounds_toArray, List.set_cons_zero, List.set_cons_succ]
  refine wpAnyH_done (by kernel_rfl) ?_ _
  have hY1 := hY0.trans ((Below.refl w1.heap.size w1).alloc (Nat.le_refl _) (.cells #[.int .u8 c] 5) |>.mono hY0.size)
  replace hY0 : Below w.heap.size w ((w1.alloc (.cells #[.int .u8 c] 5)).drew) := below_drewN hY1 1
  clear hY1 hcv1 e1 e2
  go_wp2_with fail
  refine (d2 _).mono ?_
  rintro e w3 ⟨rfl, hb⟩
  replace hY0 := hY0.trans (hb.mono hY0.size)
  clear hb
  go_wp2_with fail
  refine (d3 _).mono ?_
  rintro e w4 ⟨rfl, hb⟩
  replace hY0 := hY0.trans (hb.mono hY0.size)
  clear hb
  go_wp2
  go_ret
  exact ⟨rfl, hY0⟩

set_option maxRecDepth 100000 in
set_option maxHeartbeats 4000000 in
theorem signs_b8 (s : ByteArray) (c : Int) (k n : Nat) (hs : s.size ≤ 200) (hk : k ≤ s.size) (c1 : 97 ≤ c) (c2 : ¬ c ≤ 122) (c3 : 48 ≤ c) (c4 : ¬ c ≤ 57) (c5 : 128 ≤ c)(d2 : ∀ W : World, Calls Try.prog 15 #[.string s] W fun e w' => e = .returned (.int .i64 (n : Nat)) ∧ Below W.heap.size W w')(hn : 0 < n) (h8 : ¬ n < 8)(d3 : ∀ W : World, Calls Try.prog 14 #[.string (s ++ ⟨#[55]⟩)] W fun e w' => e = .returned (.bool false) ∧ Below W.heap.size W w') (w : World) :
    Calls Try.prog 7 #[.string s, .int .u8 c, .int .i64 (k : Int)] w fun e w' => e = .returned (.bool true) ∧ Below w.heap.size w w' := by
  have hs' : ¬ (200 : Int) < (s.size : Int) := by omega
  have hk0 : ¬ (k : Int) < 0 := by omega
  have hk2 : ¬ (s.size : Int) < (k : Int) := by omega
  have hk3 : (0 : Int) ≤ (k : Int) := by omega
  have hk4 : (k : Int) ≤ (s.size : Int) := by omega
  have hcv := fun W : World => conv_one W (.cells #[.int .u8 c] 5) c (by simp)
  have e1 : ∀ W, (Op.stringOp .add (s.extract 0 k) ⟨#[UInt8.ofNat c.toNat]⟩).run Try.prog W = .ok (.string (s.extract 0 k ++ ⟨#[UInt8.ofNat c.toNat]⟩)) W := fun W => run_string_add_sum W _ _ (by rw [ByteArray.size_extract]; show _ + 1 ≤ _; omega)
  have e2 : ∀ W, (Op.stringOp .add (s.extract 0 k ++ ⟨#[UInt8.ofNat c.toNat]⟩) (s.extract k s.size)).run Try.prog W = .ok (.string (s.extract 0 k ++ ⟨#[UInt8.ofNat c.toNat]⟩ ++ s.extract k s.size)) W := fun W => run_string_add_sum W _ _ (by rw [ByteArray.size_append, ByteArray.size_extract, ByteArray.size_extract]; show _ + 1 + _ ≤ _; omega)
  generalize s.extract 0 k ++ ⟨#[UInt8.ofNat c.toNat]⟩ ++ s.extract k s.size = x at *
  generalize s.extract 0 k ++ ⟨#[UInt8.ofNat c.toNat]⟩ = x1 at *
  have e7 : ∀ W, (Op.stringOp .add s ⟨#[55]⟩).run Try.prog W = .ok (.string (s ++ ⟨#[55]⟩)) W := fun W => run_string_add_sum W s _ (by show _ + 1 ≤ _; omega)
  generalize s ++ ⟨#[55]⟩ = s7 at *
  have hn0 : ((n : Int) == 0) = false := by simp; omega
  have h8' : ¬ (n : Int) < 8 := by omega
  have h8d : decide ((n : Int) < 8) = false := decide_eq_false h8'
  go_enter Try.func7, Try.ntmps7
  have hY0 := Below.refl w.heap.size w
  go_wp2_with fail
  refine (awake_any _).mono ?_
  rintro e w1 ⟨rfl, hb⟩
  replace hY0 := hY0.trans (hb.mono hY0.size)
  clear hb
  go_wp2_with fail
  have hcv1 := hcv w1
  clear hcv
  refine wp_region_held_drew (S := fun _ => True) (by kernel_rfl) ?_ (fun hHeldgr => ?_)
  · trivial
  refine wpAnyH_take (i := 0) (oi := { dst := some 48, op := Op.move (Operand.tmp 0), type := 9, pos := "law.go:81", after := _, guard := none }) (v := ?vgr0) rfl (by kernel_rfl) (by kernel_rfl) (by kernel_rfl) (fun _ _ _ h => h) (Or.inl ⟨by rfl, ?hygr0⟩) (by assumption) ?restgr0
  case hygr0 => (intro w hSw; (try dsimp only at hSw); go_simp <;> with_reducible rfl)
  try simp only [Act.put, List.setIfInBounds_toArray, List.set_cons_zero, List.set_cons_succ]
  refine wpAnyH_take (i := 1) (oi := { dst := some 49, op := Op.move (Operand.tmp 2), type := 3, pos := "law.go:81", after := _, guard := none }) (v := ?vgr1) rfl (by kernel_rfl) (by kernel_rfl) (by kernel_rfl) (fun _ _ _ h => h) (Or.inl ⟨by rfl, ?hygr1⟩) (by assumption) ?restgr1
  case hygr1 => (intro w hSw; (try dsimp only at hSw); go_simp <;> with_reducible rfl)
  try simp only [Act.put, List.setIfInBounds_toArray, List.set_cons_zero, List.set_cons_succ]
  refine wpAnyH_take (i := 2) (oi := { dst := some 50, op := Op.slice 9 (Operand.tmp 48) none (some (Operand.tmp 49)) none, type := 9, pos := "law.go:81", after := _, guard := none }) (v := ?vgr2) rfl (by kernel_rfl) (by kernel_rfl) (by kernel_rfl) (fun _ _ _ h => h) (Or.inl ⟨by rfl, ?hygr2⟩) (by assumption) ?restgr2
  case hygr2 => (intro w hSw; (try dsimp only at hSw); go_simp <;> with_reducible rfl)
  try simp only [Act.put, List.setIfInBounds_toArray, List.set_cons_zero, List.set_cons_succ]
  refine wpAnyH_take (i := 3) (oi := { dst := some 51, op := Op.move (Operand.tmp 1), type := 5, pos := "law.go:81", after := _, guard := none }) (v := ?vgr3) rfl (by kernel_rfl) (by kernel_rfl) (by kernel_rfl) (fun _ _ _ h => h) (Or.inl ⟨by rfl, ?hygr3⟩) (by assumption) ?restgr3
  case hygr3 => (intro w hSw; (try dsimp only at hSw); go_simp <;> with_reducible rfl)
  try simp only [Act.put, List.setIfInBounds_toArray, List.set_cons_zero, List.set_cons_succ]
  refine wpAnyH_take (i := 7) (oi := { dst := some 55, op := Op.move (Operand.tmp 0), type := 9, pos := "law.go:81", after := _, guard := none }) (v := ?vgr7) rfl (by kernel_rfl) (by kernel_rfl) (by kernel_rfl) (fun _ _ _ h => h) (Or.inl ⟨by rfl, ?hygr7⟩) (by assumption) ?restgr7
  case hygr7 => (intro w hSw; (try dsimp only at hSw); go_simp <;> with_reducible rfl)
  try simp only [Act.put, List.setIfInBounds_toArray, List.set_cons_zero, List.set_cons_succ]
  refine wpAnyH_take (i := 8) (oi := { dst := some 56, op := Op.move (Operand.tmp 2), type := 3, pos := "law.go:81", after := _, guard := none }) (v := ?vgr8) rfl (by kernel_rfl) (by kernel_rfl) (by kernel_rfl) (fun _ _ _ h => h) (Or.inl ⟨by rfl, ?hygr8⟩) (by assumption) ?restgr8
  case hygr8 => (intro w hSw; (try dsimp only at hSw); go_simp <;> with_reducible rfl)
  try simp only [Act.put, List.setIfInBounds_toArray, List.set_cons_zero, List.set_cons_succ]
  refine wpAnyH_take (i := 9) (oi := { dst := some 57, op := Op.slice 9 (Operand.tmp 55) (some (Operand.tmp 56)) none none, type := 9, pos := "law.go:81", after := _, guard := none }) (v := ?vgr9) rfl (by kernel_rfl) (by kernel_rfl) (by kernel_rfl) (fun _ _ _ h => h) (Or.inl ⟨by rfl, ?hygr9⟩) (by assumption) ?restgr9
  case hygr9 => (intro w hSw; (try dsimp only at hSw); go_simp <;> with_reducible rfl)
  try simp only [Act.put, List.setIfInBounds_toArray, List.set_cons_zero, List.set_cons_succ]
  refine wpAnyH_ready (rs := [4]) (by kernel_rfl) (by simp) ?_
  refine AllReadyH.cons (o := { dst := some 52, op := Op.buildSlice 31 1 #[(0, Operand.tmp 51)], type := 31, pos := "law.go:81", after := _, guard := none }) rfl (fun K hK => ?_) AllReadyH.nil
  go_simp
  skip
  refine hK.out _ _ ?_ (fun hHeldgr4 => ?_)
  · trivial
  clear hK K hHeldgr
  try simp only [Act.put, List.setIfInBounds_toArray, List.set_cons_zero, List.set_cons_succ]
  refine wpAnyH_ready (rs := [5]) (by kernel_rfl) (by simp) ?_
  refine AllReadyH.cons (o := { dst := some 53, op := Op.convert 31 9 (Operand.tmp 52), type := 9, pos := "law.go:81", after := _, guard := none }) rfl (fun K hK => ?_) AllReadyH.nil
  go_simp
  skip
  refine hK.out _ _ ?_ (fun hHeldgr5 => ?_)
  · trivial
  clear hK K hHeldgr4
  try simp only [Act.put, List.setIfInBounds_toArray, List.set_cons_zero, List.set_cons_succ]
  refine wpAnyH_take (i := 6) (oi := { dst := some 54, op := Op.binOp BinOp.add 9 (Operand.tmp 50) (Operand.tmp 53) 9, type := 9, pos := "law.go:81", after := _, guard := none }) (v := ?vgr6) rfl (by kernel_rfl) (by kernel_rfl) (by kernel_rfl) (fun _ _ _ h => h) (Or.inl ⟨by rfl, ?hygr6⟩) (by assumption) ?restgr6
  case hygr6 => (intro w hSw; (try dsimp only at hSw); go_simp <;> with_reducible rfl)
  try simp only [Act.put, List.setIfInBounds_toArray, List.set_cons_zero, List.set_cons_succ]
  refine wpAnyH_take (i := 10) (oi := { dst := some 58, op := Op.binOp BinOp.add 9 (Operand.tmp 54) (Operand.tmp 57) 9, type := 9, pos := "law.go:81", after := _, guard := none }) (v := ?vgr10) rfl (by kernel_rfl) (by kernel_rfl) (by kernel_rfl) (fun _ _ _ h => h) (Or.inl ⟨by rfl, ?hygr10⟩) (by assumption) ?restgr10
  case hygr10 => (intro w hSw; (try dsimp only at hSw); go_simp <;> with_reducible rfl)
  try simp only [Act.put, List.setIfInBounds_toArray, List.set_cons_zero, List.set_cons_succ]
  refine wpAnyH_ready (rs := [11]) (by kernel_rfl) (by simp) ?_
  refine AllReadyH.cons (o := { dst := some 9, op := Op.assign (Operand.tmp 58), type := 9, pos := "law.go:81", after := _, guard := none }) rfl (fun K hK => ?_) AllReadyH.nil
  go_simp
  skip
  refine hK.out _ _ ?_ (fun hHeldgr11 => ?_)
  · trivial
  clear hK K hHeldgr5
  try simp only [Act.put, List.setIfInBounds_toArray, List.set_cons_zero, List.set_cons_succ]
  refine wpAnyH_done (by kernel_rfl) ?_ _
  have hY1 := hY0.trans ((Below.refl w1.heap.size w1).alloc (Nat.le_refl _) (.cells #[.int .u8 c] 5) |>.mono hY0.size)
  replace hY0 : Below w.heap.size w ((w1.alloc (.cells #[.int .u8 c] 5)).drew) := below_drewN hY1 1
  clear hY1 hcv1 e1 e2
  go_wp2_with fail
  refine (d2 _).mono ?_
  rintro e w3 ⟨rfl, hb⟩
  replace hY0 := hY0.trans (hb.mono hY0.size)
  clear hb
  go_wp2_with fail
  refine (d3 _).mono ?_
  rintro e w4 ⟨rfl, hb⟩
  replace hY0 := hY0.trans (hb.mono hY0.size)
  clear hb
  go_wp2
  go_ret
  exact ⟨rfl, hY0⟩

set_option maxRecDepth 100000 in
set_option maxHeartbeats 4000000 in
theorem signs_c0 (s : ByteArray) (c : Int) (k n : Nat) (hs : s.size ≤ 200) (hk : k ≤ s.size) (c1 : ¬ 97 ≤ c) (c3 : 48 ≤ c) (c4 : c ≤ 57)(d2 : ∀ W : World, Calls Try.prog 15 #[.string s] W fun e w' => e = .returned (.int .i64 (n : Nat)) ∧ Below W.heap.size W w')(hn : n = 0) (w : World) :
    Calls Try.prog 7 #[.string s, .int .u8 c, .int .i64 (k : Int)] w fun e w' => e = .returned (.bool true) ∧ Below w.heap.size w w' := by
  have hs' : ¬ (200 : Int) < (s.size : Int) := by omega
  have hk0 : ¬ (k : Int) < 0 := by omega
  have hk2 : ¬ (s.size : Int) < (k : Int) := by omega
  have hk3 : (0 : Int) ≤ (k : Int) := by omega
  have hk4 : (k : Int) ≤ (s.size : Int) := by omega
  have hcv := fun W : World => conv_one W (.cells #[.int .u8 c] 5) c (by simp)
  have e1 : ∀ W, (Op.stringOp .add (s.extract 0 k) ⟨#[UInt8.ofNat c.toNat]⟩).run Try.prog W = .ok (.string (s.extract 0 k ++ ⟨#[UInt8.ofNat c.toNat]⟩)) W := fun W => run_string_add_sum W _ _ (by rw [ByteArray.size_extract]; show _ + 1 ≤ _; omega)
  have e2 : ∀ W, (Op.stringOp .add (s.extract 0 k ++ ⟨#[UInt8.ofNat c.toNat]⟩) (s.extract k s.size)).run Try.prog W = .ok (.string (s.extract 0 k ++ ⟨#[UInt8.ofNat c.toNat]⟩ ++ s.extract k s.size)) W := fun W => run_string_add_sum W _ _ (by rw [ByteArray.size_append, ByteArray.size_extract, ByteArray.size_extract]; show _ + 1 + _ ≤ _; omega)
  generalize s.extract 0 k ++ ⟨#[UInt8.ofNat c.toNat]⟩ ++ s.extract k s.size = x at *
  generalize s.extract 0 k ++ ⟨#[UInt8.ofNat c.toNat]⟩ = x1 at *
  have e7 : ∀ W, (Op.stringOp .add s ⟨#[55]⟩).run Try.prog W = .ok (.string (s ++ ⟨#[55]⟩)) W := fun W => run_string_add_sum W s _ (by show _ + 1 ≤ _; omega)
  generalize s ++ ⟨#[55]⟩ = s7 at *
  subst hn
  go_enter Try.func7, Try.ntmps7
  have hY0 := Below.refl w.heap.size w
  go_wp2_with fail
  refine (awake_any _).mono ?_
  rintro e w1 ⟨rfl, hb⟩
  replace hY0 := hY0.trans (hb.mono hY0.size)
  clear hb
  go_wp2_with fail
  have hcv1 := hcv w1
  clear hcv
  refine wp_region_held_drew (S := fun _ => True) (by kernel_rfl) ?_ (fun hHeldhr => ?_)
  · trivial
  refine wpAnyH_take (i := 0) (oi := { dst := some 48, op := Op.move (Operand.tmp 0), type := 9, pos := "law.go:81", after := _, guard := none }) (v := ?vhr0) rfl (by kernel_rfl) (by kernel_rfl) (by kernel_rfl) (fun _ _ _ h => h) (Or.inl ⟨by rfl, ?hyhr0⟩) (by assumption) ?resthr0
  case hyhr0 => (intro w hSw; (try dsimp only at hSw); go_simp <;> with_reducible rfl)
  try simp only [Act.put, List.setIfInBounds_toArray, List.set_cons_zero, List.set_cons_succ]
  refine wpAnyH_take (i := 1) (oi := { dst := some 49, op := Op.move (Operand.tmp 2), type := 3, pos := "law.go:81", after := _, guard := none }) (v := ?vhr1) rfl (by kernel_rfl) (by kernel_rfl) (by kernel_rfl) (fun _ _ _ h => h) (Or.inl ⟨by rfl, ?hyhr1⟩) (by assumption) ?resthr1
  case hyhr1 => (intro w hSw; (try dsimp only at hSw); go_simp <;> with_reducible rfl)
  try simp only [Act.put, List.setIfInBounds_toArray, List.set_cons_zero, List.set_cons_succ]
  refine wpAnyH_take (i := 2) (oi := { dst := some 50, op := Op.slice 9 (Operand.tmp 48) none (some (Operand.tmp 49)) none, type := 9, pos := "law.go:81", after := _, guard := none }) (v := ?vhr2) rfl (by kernel_rfl) (by kernel_rfl) (by kernel_rfl) (fun _ _ _ h => h) (Or.inl ⟨by rfl, ?hyhr2⟩) (by assumption) ?resthr2
  case hyhr2 => (intro w hSw; (try dsimp only at hSw); go_simp <;> with_reducible rfl)
  try simp only [Act.put, List.setIfInBounds_toArray, List.set_cons_zero, List.set_cons_succ]
  refine wpAnyH_take (i := 3) (oi := { dst := some 51, op := Op.move (Operand.tmp 1), type := 5, pos := "law.go:81", after := _, guard := none }) (v := ?vhr3) rfl (by kernel_rfl) (by kernel_rfl) (by kernel_rfl) (fun _ _ _ h => h) (Or.inl ⟨by rfl, ?hyhr3⟩) (by assumption) ?resthr3
  case hyhr3 => (intro w hSw; (try dsimp only at hSw); go_simp <;> with_reducible rfl)
  try simp only [Act.put, List.setIfInBounds_toArray, List.set_cons_zero, List.set_cons_succ]
  refine wpAnyH_take (i := 7) (oi := { dst := some 55, op := Op.move (Operand.tmp 0), type := 9, pos := "law.go:81", after := _, guard := none }) (v := ?vhr7) rfl (by kernel_rfl) (by kernel_rfl) (by kernel_rfl) (fun _ _ _ h => h) (Or.inl ⟨by rfl, ?hyhr7⟩) (by assumption) ?resthr7
  case hyhr7 => (intro w hSw; (try dsimp only at hSw); go_simp <;> with_reducible rfl)
  try simp only [Act.put, List.setIfInBounds_toArray, List.set_cons_zero, List.set_cons_succ]
  refine wpAnyH_take (i := 8) (oi := { dst := some 56, op := Op.move (Operand.tmp 2), type := 3, pos := "law.go:81", after := _, guard := none }) (v := ?vhr8) rfl (by kernel_rfl) (by kernel_rfl) (by kernel_rfl) (fun _ _ _ h => h) (Or.inl ⟨by rfl, ?hyhr8⟩) (by assumption) ?resthr8
  case hyhr8 => (intro w hSw; (try dsimp only at hSw); go_simp <;> with_reducible rfl)
  try simp only [Act.put, List.setIfInBounds_toArray, List.set_cons_zero, List.set_cons_succ]
  refine wpAnyH_take (i := 9) (oi := { dst := some 57, op := Op.slice 9 (Operand.tmp 55) (some (Operand.tmp 56)) none none, type := 9, pos := "law.go:81", after := _, guard := none }) (v := ?vhr9) rfl (by kernel_rfl) (by kernel_rfl) (by kernel_rfl) (fun _ _ _ h => h) (Or.inl ⟨by rfl, ?hyhr9⟩) (by assumption) ?resthr9
  case hyhr9 => (intro w hSw; (try dsimp only at hSw); go_simp <;> with_reducible rfl)
  try simp only [Act.put, List.setIfInBounds_toArray, List.set_cons_zero, List.set_cons_succ]
  refine wpAnyH_ready (rs := [4]) (by kernel_rfl) (by simp) ?_
  refine AllReadyH.cons (o := { dst := some 52, op := Op.buildSlice 31 1 #[(0, Operand.tmp 51)], type := 31, pos := "law.go:81", after := _, guard := none }) rfl (fun K hK => ?_) AllReadyH.nil
  go_simp
  skip
  refine hK.out _ _ ?_ (fun hHeldhr4 => ?_)
  · trivial
  clear hK K hHeldhr
  try simp only [Act.put, List.setIfInBounds_toArray, List.set_cons_zero, List.set_cons_succ]
  refine wpAnyH_ready (rs := [5]) (by kernel_rfl) (by simp) ?_
  refine AllReadyH.cons (o := { dst := some 53, op := Op.convert 31 9 (Operand.tmp 52), type := 9, pos := "law.go:81", after := _, guard := none }) rfl (fun K hK => ?_) AllReadyH.nil
  go_simp
  skip
  refine hK.out _ _ ?_ (fun hHeldhr5 => ?_)
  · trivial
  clear hK K hHeldhr4
  try simp only [Act.put, List.setIfInBounds_toArray, List.set_cons_zero, List.set_cons_succ]
  refine wpAnyH_take (i := 6) (oi := { dst := some 54, op := Op.binOp BinOp.add 9 (Operand.tmp 50) (Operand.tmp 53) 9, type := 9, pos := "law.go:81", after := _, guard := none }) (v := ?vhr6) rfl (by kernel_rfl) (by kernel_rfl) (by kernel_rfl) (fun _ _ _ h => h) (Or.inl ⟨by rfl, ?hyhr6⟩) (by assumption) ?resthr6
  case hyhr6 => (intro w hSw; (try dsimp only at hSw); go_simp <;> with_reducible rfl)
  try simp only [Act.put, List.setIfInBounds_toArray, List.set_cons_zero, List.set_cons_succ]
  refine wpAnyH_take (i := 10) (oi := { dst := some 58, op := Op.binOp BinOp.add 9 (Operand.tmp 54) (Operand.tmp 57) 9, type := 9, pos := "law.go:81", after := _, guard := none }) (v := ?vhr10) rfl (by kernel_rfl) (by kernel_rfl) (by kernel_rfl) (fun _ _ _ h => h) (Or.inl ⟨by rfl, ?hyhr10⟩) (by assumption) ?resthr10
  case hyhr10 => (intro w hSw; (try dsimp only at hSw); go_simp <;> with_reducible rfl)
  try simp only [Act.put, List.setIfInBounds_toArray, List.set_cons_zero, List.set_cons_succ]
  refine wpAnyH_ready (rs := [11]) (by kernel_rfl) (by simp) ?_
  refine AllReadyH.cons (o := { dst := some 9, op := Op.assign (Operand.tmp 58), type := 9, pos := "law.go:81", after := _, guard := none }) rfl (fun K hK => ?_) AllReadyH.nil
  go_simp
  skip
  refine hK.out _ _ ?_ (fun hHeldhr11 => ?_)
  · trivial
  clear hK K hHeldhr5
  try simp only [Act.put, List.setIfInBounds_toArray, List.set_cons_zero, List.set_cons_succ]
  refine wpAnyH_done (by kernel_rfl) ?_ _
  have hY1 := hY0.trans ((Below.refl w1.heap.size w1).alloc (Nat.le_refl _) (.cells #[.int .u8 c] 5) |>.mono hY0.size)
  replace hY0 : Below w.heap.size w ((w1.alloc (.cells #[.int .u8 c] 5)).drew) := below_drewN hY1 1
  clear hY1 hcv1 e1 e2
  go_wp2_with fail
  refine (d2 _).mono ?_
  rintro e w3 ⟨rfl, hb⟩
  replace hY0 := hY0.trans (hb.mono hY0.size)
  clear hb
  go_wp2
  go_ret
  exact ⟨rfl, hY0⟩

set_option maxRecDepth 100000 in
set_option maxHeartbeats 4000000 in
theorem signs_c7 (s : ByteArray) (c : Int) (k n : Nat) (hs : s.size ≤ 200) (hk : k ≤ s.size) (c1 : ¬ 97 ≤ c) (c3 : 48 ≤ c) (c4 : c ≤ 57)(d2 : ∀ W : World, Calls Try.prog 15 #[.string s] W fun e w' => e = .returned (.int .i64 (n : Nat)) ∧ Below W.heap.size W w')(hn : 0 < n) (h8 : n < 8)(d3 : ∀ W : World, Calls Try.prog 14 #[.string (s ++ ⟨#[55]⟩)] W fun e w' => e = .returned (.bool true) ∧ Below W.heap.size W w') (w : World) :
    Calls Try.prog 7 #[.string s, .int .u8 c, .int .i64 (k : Int)] w fun e w' => e = .returned (.bool true) ∧ Below w.heap.size w w' := by
  have hs' : ¬ (200 : Int) < (s.size : Int) := by omega
  have hk0 : ¬ (k : Int) < 0 := by omega
  have hk2 : ¬ (s.size : Int) < (k : Int) := by omega
  have hk3 : (0 : Int) ≤ (k : Int) := by omega
  have hk4 : (k : Int) ≤ (s.size : Int) := by omega
  have hcv := fun W : World => conv_one W (.cells #[.int .u8 c] 5) c (by simp)
  have e1 : ∀ W, (Op.stringOp .add (s.extract 0 k) ⟨#[UInt8.ofNat c.toNat]⟩).run Try.prog W = .ok (.string (s.extract 0 k ++ ⟨#[UInt8.ofNat c.toNat]⟩)) W := fun W => run_string_add_sum W _ _ (by rw [ByteArray.size_extract]; show _ + 1 ≤ _; omega)
  have e2 : ∀ W, (Op.stringOp .add (s.extract 0 k ++ ⟨#[UInt8.ofNat c.toNat]⟩) (s.extract k s.size)).run Try.prog W = .ok (.string (s.extract 0 k ++ ⟨#[UInt8.ofNat c.toNat]⟩ ++ s.extract k s.size)) W := fun W => run_string_add_sum W _ _ (by rw [ByteArray.size_append, ByteArray.size_extract, ByteArray.size_extract]; show _ + 1 + _ ≤ _; omega)
  generalize s.extract 0 k ++ ⟨#[UInt8.ofNat c.toNat]⟩ ++ s.extract k s.size = x at *
  generalize s.extract 0 k ++ ⟨#[UInt8.ofNat c.toNat]⟩ = x1 at *
  have e7 : ∀ W, (Op.stringOp .add s ⟨#[55]⟩).run Try.prog W = .ok (.string (s ++ ⟨#[55]⟩)) W := fun W => run_string_add_sum W s _ (by show _ + 1 ≤ _; omega)
  generalize s ++ ⟨#[55]⟩ = s7 at *
  have hn0 : ((n : Int) == 0) = false := by simp; omega
  have h8' : (n : Int) < 8 := by omega
  go_enter Try.func7, Try.ntmps7
  have hY0 := Below.refl w.heap.size w
  go_wp2_with fail
  refine (awake_any _).mono ?_
  rintro e w1 ⟨rfl, hb⟩
  replace hY0 := hY0.trans (hb.mono hY0.size)
  clear hb
  go_wp2_with fail
  have hcv1 := hcv w1
  clear hcv
  refine wp_region_held_drew (S := fun _ => True) (by kernel_rfl) ?_ (fun hHeldir => ?_)
  · trivial
  refine wpAnyH_take (i := 0) (oi := { dst := some 48, op := Op.move (Operand.tmp 0), type := 9, pos := "law.go:81", after := _, guard := none }) (v := ?vir0) rfl (by kernel_rfl) (by kernel_rfl) (by kernel_rfl) (fun _ _ _ h => h) (Or.inl ⟨by rfl, ?hyir0⟩) (by assumption) ?restir0
  case hyir0 => (intro w hSw; (try dsimp only at hSw); go_simp <;> with_reducible rfl)
  try simp only [Act.put, List.setIfInBounds_toArray, List.set_cons_zero, List.set_cons_succ]
  refine wpAnyH_take (i := 1) (oi := { dst := some 49, op := Op.move (Operand.tmp 2), type := 3, pos := "law.go:81", after := _, guard := none }) (v := ?vir1) rfl (by kernel_rfl) (by kernel_rfl) (by kernel_rfl) (fun _ _ _ h => h) (Or.inl ⟨by rfl, ?hyir1⟩) (by assumption) ?restir1
  case hyir1 => (intro w hSw; (try dsimp only at hSw); go_simp <;> with_reducible rfl)
  try simp only [Act.put, List.setIfInBounds_toArray, List.set_cons_zero, List.set_cons_succ]
  refine wpAnyH_take (i := 2) (oi := { dst := some 50, op := Op.slice 9 (Operand.tmp 48) none (some (Operand.tmp 49)) none, type := 9, pos := "law.go:81", after := _, guard := none }) (v := ?vir2) rfl (by kernel_rfl) (by kernel_rfl) (by kernel_rfl) (fun _ _ _ h => h) (Or.inl ⟨by rfl, ?hyir2⟩) (by assumption) ?restir2
  case hyir2 => (intro w hSw; (try dsimp only at hSw); go_simp <;> with_reducible rfl)
  try simp only [Act.put, List.setIfInBounds_toArray, List.set_cons_zero, List.set_cons_succ]
  refine wpAnyH_take (i := 3) (oi := { dst := some 51, op := Op.move (Operand.tmp 1), type := 5, pos := "law.go:81", after := _, guard := none }) (v := ?vir3) rfl (by kernel_rfl) (by kernel_rfl) (by kernel_rfl) (fun _ _ _ h => h) (Or.inl ⟨by rfl, ?hyir3⟩) (by assumption) ?restir3
  case hyir3 => (intro w hSw; (try dsimp only at hSw); go_simp <;> with_reducible rfl)
  try simp only [Act.put, List.setIfInBounds_toArray, List.set_cons_zero, List.set_cons_succ]
  refine wpAnyH_take (i := 7) (oi := { dst := some 55, op := Op.move (Operand.tmp 0), type := 9, pos := "law.go:81", after := _, guard := none }) (v := ?vir7) rfl (by kernel_rfl) (by kernel_rfl) (by kernel_rfl) (fun _ _ _ h => h) (Or.inl ⟨by rfl, ?hyir7⟩) (by assumption) ?restir7
  case hyir7 => (intro w hSw; (try dsimp only at hSw); go_simp <;> with_reducible rfl)
  try simp only [Act.put, List.setIfInBounds_toArray, List.set_cons_zero, List.set_cons_succ]
  refine wpAnyH_take (i := 8) (oi := { dst := some 56, op := Op.move (Operand.tmp 2), type := 3, pos := "law.go:81", after := _, guard := none }) (v := ?vir8) rfl (by kernel_rfl) (by kernel_rfl) (by kernel_rfl) (fun _ _ _ h => h) (Or.inl ⟨by rfl, ?hyir8⟩) (by assumption) ?restir8
  case hyir8 => (intro w hSw; (try dsimp only at hSw); go_simp <;> with_reducible rfl)
  try simp only [Act.put, List.setIfInBounds_toArray, List.set_cons_zero, List.set_cons_succ]
  refine wpAnyH_take (i := 9) (oi := { dst := some 57, op := Op.slice 9 (Operand.tmp 55) (some (Operand.tmp 56)) none none, type := 9, pos := "law.go:81", after := _, guard := none }) (v := ?vir9) rfl (by kernel_rfl) (by kernel_rfl) (by kernel_rfl) (fun _ _ _ h => h) (Or.inl ⟨by rfl, ?hyir9⟩) (by assumption) ?restir9
  case hyir9 => (intro w hSw; (try dsimp only at hSw); go_simp <;> with_reducible rfl)
  try simp only [Act.put, List.setIfInBounds_toArray, List.set_cons_zero, List.set_cons_succ]
  refine wpAnyH_ready (rs := [4]) (by kernel_rfl) (by simp) ?_
  refine AllReadyH.cons (o := { dst := some 52, op := Op.buildSlice 31 1 #[(0, Operand.tmp 51)], type := 31, pos := "law.go:81", after := _, guard := none }) rfl (fun K hK => ?_) AllReadyH.nil
  go_simp
  skip
  refine hK.out _ _ ?_ (fun hHeldir4 => ?_)
  · trivial
  clear hK K hHeldir
  try simp only [Act.put, List.setIfInBounds_toArray, List.set_cons_zero, List.set_cons_succ]
  refine wpAnyH_ready (rs := [5]) (by kernel_rfl) (by simp) ?_
  refine AllReadyH.cons (o := { dst := some 53, op := Op.convert 31 9 (Operand.tmp 52), type := 9, pos := "law.go:81", after := _, guard := none }) rfl (fun K hK => ?_) AllReadyH.nil
  go_simp
  skip
  refine hK.out _ _ ?_ (fun hHeldir5 => ?_)
  · trivial
  clear hK K hHeldir4
  try simp only [Act.put, List.setIfInBounds_toArray, List.set_cons_zero, List.set_cons_succ]
  refine wpAnyH_take (i := 6) (oi := { dst := some 54, op := Op.binOp BinOp.add 9 (Operand.tmp 50) (Operand.tmp 53) 9, type := 9, pos := "law.go:81", after := _, guard := none }) (v := ?vir6) rfl (by kernel_rfl) (by kernel_rfl) (by kernel_rfl) (fun _ _ _ h => h) (Or.inl ⟨by rfl, ?hyir6⟩) (by assumption) ?restir6
  case hyir6 => (intro w hSw; (try dsimp only at hSw); go_simp <;> with_reducible rfl)
  try simp only [Act.put, List.setIfInBounds_toArray, List.set_cons_zero, List.set_cons_succ]
  refine wpAnyH_take (i := 10) (oi := { dst := some 58, op := Op.binOp BinOp.add 9 (Operand.tmp 54) (Operand.tmp 57) 9, type := 9, pos := "law.go:81", after := _, guard := none }) (v := ?vir10) rfl (by kernel_rfl) (by kernel_rfl) (by kernel_rfl) (fun _ _ _ h => h) (Or.inl ⟨by rfl, ?hyir10⟩) (by assumption) ?restir10
  case hyir10 => (intro w hSw; (try dsimp only at hSw); go_simp <;> with_reducible rfl)
  try simp only [Act.put, List.setIfInBounds_toArray, List.set_cons_zero, List.set_cons_succ]
  refine wpAnyH_ready (rs := [11]) (by kernel_rfl) (by simp) ?_
  refine AllReadyH.cons (o := { dst := some 9, op := Op.assign (Operand.tmp 58), type := 9, pos := "law.go:81", after := _, guard := none }) rfl (fun K hK => ?_) AllReadyH.nil
  go_simp
  skip
  refine hK.out _ _ ?_ (fun hHeldir11 => ?_)
  · trivial
  clear hK K hHeldir5
  try simp only [Act.put, List.setIfInBounds_toArray, List.set_cons_zero, List.set_cons_succ]
  refine wpAnyH_done (by kernel_rfl) ?_ _
  have hY1 := hY0.trans ((Below.refl w1.heap.size w1).alloc (Nat.le_refl _) (.cells #[.int .u8 c] 5) |>.mono hY0.size)
  replace hY0 : Below w.heap.size w ((w1.alloc (.cells #[.int .u8 c] 5)).drew) := below_drewN hY1 1
  clear hY1 hcv1 e1 e2
  go_wp2_with fail
  refine (d2 _).mono ?_
  rintro e w3 ⟨rfl, hb⟩
  replace hY0 := hY0.trans (hb.mono hY0.size)
  clear hb
  go_wp2_with fail
  refine (d3 _).mono ?_
  rintro e w4 ⟨rfl, hb⟩
  replace hY0 := hY0.trans (hb.mono hY0.size)
  clear hb
  go_wp2
  go_ret
  exact ⟨rfl, hY0⟩

set_option maxRecDepth 100000 in
set_option maxHeartbeats 4000000 in
theorem signs_c8 (s : ByteArray) (c : Int) (k n : Nat) (hs : s.size ≤ 200) (hk : k ≤ s.size) (c1 : ¬ 97 ≤ c) (c3 : 48 ≤ c) (c4 : c ≤ 57)(d2 : ∀ W : World, Calls Try.prog 15 #[.string s] W fun e w' => e = .returned (.int .i64 (n : Nat)) ∧ Below W.heap.size W w')(hn : 0 < n) (h8 : ¬ n < 8)(d3 : ∀ W : World, Calls Try.prog 14 #[.string (s ++ ⟨#[55]⟩)] W fun e w' => e = .returned (.bool false) ∧ Below W.heap.size W w') (w : World) :
    Calls Try.prog 7 #[.string s, .int .u8 c, .int .i64 (k : Int)] w fun e w' => e = .returned (.bool true) ∧ Below w.heap.size w w' := by
  have hs' : ¬ (200 : Int) < (s.size : Int) := by omega
  have hk0 : ¬ (k : Int) < 0 := by omega
  have hk2 : ¬ (s.size : Int) < (k : Int) := by omega
  have hk3 : (0 : Int) ≤ (k : Int) := by omega
  have hk4 : (k : Int) ≤ (s.size : Int) := by omega
  have hcv := fun W : World => conv_one W (.cells #[.int .u8 c] 5) c (by simp)
  have e1 : ∀ W, (Op.stringOp .add (s.extract 0 k) ⟨#[UInt8.ofNat c.toNat]⟩).run Try.prog W = .ok (.string (s.extract 0 k ++ ⟨#[UInt8.ofNat c.toNat]⟩)) W := fun W => run_string_add_sum W _ _ (by rw [ByteArray.size_extract]; show _ + 1 ≤ _; omega)
  have e2 : ∀ W, (Op.stringOp .add (s.extract 0 k ++ ⟨#[UInt8.ofNat c.toNat]⟩) (s.extract k s.size)).run Try.prog W = .ok (.string (s.extract 0 k ++ ⟨#[UInt8.ofNat c.toNat]⟩ ++ s.extract k s.size)) W := fun W => run_string_add_sum W _ _ (by rw [ByteArray.size_append, ByteArray.size_extract, ByteArray.size_extract]; show _ + 1 + _ ≤ _; omega)
  generalize s.extract 0 k ++ ⟨#[UInt8.ofNat c.toNat]⟩ ++ s.extract k s.size = x at *
  generalize s.extract 0 k ++ ⟨#[UInt8.ofNat c.toNat]⟩ = x1 at *
  have e7 : ∀ W, (Op.stringOp .add s ⟨#[55]⟩).run Try.prog W = .ok (.string (s ++ ⟨#[55]⟩)) W := fun W => run_string_add_sum W s _ (by show _ + 1 ≤ _; omega)
  generalize s ++ ⟨#[55]⟩ = s7 at *
  have hn0 : ((n : Int) == 0) = false := by simp; omega
  have h8' : ¬ (n : Int) < 8 := by omega
  have h8d : decide ((n : Int) < 8) = false := decide_eq_false h8'
  go_enter Try.func7, Try.ntmps7
  have hY0 := Below.refl w.heap.size w
  go_wp2_with fail
  refine (awake_any _).mono ?_
  rintro e w1 ⟨rfl, hb⟩
  replace hY0 := hY0.trans (hb.mono hY0.size)
  clear hb
  go_wp2_with fail
  have hcv1 := hcv w1
  clear hcv
  refine wp_region_held_drew (S := fun _ => True) (by kernel_rfl) ?_ (fun hHeldjr => ?_)
  · trivial
  refine wpAnyH_take (i := 0) (oi := { dst := some 48, op := Op.move (Operand.tmp 0), type := 9, pos := "law.go:81", after := _, guard := none }) (v := ?vjr0) rfl (by kernel_rfl) (by kernel_rfl) (by kernel_rfl) (fun _ _ _ h => h) (Or.inl ⟨by rfl, ?hyjr0⟩) (by assumption) ?restjr0
  case hyjr0 => (intro w hSw; (try dsimp only at hSw); go_simp <;> with_reducible rfl)
  try simp only [Act.put, List.setIfInBounds_toArray, List.set_cons_zero, List.set_cons_succ]
  refine wpAnyH_take (i := 1) (oi := { dst := some 49, op := Op.move (Operand.tmp 2), type := 3, pos := "law.go:81", after := _, guard := none }) (v := ?vjr1) rfl (by kernel_rfl) (by kernel_rfl) (by kernel_rfl) (fun _ _ _ h => h) (Or.inl ⟨by rfl, ?hyjr1⟩) (by assumption) ?restjr1
  case hyjr1 => (intro w hSw; (try dsimp only at hSw); go_simp <;> with_reducible rfl)
  try simp only [Act.put, List.setIfInBounds_toArray, List.set_cons_zero, List.set_cons_succ]
  refine wpAnyH_take (i := 2) (oi := { dst := some 50, op := Op.slice 9 (Operand.tmp 48) none (some (Operand.tmp 49)) none, type := 9, pos := "law.go:81", after := _, guard := none }) (v := ?vjr2) rfl (by kernel_rfl) (by kernel_rfl) (by kernel_rfl) (fun _ _ _ h => h) (Or.inl ⟨by rfl, ?hyjr2⟩) (by assumption) ?restjr2
  case hyjr2 => (intro w hSw; (try dsimp only at hSw); go_simp <;> with_reducible rfl)
  try simp only [Act.put, List.setIfInBounds_toArray, List.set_cons_zero, List.set_cons_succ]
  refine wpAnyH_take (i := 3) (oi := { dst := some 51, op := Op.move (Operand.tmp 1), type := 5, pos := "law.go:81", after := _, guard := none }) (v := ?vjr3) rfl (by kernel_rfl) (by kernel_rfl) (by kernel_rfl) (fun _ _ _ h => h) (Or.inl ⟨by rfl, ?hyjr3⟩) (by assumption) ?restjr3
  case hyjr3 => (intro w hSw; (try dsimp only at hSw); go_simp <;> with_reducible rfl)
  try simp only [Act.put, List.setIfInBounds_toArray, List.set_cons_zero, List.set_cons_succ]
  refine wpAnyH_take (i := 7) (oi := { dst := some 55, op := Op.move (Operand.tmp 0), type := 9, pos := "law.go:81", after := _, guard := none }) (v := ?vjr7) rfl (by kernel_rfl) (by kernel_rfl) (by kernel_rfl) (fun _ _ _ h => h) (Or.inl ⟨by rfl, ?hyjr7⟩) (by assumption) ?restjr7
  case hyjr7 => (intro w hSw; (try dsimp only at hSw); go_simp <;> with_reducible rfl)
  try simp only [Act.put, List.setIfInBounds_toArray, List.set_cons_zero, List.set_cons_succ]
  refine wpAnyH_take (i := 8) (oi := { dst := some 56, op := Op.move (Operand.tmp 2), type := 3, pos := "law.go:81", after := _, guard := none }) (v := ?vjr8) rfl (by kernel_rfl) (by kernel_rfl) (by kernel_rfl) (fun _ _ _ h => h) (Or.inl ⟨by rfl, ?hyjr8⟩) (by assumption) ?restjr8
  case hyjr8 => (intro w hSw; (try dsimp only at hSw); go_simp <;> with_reducible rfl)
  try simp only [Act.put, List.setIfInBounds_toArray, List.set_cons_zero, List.set_cons_succ]
  refine wpAnyH_take (i := 9) (oi := { dst := some 57, op := Op.slice 9 (Operand.tmp 55) (some (Operand.tmp 56)) none none, type := 9, pos := "law.go:81", after := _, guard := none }) (v := ?vjr9) rfl (by kernel_rfl) (by kernel_rfl) (by kernel_rfl) (fun _ _ _ h => h) (Or.inl ⟨by rfl, ?hyjr9⟩) (by assumption) ?restjr9
  case hyjr9 => (intro w hSw; (try dsimp only at hSw); go_simp <;> with_reducible rfl)
  try simp only [Act.put, List.setIfInBounds_toArray, List.set_cons_zero, List.set_cons_succ]
  refine wpAnyH_ready (rs := [4]) (by kernel_rfl) (by simp) ?_
  refine AllReadyH.cons (o := { dst := some 52, op := Op.buildSlice 31 1 #[(0, Operand.tmp 51)], type := 31, pos := "law.go:81", after := _, guard := none }) rfl (fun K hK => ?_) AllReadyH.nil
  go_simp
  skip
  refine hK.out _ _ ?_ (fun hHeldjr4 => ?_)
  · trivial
  clear hK K hHeldjr
  try simp only [Act.put, List.setIfInBounds_toArray, List.set_cons_zero, List.set_cons_succ]
  refine wpAnyH_ready (rs := [5]) (by kernel_rfl) (by simp) ?_
  refine AllReadyH.cons (o := { dst := some 53, op := Op.convert 31 9 (Operand.tmp 52), type := 9, pos := "law.go:81", after := _, guard := none }) rfl (fun K hK => ?_) AllReadyH.nil
  go_simp
  skip
  refine hK.out _ _ ?_ (fun hHeldjr5 => ?_)
  · trivial
  clear hK K hHeldjr4
  try simp only [Act.put, List.setIfInBounds_toArray, List.set_cons_zero, List.set_cons_succ]
  refine wpAnyH_take (i := 6) (oi := { dst := some 54, op := Op.binOp BinOp.add 9 (Operand.tmp 50) (Operand.tmp 53) 9, type := 9, pos := "law.go:81", after := _, guard := none }) (v := ?vjr6) rfl (by kernel_rfl) (by kernel_rfl) (by kernel_rfl) (fun _ _ _ h => h) (Or.inl ⟨by rfl, ?hyjr6⟩) (by assumption) ?restjr6
  case hyjr6 => (intro w hSw; (try dsimp only at hSw); go_simp <;> with_reducible rfl)
  try simp only [Act.put, List.setIfInBounds_toArray, List.set_cons_zero, List.set_cons_succ]
  refine wpAnyH_take (i := 10) (oi := { dst := some 58, op := Op.binOp BinOp.add 9 (Operand.tmp 54) (Operand.tmp 57) 9, type := 9, pos := "law.go:81", after := _, guard := none }) (v := ?vjr10) rfl (by kernel_rfl) (by kernel_rfl) (by kernel_rfl) (fun _ _ _ h => h) (Or.inl ⟨by rfl, ?hyjr10⟩) (by assumption) ?restjr10
  case hyjr10 => (intro w hSw; (try dsimp only at hSw); go_simp <;> with_reducible rfl)
  try simp only [Act.put, List.setIfInBounds_toArray, List.set_cons_zero, List.set_cons_succ]
  refine wpAnyH_ready (rs := [11]) (by kernel_rfl) (by simp) ?_
  refine AllReadyH.cons (o := { dst := some 9, op := Op.assign (Operand.tmp 58), type := 9, pos := "law.go:81", after := _, guard := none }) rfl (fun K hK => ?_) AllReadyH.nil
  go_simp
  skip
  refine hK.out _ _ ?_ (fun hHeldjr11 => ?_)
  · trivial
  clear hK K hHeldjr5
  try simp only [Act.put, List.setIfInBounds_toArray, List.set_cons_zero, List.set_cons_succ]
  refine wpAnyH_done (by kernel_rfl) ?_ _
  have hY1 := hY0.trans ((Below.refl w1.heap.size w1).alloc (Nat.le_refl _) (.cells #[.int .u8 c] 5) |>.mono hY0.size)
  replace hY0 : Below w.heap.size w ((w1.alloc (.cells #[.int .u8 c] 5)).drew) := below_drewN hY1 1
  clear hY1 hcv1 e1 e2
  go_wp2_with fail
  refine (d2 _).mono ?_
  rintro e w3 ⟨rfl, hb⟩
  replace hY0 := hY0.trans (hb.mono hY0.size)
  clear hb
  go_wp2_with fail
  refine (d3 _).mono ?_
  rintro e w4 ⟨rfl, hb⟩
  replace hY0 := hY0.trans (hb.mono hY0.size)
  clear hb
  go_wp2
  go_ret
  exact ⟨rfl, hY0⟩

set_option maxRecDepth 100000 in
set_option maxHeartbeats 4000000 in
theorem signs_d0 (s : ByteArray) (c : Int) (k n : Nat) (hs : s.size ≤ 200) (hk : k ≤ s.size) (c1 : 97 ≤ c) (c2 : ¬ c ≤ 122) (c3 : 48 ≤ c) (c4 : ¬ c ≤ 57) (c5 : ¬ 128 ≤ c)(d1 : ∀ W : World, Calls Try.prog 14 #[.string (s.extract 0 k ++ ⟨#[UInt8.ofNat c.toNat]⟩ ++ s.extract k s.size)] W fun e w' => e = .returned (.bool false) ∧ Below W.heap.size W w')(d2 : ∀ W : World, Calls Try.prog 15 #[.string s] W fun e w' => e = .returned (.int .i64 (n : Nat)) ∧ Below W.heap.size W w')(hn : n = 0) (w : World) :
    Calls Try.prog 7 #[.string s, .int .u8 c, .int .i64 (k : Int)] w fun e w' => e = .returned (.bool true) ∧ Below w.heap.size w w' := by
  have hs' : ¬ (200 : Int) < (s.size : Int) := by omega
  have hk0 : ¬ (k : Int) < 0 := by omega
  have hk2 : ¬ (s.size : Int) < (k : Int) := by omega
  have hk3 : (0 : Int) ≤ (k : Int) := by omega
  have hk4 : (k : Int) ≤ (s.size : Int) := by omega
  have hcv := fun W : World => conv_one W (.cells #[.int .u8 c] 5) c (by simp)
  have e1 : ∀ W, (Op.stringOp .add (s.extract 0 k) ⟨#[UInt8.ofNat c.toNat]⟩).run Try.prog W = .ok (.string (s.extract 0 k ++ ⟨#[UInt8.ofNat c.toNat]⟩)) W := fun W => run_string_add_sum W _ _ (by rw [ByteArray.size_extract]; show _ + 1 ≤ _; omega)
  have e2 : ∀ W, (Op.stringOp .add (s.extract 0 k ++ ⟨#[UInt8.ofNat c.toNat]⟩) (s.extract k s.size)).run Try.prog W = .ok (.string (s.extract 0 k ++ ⟨#[UInt8.ofNat c.toNat]⟩ ++ s.extract k s.size)) W := fun W => run_string_add_sum W _ _ (by rw [ByteArray.size_append, ByteArray.size_extract, ByteArray.size_extract]; show _ + 1 + _ ≤ _; omega)
  generalize s.extract 0 k ++ ⟨#[UInt8.ofNat c.toNat]⟩ ++ s.extract k s.size = x at *
  generalize s.extract 0 k ++ ⟨#[UInt8.ofNat c.toNat]⟩ = x1 at *
  have e7 : ∀ W, (Op.stringOp .add s ⟨#[55]⟩).run Try.prog W = .ok (.string (s ++ ⟨#[55]⟩)) W := fun W => run_string_add_sum W s _ (by show _ + 1 ≤ _; omega)
  generalize s ++ ⟨#[55]⟩ = s7 at *
  subst hn
  go_enter Try.func7, Try.ntmps7
  have hY0 := Below.refl w.heap.size w
  go_wp2_with fail
  refine (awake_any _).mono ?_
  rintro e w1 ⟨rfl, hb⟩
  replace hY0 := hY0.trans (hb.mono hY0.size)
  clear hb
  go_wp2_with fail
  have hcv1 := hcv w1
  clear hcv
  refine wp_region_held_drew (S := fun _ => True) (by kernel_rfl) ?_ (fun hHeldkr => ?_)
  · trivial
  refine wpAnyH_take (i := 0) (oi := { dst := some 48, op := Op.move (Operand.tmp 0), type := 9, pos := "law.go:81", after := _, guard := none }) (v := ?vkr0) rfl (by kernel_rfl) (by kernel_rfl) (by kernel_rfl) (fun _ _ _ h => h) (Or.inl ⟨by rfl, ?hykr0⟩) (by assumption) ?restkr0
  case hykr0 => (intro w hSw; (try dsimp only at hSw); go_simp <;> with_reducible rfl)
  try simp only [Act.put, List.setIfInBounds_toArray, List.set_cons_zero, List.set_cons_succ]
  refine wpAnyH_take (i := 1) (oi := { dst := some 49, op := Op.move (Operand.tmp 2), type := 3, pos := "law.go:81", after := _, guard := none }) (v := ?vkr1) rfl (by kernel_rfl) (by kernel_rfl) (by kernel_rfl) (fun _ _ _ h => h) (Or.inl ⟨by rfl, ?hykr1⟩) (by assumption) ?restkr1
  case hykr1 => (intro w hSw; (try dsimp only at hSw); go_simp <;> with_reducible rfl)
  try simp only [Act.put, List.setIfInBounds_toArray, List.set_cons_zero, List.set_cons_succ]
  refine wpAnyH_take (i := 2) (oi := { dst := some 50, op := Op.slice 9 (Operand.tmp 48) none (some (Operand.tmp 49)) none, type := 9, pos := "law.go:81", after := _, guard := none }) (v := ?vkr2) rfl (by kernel_rfl) (by kernel_rfl) (by kernel_rfl) (fun _ _ _ h => h) (Or.inl ⟨by rfl, ?hykr2⟩) (by assumption) ?restkr2
  case hykr2 => (intro w hSw; (try dsimp only at hSw); go_simp <;> with_reducible rfl)
  try simp only [Act.put, List.setIfInBounds_toArray, List.set_cons_zero, List.set_cons_succ]
  refine wpAnyH_take (i := 3) (oi := { dst := some 51, op := Op.move (Operand.tmp 1), type := 5, pos := "law.go:81", after := _, guard := none }) (v := ?vkr3) rfl (by kernel_rfl) (by kernel_rfl) (by kernel_rfl) (fun _ _ _ h => h) (Or.inl ⟨by rfl, ?hykr3⟩) (by assumption) ?restkr3
  case hykr3 => (intro w hSw; (try dsimp only at hSw); go_simp <;> with_reducible rfl)
  try simp only [Act.put, List.setIfInBounds_toArray, List.set_cons_zero, List.set_cons_succ]
  refine wpAnyH_take (i := 7) (oi := { dst := some 55, op := Op.move (Operand.tmp 0), type := 9, pos := "law.go:81", after := _, guard := none }) (v := ?vkr7) rfl (by kernel_rfl) (by kernel_rfl) (by kernel_rfl) (fun _ _ _ h => h) (Or.inl ⟨by rfl, ?hykr7⟩) (by assumption) ?restkr7
  case hykr7 => (intro w hSw; (try dsimp only at hSw); go_simp <;> with_reducible rfl)
  try simp only [Act.put, List.setIfInBounds_toArray, List.set_cons_zero, List.set_cons_succ]
  refine wpAnyH_take (i := 8) (oi := { dst := some 56, op := Op.move (Operand.tmp 2), type := 3, pos := "law.go:81", after := _, guard := none }) (v := ?vkr8) rfl (by kernel_rfl) (by kernel_rfl) (by kernel_rfl) (fun _ _ _ h => h) (Or.inl ⟨by rfl, ?hykr8⟩) (by assumption) ?restkr8
  case hykr8 => (intro w hSw; (try dsimp only at hSw); go_simp <;> with_reducible rfl)
  try simp only [Act.put, List.setIfInBounds_toArray, List.set_cons_zero, List.set_cons_succ]
  refine wpAnyH_take (i := 9) (oi := { dst := some 57, op := Op.slice 9 (Operand.tmp 55) (some (Operand.tmp 56)) none none, type := 9, pos := "law.go:81", after := _, guard := none }) (v := ?vkr9) rfl (by kernel_rfl) (by kernel_rfl) (by kernel_rfl) (fun _ _ _ h => h) (Or.inl ⟨by rfl, ?hykr9⟩) (by assumption) ?restkr9
  case hykr9 => (intro w hSw; (try dsimp only at hSw); go_simp <;> with_reducible rfl)
  try simp only [Act.put, List.setIfInBounds_toArray, List.set_cons_zero, List.set_cons_succ]
  refine wpAnyH_ready (rs := [4]) (by kernel_rfl) (by simp) ?_
  refine AllReadyH.cons (o := { dst := some 52, op := Op.buildSlice 31 1 #[(0, Operand.tmp 51)], type := 31, pos := "law.go:81", after := _, guard := none }) rfl (fun K hK => ?_) AllReadyH.nil
  go_simp
  skip
  refine hK.out _ _ ?_ (fun hHeldkr4 => ?_)
  · trivial
  clear hK K hHeldkr
  try simp only [Act.put, List.setIfInBounds_toArray, List.set_cons_zero, List.set_cons_succ]
  refine wpAnyH_ready (rs := [5]) (by kernel_rfl) (by simp) ?_
  refine AllReadyH.cons (o := { dst := some 53, op := Op.convert 31 9 (Operand.tmp 52), type := 9, pos := "law.go:81", after := _, guard := none }) rfl (fun K hK => ?_) AllReadyH.nil
  go_simp
  skip
  refine hK.out _ _ ?_ (fun hHeldkr5 => ?_)
  · trivial
  clear hK K hHeldkr4
  try simp only [Act.put, List.setIfInBounds_toArray, List.set_cons_zero, List.set_cons_succ]
  refine wpAnyH_take (i := 6) (oi := { dst := some 54, op := Op.binOp BinOp.add 9 (Operand.tmp 50) (Operand.tmp 53) 9, type := 9, pos := "law.go:81", after := _, guard := none }) (v := ?vkr6) rfl (by kernel_rfl) (by kernel_rfl) (by kernel_rfl) (fun _ _ _ h => h) (Or.inl ⟨by rfl, ?hykr6⟩) (by assumption) ?restkr6
  case hykr6 => (intro w hSw; (try dsimp only at hSw); go_simp <;> with_reducible rfl)
  try simp only [Act.put, List.setIfInBounds_toArray, List.set_cons_zero, List.set_cons_succ]
  refine wpAnyH_take (i := 10) (oi := { dst := some 58, op := Op.binOp BinOp.add 9 (Operand.tmp 54) (Operand.tmp 57) 9, type := 9, pos := "law.go:81", after := _, guard := none }) (v := ?vkr10) rfl (by kernel_rfl) (by kernel_rfl) (by kernel_rfl) (fun _ _ _ h => h) (Or.inl ⟨by rfl, ?hykr10⟩) (by assumption) ?restkr10
  case hykr10 => (intro w hSw; (try dsimp only at hSw); go_simp <;> with_reducible rfl)
  try simp only [Act.put, List.setIfInBounds_toArray, List.set_cons_zero, List.set_cons_succ]
  refine wpAnyH_ready (rs := [11]) (by kernel_rfl) (by simp) ?_
  refine AllReadyH.cons (o := { dst := some 9, op := Op.assign (Operand.tmp 58), type := 9, pos := "law.go:81", after := _, guard := none }) rfl (fun K hK => ?_) AllReadyH.nil
  go_simp
  skip
  refine hK.out _ _ ?_ (fun hHeldkr11 => ?_)
  · trivial
  clear hK K hHeldkr5
  try simp only [Act.put, List.setIfInBounds_toArray, List.set_cons_zero, List.set_cons_succ]
  refine wpAnyH_done (by kernel_rfl) ?_ _
  have hY1 := hY0.trans ((Below.refl w1.heap.size w1).alloc (Nat.le_refl _) (.cells #[.int .u8 c] 5) |>.mono hY0.size)
  replace hY0 : Below w.heap.size w ((w1.alloc (.cells #[.int .u8 c] 5)).drew) := below_drewN hY1 1
  clear hY1 hcv1 e1 e2
  go_wp2_with fail
  refine (d1 _).mono ?_
  rintro e w3 ⟨rfl, hb⟩
  replace hY0 := hY0.trans (hb.mono hY0.size)
  clear hb
  go_wp2_with fail
  refine (d2 _).mono ?_
  rintro e w4 ⟨rfl, hb⟩
  replace hY0 := hY0.trans (hb.mono hY0.size)
  clear hb
  go_wp2
  go_ret
  exact ⟨rfl, hY0⟩

set_option maxRecDepth 100000 in
set_option maxHeartbeats 4000000 in
theorem signs_d7 (s : ByteArray) (c : Int) (k n : Nat) (hs : s.size ≤ 200) (hk : k ≤ s.size) (c1 : 97 ≤ c) (c2 : ¬ c ≤ 122) (c3 : 48 ≤ c) (c4 : ¬ c ≤ 57) (c5 : ¬ 128 ≤ c)(d1 : ∀ W : World, Calls Try.prog 14 #[.string (s.extract 0 k ++ ⟨#[UInt8.ofNat c.toNat]⟩ ++ s.extract k s.size)] W fun e w' => e = .returned (.bool false) ∧ Below W.heap.size W w')(d2 : ∀ W : World, Calls Try.prog 15 #[.string s] W fun e w' => e = .returned (.int .i64 (n : Nat)) ∧ Below W.heap.size W w')(hn : 0 < n) (h8 : n < 8)(d3 : ∀ W : World, Calls Try.prog 14 #[.string (s ++ ⟨#[55]⟩)] W fun e w' => e = .returned (.bool true) ∧ Below W.heap.size W w') (w : World) :
    Calls Try.prog 7 #[.string s, .int .u8 c, .int .i64 (k : Int)] w fun e w' => e = .returned (.bool true) ∧ Below w.heap.size w w' := by
  have hs' : ¬ (200 : Int) < (s.size : Int) := by omega
  have hk0 : ¬ (k : Int) < 0 := by omega
  have hk2 : ¬ (s.size : Int) < (k : Int) := by omega
  have hk3 : (0 : Int) ≤ (k : Int) := by omega
  have hk4 : (k : Int) ≤ (s.size : Int) := by omega
  have hcv := fun W : World => conv_one W (.cells #[.int .u8 c] 5) c (by simp)
  have e1 : ∀ W, (Op.stringOp .add (s.extract 0 k) ⟨#[UInt8.ofNat c.toNat]⟩).run Try.prog W = .ok (.string (s.extract 0 k ++ ⟨#[UInt8.ofNat c.toNat]⟩)) W := fun W => run_string_add_sum W _ _ (by rw [ByteArray.size_extract]; show _ + 1 ≤ _; omega)
  have e2 : ∀ W, (Op.stringOp .add (s.extract 0 k ++ ⟨#[UInt8.ofNat c.toNat]⟩) (s.extract k s.size)).run Try.prog W = .ok (.string (s.extract 0 k ++ ⟨#[UInt8.ofNat c.toNat]⟩ ++ s.extract k s.size)) W := fun W => run_string_add_sum W _ _ (by rw [ByteArray.size_append, ByteArray.size_extract, ByteArray.size_extract]; show _ + 1 + _ ≤ _; omega)
  generalize s.extract 0 k ++ ⟨#[UInt8.ofNat c.toNat]⟩ ++ s.extract k s.size = x at *
  generalize s.extract 0 k ++ ⟨#[UInt8.ofNat c.toNat]⟩ = x1 at *
  have e7 : ∀ W, (Op.stringOp .add s ⟨#[55]⟩).run Try.prog W = .ok (.string (s ++ ⟨#[55]⟩)) W := fun W => run_string_add_sum W s _ (by show _ + 1 ≤ _; omega)
  generalize s ++ ⟨#[55]⟩ = s7 at *
  have hn0 : ((n : Int) == 0) = false := by simp; omega
  have h8' : (n : Int) < 8 := by omega
  go_enter Try.func7, Try.ntmps7
  have hY0 := Below.refl w.heap.size w
  go_wp2_with fail
  refine (awake_any _).mono ?_
  rintro e w1 ⟨rfl, hb⟩
  replace hY0 := hY0.trans (hb.mono hY0.size)
  clear hb
  go_wp2_with fail
  have hcv1 := hcv w1
  clear hcv
  refine wp_region_held_drew (S := fun _ => True) (by kernel_rfl) ?_ (fun hHeldlr => ?_)
  · trivial
  refine wpAnyH_take (i := 0) (oi := { dst := some 48, op := Op.move (Operand.tmp 0), type := 9, pos := "law.go:81", after := _, guard := none }) (v := ?vlr0) rfl (by kernel_rfl) (by kernel_rfl) (by kernel_rfl) (fun _ _ _ h => h) (Or.inl ⟨by rfl, ?hylr0⟩) (by assumption) ?restlr0
  case hylr0 => (intro w hSw; (try dsimp only at hSw); go_simp <;> with_reducible rfl)
  try simp only [Act.put, List.setIfInBounds_toArray, List.set_cons_zero, List.set_cons_succ]
  refine wpAnyH_take (i := 1) (oi := { dst := some 49, op := Op.move (Operand.tmp 2), type := 3, pos := "law.go:81", after := _, guard := none }) (v := ?vlr1) rfl (by kernel_rfl) (by kernel_rfl) (by kernel_rfl) (fun _ _ _ h => h) (Or.inl ⟨by rfl, ?hylr1⟩) (by assumption) ?restlr1
  case hylr1 => (intro w hSw; (try dsimp only at hSw); go_simp <;> with_reducible rfl)
  try simp only [Act.put, List.setIfInBounds_toArray, List.set_cons_zero, List.set_cons_succ]
  refine wpAnyH_take (i := 2) (oi := { dst := some 50, op := Op.slice 9 (Operand.tmp 48) none (some (Operand.tmp 49)) none, type := 9, pos := "law.go:81", after := _, guard := none }) (v := ?vlr2) rfl (by kernel_rfl) (by kernel_rfl) (by kernel_rfl) (fun _ _ _ h => h) (Or.inl ⟨by rfl, ?hylr2⟩) (by assumption) ?restlr2
  case hylr2 => (intro w hSw; (try dsimp only at hSw); go_simp <;> with_reducible rfl)
  try simp only [Act.put, List.setIfInBounds_toArray, List.set_cons_zero, List.set_cons_succ]
  refine wpAnyH_take (i := 3) (oi := { dst := some 51, op := Op.move (Operand.tmp 1), type := 5, pos := "law.go:81", after := _, guard := none }) (v := ?vlr3) rfl (by kernel_rfl) (by kernel_rfl) (by kernel_rfl) (fun _ _ _ h => h) (Or.inl ⟨by rfl, ?hylr3⟩) (by assumption) ?restlr3
  case hylr3 => (intro w hSw; (try dsimp only at hSw); go_simp <;> with_reducible rfl)
  try simp only [Act.put, List.setIfInBounds_toArray, List.set_cons_zero, List.set_cons_succ]
  refine wpAnyH_take (i := 7) (oi := { dst := some 55, op := Op.move (Operand.tmp 0), type := 9, pos := "law.go:81", after := _, guard := none }) (v := ?vlr7) rfl (by kernel_rfl) (by kernel_rfl) (by kernel_rfl) (fun _ _ _ h => h) (Or.inl ⟨by rfl, ?hylr7⟩) (by assumption) ?restlr7
  case hylr7 => (intro w hSw; (try dsimp only at hSw); go_simp <;> with_reducible rfl)
  try simp only [Act.put, List.setIfInBounds_toArray, List.set_cons_zero, List.set_cons_succ]
  refine wpAnyH_take (i := 8) (oi := { dst := some 56, op := Op.move (Operand.tmp 2), type := 3, pos := "law.go:81", after := _, guard := none }) (v := ?vlr8) rfl (by kernel_rfl) (by kernel_rfl) (by kernel_rfl) (fun _ _ _ h => h) (Or.inl ⟨by rfl, ?hylr8⟩) (by assumption) ?restlr8
  case hylr8 => (intro w hSw; (try dsimp only at hSw); go_simp <;> with_reducible rfl)
  try simp only [Act.put, List.setIfInBounds_toArray, List.set_cons_zero, List.set_cons_succ]
  refine wpAnyH_take (i := 9) (oi := { dst := some 57, op := Op.slice 9 (Operand.tmp 55) (some (Operand.tmp 56)) none none, type := 9, pos := "law.go:81", after := _, guard := none }) (v := ?vlr9) rfl (by kernel_rfl) (by kernel_rfl) (by kernel_rfl) (fun _ _ _ h => h) (Or.inl ⟨by rfl, ?hylr9⟩) (by assumption) ?restlr9
  case hylr9 => (intro w hSw; (try dsimp only at hSw); go_simp <;> with_reducible rfl)
  try simp only [Act.put, List.setIfInBounds_toArray, List.set_cons_zero, List.set_cons_succ]
  refine wpAnyH_ready (rs := [4]) (by kernel_rfl) (by simp) ?_
  refine AllReadyH.cons (o := { dst := some 52, op := Op.buildSlice 31 1 #[(0, Operand.tmp 51)], type := 31, pos := "law.go:81", after := _, guard := none }) rfl (fun K hK => ?_) AllReadyH.nil
  go_simp
  skip
  refine hK.out _ _ ?_ (fun hHeldlr4 => ?_)
  · trivial
  clear hK K hHeldlr
  try simp only [Act.put, List.setIfInBounds_toArray, List.set_cons_zero, List.set_cons_succ]
  refine wpAnyH_ready (rs := [5]) (by kernel_rfl) (by simp) ?_
  refine AllReadyH.cons (o := { dst := some 53, op := Op.convert 31 9 (Operand.tmp 52), type := 9, pos := "law.go:81", after := _, guard := none }) rfl (fun K hK => ?_) AllReadyH.nil
  go_simp
  skip
  refine hK.out _ _ ?_ (fun hHeldlr5 => ?_)
  · trivial
  clear hK K hHeldlr4
  try simp only [Act.put, List.setIfInBounds_toArray, List.set_cons_zero, List.set_cons_succ]
  refine wpAnyH_take (i := 6) (oi := { dst := some 54, op := Op.binOp BinOp.add 9 (Operand.tmp 50) (Operand.tmp 53) 9, type := 9, pos := "law.go:81", after := _, guard := none }) (v := ?vlr6) rfl (by kernel_rfl) (by kernel_rfl) (by kernel_rfl) (fun _ _ _ h => h) (Or.inl ⟨by rfl, ?hylr6⟩) (by assumption) ?restlr6
  case hylr6 => (intro w hSw; (try dsimp only at hSw); go_simp <;> with_reducible rfl)
  try simp only [Act.put, List.setIfInBounds_toArray, List.set_cons_zero, List.set_cons_succ]
  refine wpAnyH_take (i := 10) (oi := { dst := some 58, op := Op.binOp BinOp.add 9 (Operand.tmp 54) (Operand.tmp 57) 9, type := 9, pos := "law.go:81", after := _, guard := none }) (v := ?vlr10) rfl (by kernel_rfl) (by kernel_rfl) (by kernel_rfl) (fun _ _ _ h => h) (Or.inl ⟨by rfl, ?hylr10⟩) (by assumption) ?restlr10
  case hylr10 => (intro w hSw; (try dsimp only at hSw); go_simp <;> with_reducible rfl)
  try simp only [Act.put, List.setIfInBounds_toArray, List.set_cons_zero, List.set_cons_succ]
  refine wpAnyH_ready (rs := [11]) (by kernel_rfl) (by simp) ?_
  refine AllReadyH.cons (o := { dst := some 9, op := Op.assign (Operand.tmp 58), type := 9, pos := "law.go:81", after := _, guard := none }) rfl (fun K hK => ?_) AllReadyH.nil
  go_simp
  skip
  refine hK.out _ _ ?_ (fun hHeldlr11 => ?_)
  · trivial
  clear hK K hHeldlr5
  try simp only [Act.put, List.setIfInBounds_toArray, List.set_cons_zero, List.set_cons_succ]
  refine wpAnyH_done (by kernel_rfl) ?_ _
  have hY1 := hY0.trans ((Below.refl w1.heap.size w1).alloc (Nat.le_refl _) (.cells #[.int .u8 c] 5) |>.mono hY0.size)
  replace hY0 : Below w.heap.size w ((w1.alloc (.cells #[.int .u8 c] 5)).drew) := below_drewN hY1 1
  clear hY1 hcv1 e1 e2
  go_wp2_with fail
  refine (d1 _).mono ?_
  rintro e w3 ⟨rfl, hb⟩
  replace hY0 := hY0.trans (hb.mono hY0.size)
  clear hb
  go_wp2_with fail
  refine (d2 _).mono ?_
  rintro e w4 ⟨rfl, hb⟩
  replace hY0 := hY0.trans (hb.mono hY0.size)
  clear hb
  go_wp2_with fail
  refine (d3 _).mono ?_
  rintro e w5 ⟨rfl, hb⟩
  replace hY0 := hY0.trans (hb.mono hY0.size)
  clear hb
  go_wp2
  go_ret
  exact ⟨rfl, hY0⟩

set_option maxRecDepth 100000 in
set_option maxHeartbeats 4000000 in
theorem signs_d8 (s : ByteArray) (c : Int) (k n : Nat) (hs : s.size ≤ 200) (hk : k ≤ s.size) (c1 : 97 ≤ c) (c2 : ¬ c ≤ 122) (c3 : 48 ≤ c) (c4 : ¬ c ≤ 57) (c5 : ¬ 128 ≤ c)(d1 : ∀ W : World, Calls Try.prog 14 #[.string (s.extract 0 k ++ ⟨#[UInt8.ofNat c.toNat]⟩ ++ s.extract k s.size)] W fun e w' => e = .returned (.bool false) ∧ Below W.heap.size W w')(d2 : ∀ W : World, Calls Try.prog 15 #[.string s] W fun e w' => e = .returned (.int .i64 (n : Nat)) ∧ Below W.heap.size W w')(hn : 0 < n) (h8 : ¬ n < 8)(d3 : ∀ W : World, Calls Try.prog 14 #[.string (s ++ ⟨#[55]⟩)] W fun e w' => e = .returned (.bool false) ∧ Below W.heap.size W w') (w : World) :
    Calls Try.prog 7 #[.string s, .int .u8 c, .int .i64 (k : Int)] w fun e w' => e = .returned (.bool true) ∧ Below w.heap.size w w' := by
  have hs' : ¬ (200 : Int) < (s.size : Int) := by omega
  have hk0 : ¬ (k : Int) < 0 := by omega
  have hk2 : ¬ (s.size : Int) < (k : Int) := by omega
  have hk3 : (0 : Int) ≤ (k : Int) := by omega
  have hk4 : (k : Int) ≤ (s.size : Int) := by omega
  have hcv := fun W : World => conv_one W (.cells #[.int .u8 c] 5) c (by simp)
  have e1 : ∀ W, (Op.stringOp .add (s.extract 0 k) ⟨#[UInt8.ofNat c.toNat]⟩).run Try.prog W = .ok (.string (s.extract 0 k ++ ⟨#[UInt8.ofNat c.toNat]⟩)) W := fun W => run_string_add_sum W _ _ (by rw [ByteArray.size_extract]; show _ + 1 ≤ _; omega)
  have e2 : ∀ W, (Op.stringOp .add (s.extract 0 k ++ ⟨#[UInt8.ofNat c.toNat]⟩) (s.extract k s.size)).run Try.prog W = .ok (.string (s.extract 0 k ++ ⟨#[UInt8.ofNat c.toNat]⟩ ++ s.extract k s.size)) W := fun W => run_string_add_sum W _ _ (by rw [ByteArray.size_append, ByteArray.size_extract, ByteArray.size_extract]; show _ + 1 + _ ≤ _; omega)
  generalize s.extract 0 k ++ ⟨#[UInt8.ofNat c.toNat]⟩ ++ s.extract k s.size = x at *
  generalize s.extract 0 k ++ ⟨#[UInt8.ofNat c.toNat]⟩ = x1 at *
  have e7 : ∀ W, (Op.stringOp .add s ⟨#[55]⟩).run Try.prog W = .ok (.string (s ++ ⟨#[55]⟩)) W := fun W => run_string_add_sum W s _ (by show _ + 1 ≤ _; omega)
  generalize s ++ ⟨#[55]⟩ = s7 at *
  have hn0 : ((n : Int) == 0) = false := by simp; omega
  have h8' : ¬ (n : Int) < 8 := by omega
  have h8d : decide ((n : Int) < 8) = false := decide_eq_false h8'
  go_enter Try.func7, Try.ntmps7
  have hY0 := Below.refl w.heap.size w
  go_wp2_with fail
  refine (awake_any _).mono ?_
  rintro e w1 ⟨rfl, hb⟩
  replace hY0 := hY0.trans (hb.mono hY0.size)
  clear hb
  go_wp2_with fail
  have hcv1 := hcv w1
  clear hcv
  refine wp_region_held_drew (S := fun _ => True) (by kernel_rfl) ?_ (fun hHeldmr => ?_)
  · trivial
  refine wpAnyH_take (i := 0) (oi := { dst := some 48, op := Op.move (Operand.tmp 0), type := 9, pos := "law.go:81", after := _, guard := none }) (v := ?vmr0) rfl (by kernel_rfl) (by kernel_rfl) (by kernel_rfl) (fun _ _ _ h => h) (Or.inl ⟨by rfl, ?hymr0⟩) (by assumption) ?restmr0
  case hymr0 => (intro w hSw; (try dsimp only at hSw); go_simp <;> with_reducible rfl)
  try simp only [Act.put, List.setIfInBounds_toArray, List.set_cons_zero, List.set_cons_succ]
  refine wpAnyH_take (i := 1) (oi := { dst := some 49, op := Op.move (Operand.tmp 2), type := 3, pos := "law.go:81", after := _, guard := none }) (v := ?vmr1) rfl (by kernel_rfl) (by kernel_rfl) (by kernel_rfl) (fun _ _ _ h => h) (Or.inl ⟨by rfl, ?hymr1⟩) (by assumption) ?restmr1
  case hymr1 => (intro w hSw; (try dsimp only at hSw); go_simp <;> with_reducible rfl)
  try simp only [Act.put, List.setIfInBounds_toArray, List.set_cons_zero, List.set_cons_succ]
  refine wpAnyH_take (i := 2) (oi := { dst := some 50, op := Op.slice 9 (Operand.tmp 48) none (some (Operand.tmp 49)) none, type := 9, pos := "law.go:81", after := _, guard := none }) (v := ?vmr2) rfl (by kernel_rfl) (by kernel_rfl) (by kernel_rfl) (fun _ _ _ h => h) (Or.inl ⟨by rfl, ?hymr2⟩) (by assumption) ?restmr2
  case hymr2 => (intro w hSw; (try dsimp only at hSw); go_simp <;> with_reducible rfl)
  try simp only [Act.put, List.setIfInBounds_toArray, List.set_cons_zero, List.set_cons_succ]
  refine wpAnyH_take (i := 3) (oi := { dst := some 51, op := Op.move (Operand.tmp 1), type := 5, pos := "law.go:81", after := _, guard := none }) (v := ?vmr3) rfl (by kernel_rfl) (by kernel_rfl) (by kernel_rfl) (fun _ _ _ h => h) (Or.inl ⟨by rfl, ?hymr3⟩) (by assumption) ?restmr3
  case hymr3 => (intro w hSw; (try dsimp only at hSw); go_simp <;> with_reducible rfl)
  try simp only [Act.put, List.setIfInBounds_toArray, List.set_cons_zero, List.set_cons_succ]
  refine wpAnyH_take (i := 7) (oi := { dst := some 55, op := Op.move (Operand.tmp 0), type := 9, pos := "law.go:81", after := _, guard := none }) (v := ?vmr7) rfl (by kernel_rfl) (by kernel_rfl) (by kernel_rfl) (fun _ _ _ h => h) (Or.inl ⟨by rfl, ?hymr7⟩) (by assumption) ?restmr7
  case hymr7 => (intro w hSw; (try dsimp only at hSw); go_simp <;> with_reducible rfl)
  try simp only [Act.put, List.setIfInBounds_toArray, List.set_cons_zero, List.set_cons_succ]
  refine wpAnyH_take (i := 8) (oi := { dst := some 56, op := Op.move (Operand.tmp 2), type := 3, pos := "law.go:81", after := _, guard := none }) (v := ?vmr8) rfl (by kernel_rfl) (by kernel_rfl) (by kernel_rfl) (fun _ _ _ h => h) (Or.inl ⟨by rfl, ?hymr8⟩) (by assumption) ?restmr8
  case hymr8 => (intro w hSw; (try dsimp only at hSw); go_simp <;> with_reducible rfl)
  try simp only [Act.put, List.setIfInBounds_toArray, List.set_cons_zero, List.set_cons_succ]
  refine wpAnyH_take (i := 9) (oi := { dst := some 57, op := Op.slice 9 (Operand.tmp 55) (some (Operand.tmp 56)) none none, type := 9, pos := "law.go:81", after := _, guard := none }) (v := ?vmr9) rfl (by kernel_rfl) (by kernel_rfl) (by kernel_rfl) (fun _ _ _ h => h) (Or.inl ⟨by rfl, ?hymr9⟩) (by assumption) ?restmr9
  case hymr9 => (intro w hSw; (try dsimp only at hSw); go_simp <;> with_reducible rfl)
  try simp only [Act.put, List.setIfInBounds_toArray, List.set_cons_zero, List.set_cons_succ]
  refine wpAnyH_ready (rs := [4]) (by kernel_rfl) (by simp) ?_
  refine AllReadyH.cons (o := { dst := some 52, op := Op.buildSlice 31 1 #[(0, Operand.tmp 51)], type := 31, pos := "law.go:81", after := _, guard := none }) rfl (fun K hK => ?_) AllReadyH.nil
  go_simp
  skip
  refine hK.out _ _ ?_ (fun hHeldmr4 => ?_)
  · trivial
  clear hK K hHeldmr
  try simp only [Act.put, List.setIfInBounds_toArray, List.set_cons_zero, List.set_cons_succ]
  refine wpAnyH_ready (rs := [5]) (by kernel_rfl) (by simp) ?_
  refine AllReadyH.cons (o := { dst := some 53, op := Op.convert 31 9 (Operand.tmp 52), type := 9, pos := "law.go:81", after := _, guard := none }) rfl (fun K hK => ?_) AllReadyH.nil
  go_simp
  skip
  refine hK.out _ _ ?_ (fun hHeldmr5 => ?_)
  · trivial
  clear hK K hHeldmr4
  try simp only [Act.put, List.setIfInBounds_toArray, List.set_cons_zero, List.set_cons_succ]
  refine wpAnyH_take (i := 6) (oi := { dst := some 54, op := Op.binOp BinOp.add 9 (Operand.tmp 50) (Operand.tmp 53) 9, type := 9, pos := "law.go:81", after := _, guard := none }) (v := ?vmr6) rfl (by kernel_rfl) (by kernel_rfl) (by kernel_rfl) (fun _ _ _ h => h) (Or.inl ⟨by rfl, ?hymr6⟩) (by assumption) ?restmr6
  case hymr6 => (intro w hSw; (try dsimp only at hSw); go_simp <;> with_reducible rfl)
  try simp only [Act.put, List.setIfInBounds_toArray, List.set_cons_zero, List.set_cons_succ]
  refine wpAnyH_take (i := 10) (oi := { dst := some 58, op := Op.binOp BinOp.add 9 (Operand.tmp 54) (Operand.tmp 57) 9, type := 9, pos := "law.go:81", after := _, guard := none }) (v := ?vmr10) rfl (by kernel_rfl) (by kernel_rfl) (by kernel_rfl) (fun _ _ _ h => h) (Or.inl ⟨by rfl, ?hymr10⟩) (by assumption) ?restmr10
  case hymr10 => (intro w hSw; (try dsimp only at hSw); go_simp <;> with_reducible rfl)
  try simp only [Act.put, List.setIfInBounds_toArray, List.set_cons_zero, List.set_cons_succ]
  refine wpAnyH_ready (rs := [11]) (by kernel_rfl) (by simp) ?_
  refine AllReadyH.cons (o := { dst := some 9, op := Op.assign (Operand.tmp 58), type := 9, pos := "law.go:81", after := _, guard := none }) rfl (fun K hK => ?_) AllReadyH.nil
  go_simp
  skip
  refine hK.out _ _ ?_ (fun hHeldmr11 => ?_)
  · trivial
  clear hK K hHeldmr5
  try simp only [Act.put, List.setIfInBounds_toArray, List.set_cons_zero, List.set_cons_succ]
  refine wpAnyH_done (by kernel_rfl) ?_ _
  have hY1 := hY0.trans ((Below.refl w1.heap.size w1).alloc (Nat.le_refl _) (.cells #[.int .u8 c] 5) |>.mono hY0.size)
  replace hY0 : Below w.heap.size w ((w1.alloc (.cells #[.int .u8 c] 5)).drew) := below_drewN hY1 1
  clear hY1 hcv1 e1 e2
  go_wp2_with fail
  refine (d1 _).mono ?_
  rintro e w3 ⟨rfl, hb⟩
  replace hY0 := hY0.trans (hb.mono hY0.size)
  clear hb
  go_wp2_with fail
  refine (d2 _).mono ?_
  rintro e w4 ⟨rfl, hb⟩
  replace hY0 := hY0.trans (hb.mono hY0.size)
  clear hb
  go_wp2_with fail
  refine (d3 _).mono ?_
  rintro e w5 ⟨rfl, hb⟩
  replace hY0 := hY0.trans (hb.mono hY0.size)
  clear hb
  go_wp2
  go_ret
  exact ⟨rfl, hY0⟩

set_option maxRecDepth 100000 in
set_option maxHeartbeats 4000000 in
theorem signs_e0 (s : ByteArray) (c : Int) (k n : Nat) (hs : s.size ≤ 200) (hk : k ≤ s.size) (c1 : ¬ 97 ≤ c) (c3 : 48 ≤ c) (c4 : ¬ c ≤ 57) (c5 : ¬ 128 ≤ c)(d1 : ∀ W : World, Calls Try.prog 14 #[.string (s.extract 0 k ++ ⟨#[UInt8.ofNat c.toNat]⟩ ++ s.extract k s.size)] W fun e w' => e = .returned (.bool false) ∧ Below W.heap.size W w')(d2 : ∀ W : World, Calls Try.prog 15 #[.string s] W fun e w' => e = .returned (.int .i64 (n : Nat)) ∧ Below W.heap.size W w')(hn : n = 0) (w : World) :
    Calls Try.prog 7 #[.string s, .int .u8 c, .int .i64 (k : Int)] w fun e w' => e = .returned (.bool true) ∧ Below w.heap.size w w' := by
  have hs' : ¬ (200 : Int) < (s.size : Int) := by omega
  have hk0 : ¬ (k : Int) < 0 := by omega
  have hk2 : ¬ (s.size : Int) < (k : Int) := by omega
  have hk3 : (0 : Int) ≤ (k : Int) := by omega
  have hk4 : (k : Int) ≤ (s.size : Int) := by omega
  have hcv := fun W : World => conv_one W (.cells #[.int .u8 c] 5) c (by simp)
  have e1 : ∀ W, (Op.stringOp .add (s.extract 0 k) ⟨#[UInt8.ofNat c.toNat]⟩).run Try.prog W = .ok (.string (s.extract 0 k ++ ⟨#[UInt8.ofNat c.toNat]⟩)) W := fun W => run_string_add_sum W _ _ (by rw [ByteArray.size_extract]; show _ + 1 ≤ _; omega)
  have e2 : ∀ W, (Op.stringOp .add (s.extract 0 k ++ ⟨#[UInt8.ofNat c.toNat]⟩) (s.extract k s.size)).run Try.prog W = .ok (.string (s.extract 0 k ++ ⟨#[UInt8.ofNat c.toNat]⟩ ++ s.extract k s.size)) W := fun W => run_string_add_sum W _ _ (by rw [ByteArray.size_append, ByteArray.size_extract, ByteArray.size_extract]; show _ + 1 + _ ≤ _; omega)
  generalize s.extract 0 k ++ ⟨#[UInt8.ofNat c.toNat]⟩ ++ s.extract k s.size = x at *
  generalize s.extract 0 k ++ ⟨#[UInt8.ofNat c.toNat]⟩ = x1 at *
  have e7 : ∀ W, (Op.stringOp .add s ⟨#[55]⟩).run Try.prog W = .ok (.string (s ++ ⟨#[55]⟩)) W := fun W => run_string_add_sum W s _ (by show _ + 1 ≤ _; omega)
  generalize s ++ ⟨#[55]⟩ = s7 at *
  subst hn
  go_enter Try.func7, Try.ntmps7
  have hY0 := Below.refl w.heap.size w
  go_wp2_with fail
  refine (awake_any _).mono ?_
  rintro e w1 ⟨rfl, hb⟩
  replace hY0 := hY0.trans (hb.mono hY0.size)
  clear hb
  go_wp2_with fail
  have hcv1 := hcv w1
  clear hcv
  refine wp_region_held_drew (S := fun _ => True) (by kernel_rfl) ?_ (fun hHeldnr => ?_)
  · trivial
  refine wpAnyH_take (i := 0) (oi := { dst := some 48, op := Op.move (Operand.tmp 0), type := 9, pos := "law.go:81", after := _, guard := none }) (v := ?vnr0) rfl (by kernel_rfl) (by kernel_rfl) (by kernel_rfl) (fun _ _ _ h => h) (Or.inl ⟨by rfl, ?hynr0⟩) (by assumption) ?restnr0
  case hynr0 => (intro w hSw; (try dsimp only at hSw); go_simp <;> with_reducible rfl)
  try simp only [Act.put, List.setIfInBounds_toArray, List.set_cons_zero, List.set_cons_succ]
  refine wpAnyH_take (i := 1) (oi := { dst := some 49, op := Op.move (Operand.tmp 2), type := 3, pos := "law.go:81", after := _, guard := none }) (v := ?vnr1) rfl (by kernel_rfl) (by kernel_rfl) (by kernel_rfl) (fun _ _ _ h => h) (Or.inl ⟨by rfl, ?hynr1⟩) (by assumption) ?restnr1
  case hynr1 => (intro w hSw; (try dsimp only at hSw); go_simp <;> with_reducible rfl)
  try simp only [Act.put, List.setIfInBounds_toArray, List.set_cons_zero, List.set_cons_succ]
  refine wpAnyH_take (i := 2) (oi := { dst := some 50, op := Op.slice 9 (Operand.tmp 48) none (some (Operand.tmp 49)) none, type := 9, pos := "law.go:81", after := _, guard := none }) (v := ?vnr2) rfl (by kernel_rfl) (by kernel_rfl) (by kernel_rfl) (fun _ _ _ h => h) (Or.inl ⟨by rfl, ?hynr2⟩) (by assumption) ?restnr2
  case hynr2 => (intro w hSw; (try dsimp only at hSw); go_simp <;> with_reducible rfl)
  try simp only [Act.put, List.setIfInBounds_toArray, List.set_cons_zero, List.set_cons_succ]
  refine wpAnyH_take (i := 3) (oi := { dst := some 51, op := Op.move (Operand.tmp 1), type := 5, pos := "law.go:81", after := _, guard := none }) (v := ?vnr3) rfl (by kernel_rfl) (by kernel_rfl) (by kernel_rfl) (fun _ _ _ h => h) (Or.inl ⟨by rfl, ?hynr3⟩) (by assumption) ?restnr3
  case hynr3 => (intro w hSw; (try dsimp only at hSw); go_simp <;> with_reducible rfl)
  try simp only [Act.put, List.setIfInBounds_toArray, List.set_cons_zero, List.set_cons_succ]
  refine wpAnyH_take (i := 7) (oi := { dst := some 55, op := Op.move (Operand.tmp 0), type := 9, pos := "law.go:81", after := _, guard := none }) (v := ?vnr7) rfl (by kernel_rfl) (by kernel_rfl) (by kernel_rfl) (fun _ _ _ h => h) (Or.inl ⟨by rfl, ?hynr7⟩) (by assumption) ?restnr7
  case hynr7 => (intro w hSw; (try dsimp only at hSw); go_simp <;> with_reducible rfl)
  try simp only [Act.put, List.setIfInBounds_toArray, List.set_cons_zero, List.set_cons_succ]
  refine wpAnyH_take (i := 8) (oi := { dst := some 56, op := Op.move (Operand.tmp 2), type := 3, pos := "law.go:81", after := _, guard := none }) (v := ?vnr8) rfl (by kernel_rfl) (by kernel_rfl) (by kernel_rfl) (fun _ _ _ h => h) (Or.inl ⟨by rfl, ?hynr8⟩) (by assumption) ?restnr8
  case hynr8 => (intro w hSw; (try dsimp only at hSw); go_simp <;> with_reducible rfl)
  try simp only [Act.put, List.setIfInBounds_toArray, List.set_cons_zero, List.set_cons_succ]
  refine wpAnyH_take (i := 9) (oi := { dst := some 57, op := Op.slice 9 (Operand.tmp 55) (some (Operand.tmp 56)) none none, type := 9, pos := "law.go:81", after := _, guard := none }) (v := ?vnr9) rfl (by kernel_rfl) (by kernel_rfl) (by kernel_rfl) (fun _ _ _ h => h) (Or.inl ⟨by rfl, ?hynr9⟩) (by assumption) ?restnr9
  case hynr9 => (intro w hSw; (try dsimp only at hSw); go_simp <;> with_reducible rfl)
  try simp only [Act.put, List.setIfInBounds_toArray, List.set_cons_zero, List.set_cons_succ]
  refine wpAnyH_ready (rs := [4]) (by kernel_rfl) (by simp) ?_
  refine AllReadyH.cons (o := { dst := some 52, op := Op.buildSlice 31 1 #[(0, Operand.tmp 51)], type := 31, pos := "law.go:81", after := _, guard := none }) rfl (fun K hK => ?_) AllReadyH.nil
  go_simp
  skip
  refine hK.out _ _ ?_ (fun hHeldnr4 => ?_)
  · trivial
  clear hK K hHeldnr
  try simp only [Act.put, List.setIfInBounds_toArray, List.set_cons_zero, List.set_cons_succ]
  refine wpAnyH_ready (rs := [5]) (by kernel_rfl) (by simp) ?_
  refine AllReadyH.cons (o := { dst := some 53, op := Op.convert 31 9 (Operand.tmp 52), type := 9, pos := "law.go:81", after := _, guard := none }) rfl (fun K hK => ?_) AllReadyH.nil
  go_simp
  skip
  refine hK.out _ _ ?_ (fun hHeldnr5 => ?_)
  · trivial
  clear hK K hHeldnr4
  try simp only [Act.put, List.setIfInBounds_toArray, List.set_cons_zero, List.set_cons_succ]
  refine wpAnyH_take (i := 6) (oi := { dst := some 54, op := Op.binOp BinOp.add 9 (Operand.tmp 50) (Operand.tmp 53) 9, type := 9, pos := "law.go:81", after := _, guard := none }) (v := ?vnr6) rfl (by kernel_rfl) (by kernel_rfl) (by kernel_rfl) (fun _ _ _ h => h) (Or.inl ⟨by rfl, ?hynr6⟩) (by assumption) ?restnr6
  case hynr6 => (intro w hSw; (try dsimp only at hSw); go_simp <;> with_reducible rfl)
  try simp only [Act.put, List.setIfInBounds_toArray, List.set_cons_zero, List.set_cons_succ]
  refine wpAnyH_take (i := 10) (oi := { dst := some 58, op := Op.binOp BinOp.add 9 (Operand.tmp 54) (Operand.tmp 57) 9, type := 9, pos := "law.go:81", after := _, guard := none }) (v := ?vnr10) rfl (by kernel_rfl) (by kernel_rfl) (by kernel_rfl) (fun _ _ _ h => h) (Or.inl ⟨by rfl, ?hynr10⟩) (by assumption) ?restnr10
  case hynr10 => (intro w hSw; (try dsimp only at hSw); go_simp <;> with_reducible rfl)
  try simp only [Act.put, List.setIfInBounds_toArray, List.set_cons_zero, List.set_cons_succ]
  refine wpAnyH_ready (rs := [11]) (by kernel_rfl) (by simp) ?_
  refine AllReadyH.cons (o := { dst := some 9, op := Op.assign (Operand.tmp 58), type := 9, pos := "law.go:81", after := _, guard := none }) rfl (fun K hK => ?_) AllReadyH.nil
  go_simp
  skip
  refine hK.out _ _ ?_ (fun hHeldnr11 => ?_)
  · trivial
  clear hK K hHeldnr5
  try simp only [Act.put, List.setIfInBounds_toArray, List.set_cons_zero, List.set_cons_succ]
  refine wpAnyH_done (by kernel_rfl) ?_ _
  have hY1 := hY0.trans ((Below.refl w1.heap.size w1).alloc (Nat.le_refl _) (.cells #[.int .u8 c] 5) |>.mono hY0.size)
  replace hY0 : Below w.heap.size w ((w1.alloc (.cells #[.int .u8 c] 5)).drew) := below_drewN hY1 1
  clear hY1 hcv1 e1 e2
  go_wp2_with fail
  refine (d1 _).mono ?_
  rintro e w3 ⟨rfl, hb⟩
  replace hY0 := hY0.trans (hb.mono hY0.size)
  clear hb
  go_wp2_with fail
  refine (d2 _).mono ?_
  rintro e w4 ⟨rfl, hb⟩
  replace hY0 := hY0.trans (hb.mono hY0.size)
  clear hb
  go_wp2
  go_ret
  exact ⟨rfl, hY0⟩

set_option maxRecDepth 100000 in
set_option maxHeartbeats 4000000 in
theorem signs_e7 (s : ByteArray) (c : Int) (k n : Nat) (hs : s.size ≤ 200) (hk : k ≤ s.size) (c1 : ¬ 97 ≤ c) (c3 : 48 ≤ c) (c4 : ¬ c ≤ 57) (c5 : ¬ 128 ≤ c)(d1 : ∀ W : World, Calls Try.prog 14 #[.string (s.extract 0 k ++ ⟨#[UInt8.ofNat c.toNat]⟩ ++ s.extract k s.size)] W fun e w' => e = .returned (.bool false) ∧ Below W.heap.size W w')(d2 : ∀ W : World, Calls Try.prog 15 #[.string s] W fun e w' => e = .returned (.int .i64 (n : Nat)) ∧ Below W.heap.size W w')(hn : 0 < n) (h8 : n < 8)(d3 : ∀ W : World, Calls Try.prog 14 #[.string (s ++ ⟨#[55]⟩)] W fun e w' => e = .returned (.bool true) ∧ Below W.heap.size W w') (w : World) :
    Calls Try.prog 7 #[.string s, .int .u8 c, .int .i64 (k : Int)] w fun e w' => e = .returned (.bool true) ∧ Below w.heap.size w w' := by
  have hs' : ¬ (200 : Int) < (s.size : Int) := by omega
  have hk0 : ¬ (k : Int) < 0 := by omega
  have hk2 : ¬ (s.size : Int) < (k : Int) := by omega
  have hk3 : (0 : Int) ≤ (k : Int) := by omega
  have hk4 : (k : Int) ≤ (s.size : Int) := by omega
  have hcv := fun W : World => conv_one W (.cells #[.int .u8 c] 5) c (by simp)
  have e1 : ∀ W, (Op.stringOp .add (s.extract 0 k) ⟨#[UInt8.ofNat c.toNat]⟩).run Try.prog W = .ok (.string (s.extract 0 k ++ ⟨#[UInt8.ofNat c.toNat]⟩)) W := fun W => run_string_add_sum W _ _ (by rw [ByteArray.size_extract]; show _ + 1 ≤ _; omega)
  have e2 : ∀ W, (Op.stringOp .add (s.extract 0 k ++ ⟨#[UInt8.ofNat c.toNat]⟩) (s.extract k s.size)).run Try.prog W = .ok (.string (s.extract 0 k ++ ⟨#[UInt8.ofNat c.toNat]⟩ ++ s.extract k s.size)) W := fun W => run_string_add_sum W _ _ (by rw [ByteArray.size_append, ByteArray.size_extract, ByteArray.size_extract]; show _ + 1 + _ ≤ _; omega)
  generalize s.extract 0 k ++ ⟨#[UInt8.ofNat c.toNat]⟩ ++ s.extract k s.size = x at *
  generalize s.extract 0 k ++ ⟨#[UInt8.ofNat c.toNat]⟩ = x1 at *
  have e7 : ∀ W, (Op.stringOp .add s ⟨#[55]⟩).run Try.prog W = .ok (.string (s ++ ⟨#[55]⟩)) W := fun W => run_string_add_sum W s _ (by show _ + 1 ≤ _; omega)
  generalize s ++ ⟨#[55]⟩ = s7 at *
  have hn0 : ((n : Int) == 0) = false := by simp; omega
  have h8' : (n : Int) < 8 := by omega
  go_enter Try.func7, Try.ntmps7
  have hY0 := Below.refl w.heap.size w
  go_wp2_with fail
  refine (awake_any _).mono ?_
  rintro e w1 ⟨rfl, hb⟩
  replace hY0 := hY0.trans (hb.mono hY0.size)
  clear hb
  go_wp2_with fail
  have hcv1 := hcv w1
  clear hcv
  refine wp_region_held_drew (S := fun _ => True) (by kernel_rfl) ?_ (fun hHeldor => ?_)
  · trivial
  refine wpAnyH_take (i := 0) (oi := { dst := some 48, op := Op.move (Operand.tmp 0), type := 9, pos := "law.go:81", after := _, guard := none }) (v := ?vor0) rfl (by kernel_rfl) (by kernel_rfl) (by kernel_rfl) (fun _ _ _ h => h) (Or.inl ⟨by rfl, ?hyor0⟩) (by assumption) ?restor0
  case hyor0 => (intro w hSw; (try dsimp only at hSw); go_simp <;> with_reducible rfl)
  try simp only [Act.put, List.setIfInBounds_toArray, List.set_cons_zero, List.set_cons_succ]
  refine wpAnyH_take (i := 1) (oi := { dst := some 49, op := Op.move (Operand.tmp 2), type := 3, pos := "law.go:81", after := _, guard := none }) (v := ?vor1) rfl (by kernel_rfl) (by kernel_rfl) (by kernel_rfl) (fun _ _ _ h => h) (Or.inl ⟨by rfl, ?hyor1⟩) (by assumption) ?restor1
  case hyor1 => (intro w hSw; (try dsimp only at hSw); go_simp <;> with_reducible rfl)
  try simp only [Act.put, List.setIfInBounds_toArray, List.set_cons_zero, List.set_cons_succ]
  refine wpAnyH_take (i := 2) (oi := { dst := some 50, op := Op.slice 9 (Operand.tmp 48) none (some (Operand.tmp 49)) none, type := 9, pos := "law.go:81", after := _, guard := none }) (v := ?vor2) rfl (by kernel_rfl) (by kernel_rfl) (by kernel_rfl) (fun _ _ _ h => h) (Or.inl ⟨by rfl, ?hyor2⟩) (by assumption) ?restor2
  case hyor2 => (intro w hSw; (try dsimp only at hSw); go_simp <;> with_reducible rfl)
  try simp only [Act.put, List.setIfInBounds_toArray, List.set_cons_zero, List.set_cons_succ]
  refine wpAnyH_take (i := 3) (oi := { dst := some 51, op := Op.move (Operand.tmp 1), type := 5, pos := "law.go:81", after := _, guard := none }) (v := ?vor3) rfl (by kernel_rfl) (by kernel_rfl) (by kernel_rfl) (fun _ _ _ h => h) (Or.inl ⟨by rfl, ?hyor3⟩) (by assumption) ?restor3
  case hyor3 => (intro w hSw; (try dsimp only at hSw); go_simp <;> with_reducible rfl)
  try simp only [Act.put, List.setIfInBounds_toArray, List.set_cons_zero, List.set_cons_succ]
  refine wpAnyH_take (i := 7) (oi := { dst := some 55, op := Op.move (Operand.tmp 0), type := 9, pos := "law.go:81", after := _, guard := none }) (v := ?vor7) rfl (by kernel_rfl) (by kernel_rfl) (by kernel_rfl) (fun _ _ _ h => h) (Or.inl ⟨by rfl, ?hyor7⟩) (by assumption) ?restor7
  case hyor7 => (intro w hSw; (try dsimp only at hSw); go_simp <;> with_reducible rfl)
  try simp only [Act.put, List.setIfInBounds_toArray, List.set_cons_zero, List.set_cons_succ]
  refine wpAnyH_take (i := 8) (oi := { dst := some 56, op := Op.move (Operand.tmp 2), type := 3, pos := "law.go:81", after := _, guard := none }) (v := ?vor8) rfl (by kernel_rfl) (by kernel_rfl) (by kernel_rfl) (fun _ _ _ h => h) (Or.inl ⟨by rfl, ?hyor8⟩) (by assumption) ?restor8
  case hyor8 => (intro w hSw; (try dsimp only at hSw); go_simp <;> with_reducible rfl)
  try simp only [Act.put, List.setIfInBounds_toArray, List.set_cons_zero, List.set_cons_succ]
  refine wpAnyH_take (i := 9) (oi := { dst := some 57, op := Op.slice 9 (Operand.tmp 55) (some (Operand.tmp 56)) none none, type := 9, pos := "law.go:81", after := _, guard := none }) (v := ?vor9) rfl (by kernel_rfl) (by kernel_rfl) (by kernel_rfl) (fun _ _ _ h => h) (Or.inl ⟨by rfl, ?hyor9⟩) (by assumption) ?restor9
  case hyor9 => (intro w hSw; (try dsimp only at hSw); go_simp <;> with_reducible rfl)
  try simp only [Act.put, List.setIfInBounds_toArray, List.set_cons_zero, List.set_cons_succ]
  refine wpAnyH_ready (rs := [4]) (by kernel_rfl) (by simp) ?_
  refine AllReadyH.cons (o := { dst := some 52, op := Op.buildSlice 31 1 #[(0, Operand.tmp 51)], type := 31, pos := "law.go:81", after := _, guard := none }) rfl (fun K hK => ?_) AllReadyH.nil
  go_simp
  skip
  refine hK.out _ _ ?_ (fun hHeldor4 => ?_)
  · trivial
  clear hK K hHeldor
  try simp only [Act.put, List.setIfInBounds_toArray, List.set_cons_zero, List.set_cons_succ]
  refine wpAnyH_ready (rs := [5]) (by kernel_rfl) (by simp) ?_
  refine AllReadyH.cons (o := { dst := some 53, op := Op.convert 31 9 (Operand.tmp 52), type := 9, pos := "law.go:81", after := _, guard := none }) rfl (fun K hK => ?_) AllReadyH.nil
  go_simp
  skip
  refine hK.out _ _ ?_ (fun hHeldor5 => ?_)
  · trivial
  clear hK K hHeldor4
  try simp only [Act.put, List.setIfInBounds_toArray, List.set_cons_zero, List.set_cons_succ]
  refine wpAnyH_take (i := 6) (oi := { dst := some 54, op := Op.binOp BinOp.add 9 (Operand.tmp 50) (Operand.tmp 53) 9, type := 9, pos := "law.go:81", after := _, guard := none }) (v := ?vor6) rfl (by kernel_rfl) (by kernel_rfl) (by kernel_rfl) (fun _ _ _ h => h) (Or.inl ⟨by rfl, ?hyor6⟩) (by assumption) ?restor6
  case hyor6 => (intro w hSw; (try dsimp only at hSw); go_simp <;> with_reducible rfl)
  try simp only [Act.put, List.setIfInBounds_toArray, List.set_cons_zero, List.set_cons_succ]
  refine wpAnyH_take (i := 10) (oi := { dst := some 58, op := Op.binOp BinOp.add 9 (Operand.tmp 54) (Operand.tmp 57) 9, type := 9, pos := "law.go:81", after := _, guard := none }) (v := ?vor10) rfl (by kernel_rfl) (by kernel_rfl) (by kernel_rfl) (fun _ _ _ h => h) (Or.inl ⟨by rfl, ?hyor10⟩) (by assumption) ?restor10
  case hyor10 => (intro w hSw; (try dsimp only at hSw); go_simp <;> with_reducible rfl)
  try simp only [Act.put, List.setIfInBounds_toArray, List.set_cons_zero, List.set_cons_succ]
  refine wpAnyH_ready (rs := [11]) (by kernel_rfl) (by simp) ?_
  refine AllReadyH.cons (o := { dst := some 9, op := Op.assign (Operand.tmp 58), type := 9, pos := "law.go:81", after := _, guard := none }) rfl (fun K hK => ?_) AllReadyH.nil
  go_simp
  skip
  refine hK.out _ _ ?_ (fun hHeldor11 => ?_)
  · trivial
  clear hK K hHeldor5
  try simp only [Act.put, List.setIfInBounds_toArray, List.set_cons_zero, List.set_cons_succ]
  refine wpAnyH_done (by kernel_rfl) ?_ _
  have hY1 := hY0.trans ((Below.refl w1.heap.size w1).alloc (Nat.le_refl _) (.cells #[.int .u8 c] 5) |>.mono hY0.size)
  replace hY0 : Below w.heap.size w ((w1.alloc (.cells #[.int .u8 c] 5)).drew) := below_drewN hY1 1
  clear hY1 hcv1 e1 e2
  go_wp2_with fail
  refine (d1 _).mono ?_
  rintro e w3 ⟨rfl, hb⟩
  replace hY0 := hY0.trans (hb.mono hY0.size)
  clear hb
  go_wp2_with fail
  refine (d2 _).mono ?_
  rintro e w4 ⟨rfl, hb⟩
  replace hY0 := hY0.trans (hb.mono hY0.size)
  clear hb
  go_wp2_with fail
  refine (d3 _).mono ?_
  rintro e w5 ⟨rfl, hb⟩
  replace hY0 := hY0.trans (hb.mono hY0.size)
  clear hb
  go_wp2
  go_ret
  exact ⟨rfl, hY0⟩

set_option maxRecDepth 100000 in
set_option maxHeartbeats 4000000 in
theorem signs_e8 (s : ByteArray) (c : Int) (k n : Nat) (hs : s.size ≤ 200) (hk : k ≤ s.size) (c1 : ¬ 97 ≤ c) (c3 : 48 ≤ c) (c4 : ¬ c ≤ 57) (c5 : ¬ 128 ≤ c)(d1 : ∀ W : World, Calls Try.prog 14 #[.string (s.extract 0 k ++ ⟨#[UInt8.ofNat c.toNat]⟩ ++ s.extract k s.size)] W fun e w' => e = .returned (.bool false) ∧ Below W.heap.size W w')(d2 : ∀ W : World, Calls Try.prog 15 #[.string s] W fun e w' => e = .returned (.int .i64 (n : Nat)) ∧ Below W.heap.size W w')(hn : 0 < n) (h8 : ¬ n < 8)(d3 : ∀ W : World, Calls Try.prog 14 #[.string (s ++ ⟨#[55]⟩)] W fun e w' => e = .returned (.bool false) ∧ Below W.heap.size W w') (w : World) :
    Calls Try.prog 7 #[.string s, .int .u8 c, .int .i64 (k : Int)] w fun e w' => e = .returned (.bool true) ∧ Below w.heap.size w w' := by
  have hs' : ¬ (200 : Int) < (s.size : Int) := by omega
  have hk0 : ¬ (k : Int) < 0 := by omega
  have hk2 : ¬ (s.size : Int) < (k : Int) := by omega
  have hk3 : (0 : Int) ≤ (k : Int) := by omega
  have hk4 : (k : Int) ≤ (s.size : Int) := by omega
  have hcv := fun W : World => conv_one W (.cells #[.int .u8 c] 5) c (by simp)
  have e1 : ∀ W, (Op.stringOp .add (s.extract 0 k) ⟨#[UInt8.ofNat c.toNat]⟩).run Try.prog W = .ok (.string (s.extract 0 k ++ ⟨#[UInt8.ofNat c.toNat]⟩)) W := fun W => run_string_add_sum W _ _ (by rw [ByteArray.size_extract]; show _ + 1 ≤ _; omega)
  have e2 : ∀ W, (Op.stringOp .add (s.extract 0 k ++ ⟨#[UInt8.ofNat c.toNat]⟩) (s.extract k s.size)).run Try.prog W = .ok (.string (s.extract 0 k ++ ⟨#[UInt8.ofNat c.toNat]⟩ ++ s.extract k s.size)) W := fun W => run_string_add_sum W _ _ (by rw [ByteArray.size_append, ByteArray.size_extract, ByteArray.size_extract]; show _ + 1 + _ ≤ _; omega)
  generalize s.extract 0 k ++ ⟨#[UInt8.ofNat c.toNat]⟩ ++ s.extract k s.size = x at *
  generalize s.extract 0 k ++ ⟨#[UInt8.ofNat c.toNat]⟩ = x1 at *
  have e7 : ∀ W, (Op.stringOp .add s ⟨#[55]⟩).run Try.prog W = .ok (.string (s ++ ⟨#[55]⟩)) W := fun W => run_string_add_sum W s _ (by show _ + 1 ≤ _; omega)
  generalize s ++ ⟨#[55]⟩ = s7 at *
  have hn0 : ((n : Int) == 0) = false := by simp; omega
  have h8' : ¬ (n : Int) < 8 := by omega
  have h8d : decide ((n : Int) < 8) = false := decide_eq_false h8'
  go_enter Try.func7, Try.ntmps7
  have hY0 := Below.refl w.heap.size w
  go_wp2_with fail
  refine (awake_any _).mono ?_
  rintro e w1 ⟨rfl, hb⟩
  replace hY0 := hY0.trans (hb.mono hY0.size)
  clear hb
  go_wp2_with fail
  have hcv1 := hcv w1
  clear hcv
  refine wp_region_held_drew (S := fun _ => True) (by kernel_rfl) ?_ (fun hHeldpr => ?_)
  · trivial
  refine wpAnyH_take (i := 0) (oi := { dst := some 48, op := Op.move (Operand.tmp 0), type := 9, pos := "law.go:81", after := _, guard := none }) (v := ?vpr0) rfl (by kernel_rfl) (by kernel_rfl) (by kernel_rfl) (fun _ _ _ h => h) (Or.inl ⟨by rfl, ?hypr0⟩) (by assumption) ?restpr0
  case hypr0 => (intro w hSw; (try dsimp only at hSw); go_simp <;> with_reducible rfl)
  try simp only [Act.put, List.setIfInBounds_toArray, List.set_cons_zero, List.set_cons_succ]
  refine wpAnyH_take (i := 1) (oi := { dst := some 49, op := Op.move (Operand.tmp 2), type := 3, pos := "law.go:81", after := _, guard := none }) (v := ?vpr1) rfl (by kernel_rfl) (by kernel_rfl) (by kernel_rfl) (fun _ _ _ h => h) (Or.inl ⟨by rfl, ?hypr1⟩) (by assumption) ?restpr1
  case hypr1 => (intro w hSw; (try dsimp only at hSw); go_simp <;> with_reducible rfl)
  try simp only [Act.put, List.setIfInBounds_toArray, List.set_cons_zero, List.set_cons_succ]
  refine wpAnyH_take (i := 2) (oi := { dst := some 50, op := Op.slice 9 (Operand.tmp 48) none (some (Operand.tmp 49)) none, type := 9, pos := "law.go:81", after := _, guard := none }) (v := ?vpr2) rfl (by kernel_rfl) (by kernel_rfl) (by kernel_rfl) (fun _ _ _ h => h) (Or.inl ⟨by rfl, ?hypr2⟩) (by assumption) ?restpr2
  case hypr2 => (intro w hSw; (try dsimp only at hSw); go_simp <;> with_reducible rfl)
  try simp only [Act.put, List.setIfInBounds_toArray, List.set_cons_zero, List.set_cons_succ]
  refine wpAnyH_take (i := 3) (oi := { dst := some 51, op := Op.move (Operand.tmp 1), type := 5, pos := "law.go:81", after := _, guard := none }) (v := ?vpr3) rfl (by kernel_rfl) (by kernel_rfl) (by kernel_rfl) (fun _ _ _ h => h) (Or.inl ⟨by rfl, ?hypr3⟩) (by assumption) ?restpr3
  case hypr3 => (intro w hSw; (try dsimp only at hSw); go_simp <;> with_reducible rfl)
  try simp only [Act.put, List.setIfInBounds_toArray, List.set_cons_zero, List.set_cons_succ]
  refine wpAnyH_take (i := 7) (oi := { dst := some 55, op := Op.move (Operand.tmp 0), type := 9, pos := "law.go:81", after := _, guard := none }) (v := ?vpr7) rfl (by kernel_rfl) (by kernel_rfl) (by kernel_rfl) (fun _ _ _ h => h) (Or.inl ⟨by rfl, ?hypr7⟩) (by assumption) ?restpr7
  case hypr7 => (intro w hSw; (try dsimp only at hSw); go_simp <;> with_reducible rfl)
  try simp only [Act.put, List.setIfInBounds_toArray, List.set_cons_zero, List.set_cons_succ]
  refine wpAnyH_take (i := 8) (oi := { dst := some 56, op := Op.move (Operand.tmp 2), type := 3, pos := "law.go:81", after := _, guard := none }) (v := ?vpr8) rfl (by kernel_rfl) (by kernel_rfl) (by kernel_rfl) (fun _ _ _ h => h) (Or.inl ⟨by rfl, ?hypr8⟩) (by assumption) ?restpr8
  case hypr8 => (intro w hSw; (try dsimp only at hSw); go_simp <;> with_reducible rfl)
  try simp only [Act.put, List.setIfInBounds_toArray, List.set_cons_zero, List.set_cons_succ]
  refine wpAnyH_take (i := 9) (oi := { dst := some 57, op := Op.slice 9 (Operand.tmp 55) (some (Operand.tmp 56)) none none, type := 9, pos := "law.go:81", after := _, guard := none }) (v := ?vpr9) rfl (by kernel_rfl) (by kernel_rfl) (by kernel_rfl) (fun _ _ _ h => h) (Or.inl ⟨by rfl, ?hypr9⟩) (by assumption) ?restpr9
  case hypr9 => (intro w hSw; (try dsimp only at hSw); go_simp <;> with_reducible rfl)
  try simp only [Act.put, List.setIfInBounds_toArray, List.set_cons_zero, List.set_cons_succ]
  refine wpAnyH_ready (rs := [4]) (by kernel_rfl) (by simp) ?_
  refine AllReadyH.cons (o := { dst := some 52, op := Op.buildSlice 31 1 #[(0, Operand.tmp 51)], type := 31, pos := "law.go:81", after := _, guard := none }) rfl (fun K hK => ?_) AllReadyH.nil
  go_simp
  skip
  refine hK.out _ _ ?_ (fun hHeldpr4 => ?_)
  · trivial
  clear hK K hHeldpr
  try simp only [Act.put, List.setIfInBounds_toArray, List.set_cons_zero, List.set_cons_succ]
  refine wpAnyH_ready (rs := [5]) (by kernel_rfl) (by simp) ?_
  refine AllReadyH.cons (o := { dst := some 53, op := Op.convert 31 9 (Operand.tmp 52), type := 9, pos := "law.go:81", after := _, guard := none }) rfl (fun K hK => ?_) AllReadyH.nil
  go_simp
  skip
  refine hK.out _ _ ?_ (fun hHeldpr5 => ?_)
  · trivial
  clear hK K hHeldpr4
  try simp only [Act.put, List.setIfInBounds_toArray, List.set_cons_zero, List.set_cons_succ]
  refine wpAnyH_take (i := 6) (oi := { dst := some 54, op := Op.binOp BinOp.add 9 (Operand.tmp 50) (Operand.tmp 53) 9, type := 9, pos := "law.go:81", after := _, guard := none }) (v := ?vpr6) rfl (by kernel_rfl) (by kernel_rfl) (by kernel_rfl) (fun _ _ _ h => h) (Or.inl ⟨by rfl, ?hypr6⟩) (by assumption) ?restpr6
  case hypr6 => (intro w hSw; (try dsimp only at hSw); go_simp <;> with_reducible rfl)
  try simp only [Act.put, List.setIfInBounds_toArray, List.set_cons_zero, List.set_cons_succ]
  refine wpAnyH_take (i := 10) (oi := { dst := some 58, op := Op.binOp BinOp.add 9 (Operand.tmp 54) (Operand.tmp 57) 9, type := 9, pos := "law.go:81", after := _, guard := none }) (v := ?vpr10) rfl (by kernel_rfl) (by kernel_rfl) (by kernel_rfl) (fun _ _ _ h => h) (Or.inl ⟨by rfl, ?hypr10⟩) (by assumption) ?restpr10
  case hypr10 => (intro w hSw; (try dsimp only at hSw); go_simp <;> with_reducible rfl)
  try simp only [Act.put, List.setIfInBounds_toArray, List.set_cons_zero, List.set_cons_succ]
  refine wpAnyH_ready (rs := [11]) (by kernel_rfl) (by simp) ?_
  refine AllReadyH.cons (o := { dst := some 9, op := Op.assign (Operand.tmp 58), type := 9, pos := "law.go:81", after := _, guard := none }) rfl (fun K hK => ?_) AllReadyH.nil
  go_simp
  skip
  refine hK.out _ _ ?_ (fun hHeldpr11 => ?_)
  · trivial
  clear hK K hHeldpr5
  try simp only [Act.put, List.setIfInBounds_toArray, List.set_cons_zero, List.set_cons_succ]
  refine wpAnyH_done (by kernel_rfl) ?_ _
  have hY1 := hY0.trans ((Below.refl w1.heap.size w1).alloc (Nat.le_refl _) (.cells #[.int .u8 c] 5) |>.mono hY0.size)
  replace hY0 : Below w.heap.size w ((w1.alloc (.cells #[.int .u8 c] 5)).drew) := below_drewN hY1 1
  clear hY1 hcv1 e1 e2
  go_wp2_with fail
  refine (d1 _).mono ?_
  rintro e w3 ⟨rfl, hb⟩
  replace hY0 := hY0.trans (hb.mono hY0.size)
  clear hb
  go_wp2_with fail
  refine (d2 _).mono ?_
  rintro e w4 ⟨rfl, hb⟩
  replace hY0 := hY0.trans (hb.mono hY0.size)
  clear hb
  go_wp2_with fail
  refine (d3 _).mono ?_
  rintro e w5 ⟨rfl, hb⟩
  replace hY0 := hY0.trans (hb.mono hY0.size)
  clear hb
  go_wp2
  go_ret
  exact ⟨rfl, hY0⟩

set_option maxRecDepth 100000 in
set_option maxHeartbeats 4000000 in
theorem signs_f0 (s : ByteArray) (c : Int) (k n : Nat) (hs : s.size ≤ 200) (hk : k ≤ s.size) (c1 : ¬ 97 ≤ c) (c3 : ¬ 48 ≤ c) (c5 : ¬ 128 ≤ c)(d1 : ∀ W : World, Calls Try.prog 14 #[.string (s.extract 0 k ++ ⟨#[UInt8.ofNat c.toNat]⟩ ++ s.extract k s.size)] W fun e w' => e = .returned (.bool false) ∧ Below W.heap.size W w')(d2 : ∀ W : World, Calls Try.prog 15 #[.string s] W fun e w' => e = .returned (.int .i64 (n : Nat)) ∧ Below W.heap.size W w')(hn : n = 0) (w : World) :
    Calls Try.prog 7 #[.string s, .int .u8 c, .int .i64 (k : Int)] w fun e w' => e = .returned (.bool true) ∧ Below w.heap.size w w' := by
  have hs' : ¬ (200 : Int) < (s.size : Int) := by omega
  have hk0 : ¬ (k : Int) < 0 := by omega
  have hk2 : ¬ (s.size : Int) < (k : Int) := by omega
  have hk3 : (0 : Int) ≤ (k : Int) := by omega
  have hk4 : (k : Int) ≤ (s.size : Int) := by omega
  have hcv := fun W : World => conv_one W (.cells #[.int .u8 c] 5) c (by simp)
  have e1 : ∀ W, (Op.stringOp .add (s.extract 0 k) ⟨#[UInt8.ofNat c.toNat]⟩).run Try.prog W = .ok (.string (s.extract 0 k ++ ⟨#[UInt8.ofNat c.toNat]⟩)) W := fun W => run_string_add_sum W _ _ (by rw [ByteArray.size_extract]; show _ + 1 ≤ _; omega)
  have e2 : ∀ W, (Op.stringOp .add (s.extract 0 k ++ ⟨#[UInt8.ofNat c.toNat]⟩) (s.extract k s.size)).run Try.prog W = .ok (.string (s.extract 0 k ++ ⟨#[UInt8.ofNat c.toNat]⟩ ++ s.extract k s.size)) W := fun W => run_string_add_sum W _ _ (by rw [ByteArray.size_append, ByteArray.size_extract, ByteArray.size_extract]; show _ + 1 + _ ≤ _; omega)
  generalize s.extract 0 k ++ ⟨#[UInt8.ofNat c.toNat]⟩ ++ s.extract k s.size = x at *
  generalize s.extract 0 k ++ ⟨#[UInt8.ofNat c.toNat]⟩ = x1 at *
  have e7 : ∀ W, (Op.stringOp .add s ⟨#[55]⟩).run Try.prog W = .ok (.string (s ++ ⟨#[55]⟩)) W := fun W => run_string_add_sum W s _ (by show _ + 1 ≤ _; omega)
  generalize s ++ ⟨#[55]⟩ = s7 at *
  subst hn
  go_enter Try.func7, Try.ntmps7
  have hY0 := Below.refl w.heap.size w
  go_wp2_with fail
  refine (awake_any _).mono ?_
  rintro e w1 ⟨rfl, hb⟩
  replace hY0 := hY0.trans (hb.mono hY0.size)
  clear hb
  go_wp2_with fail
  have hcv1 := hcv w1
  clear hcv
  refine wp_region_held_drew (S := fun _ => True) (by kernel_rfl) ?_ (fun hHeldqr => ?_)
  · trivial
  refine wpAnyH_take (i := 0) (oi := { dst := some 48, op := Op.move (Operand.tmp 0), type := 9, pos := "law.go:81", after := _, guard := none }) (v := ?vqr0) rfl (by kernel_rfl) (by kernel_rfl) (by kernel_rfl) (fun _ _ _ h => h) (Or.inl ⟨by rfl, ?hyqr0⟩) (by assumption) ?restqr0
  case hyqr0 => (intro w hSw; (try dsimp only at hSw); go_simp <;> with_reducible rfl)
  try simp only [Act.put, List.setIfInBounds_toArray, List.set_cons_zero, List.set_cons_succ]
  refine wpAnyH_take (i := 1) (oi := { dst := some 49, op := Op.move (Operand.tmp 2), type := 3, pos := "law.go:81", after := _, guard := none }) (v := ?vqr1) rfl (by kernel_rfl) (by kernel_rfl) (by kernel_rfl) (fun _ _ _ h => h) (Or.inl ⟨by rfl, ?hyqr1⟩) (by assumption) ?restqr1
  case hyqr1 => (intro w hSw; (try dsimp only at hSw); go_simp <;> with_reducible rfl)
  try simp only [Act.put, List.setIfInBounds_toArray, List.set_cons_zero, List.set_cons_succ]
  refine wpAnyH_take (i := 2) (oi := { dst := some 50, op := Op.slice 9 (Operand.tmp 48) none (some (Operand.tmp 49)) none, type := 9, pos := "law.go:81", after := _, guard := none }) (v := ?vqr2) rfl (by kernel_rfl) (by kernel_rfl) (by kernel_rfl) (fun _ _ _ h => h) (Or.inl ⟨by rfl, ?hyqr2⟩) (by assumption) ?restqr2
  case hyqr2 => (intro w hSw; (try dsimp only at hSw); go_simp <;> with_reducible rfl)
  try simp only [Act.put, List.setIfInBounds_toArray, List.set_cons_zero, List.set_cons_succ]
  refine wpAnyH_take (i := 3) (oi := { dst := some 51, op := Op.move (Operand.tmp 1), type := 5, pos := "law.go:81", after := _, guard := none }) (v := ?vqr3) rfl (by kernel_rfl) (by kernel_rfl) (by kernel_rfl) (fun _ _ _ h => h) (Or.inl ⟨by rfl, ?hyqr3⟩) (by assumption) ?restqr3
  case hyqr3 => (intro w hSw; (try dsimp only at hSw); go_simp <;> with_reducible rfl)
  try simp only [Act.put, List.setIfInBounds_toArray, List.set_cons_zero, List.set_cons_succ]
  refine wpAnyH_take (i := 7) (oi := { dst := some 55, op := Op.move (Operand.tmp 0), type := 9, pos := "law.go:81", after := _, guard := none }) (v := ?vqr7) rfl (by kernel_rfl) (by kernel_rfl) (by kernel_rfl) (fun _ _ _ h => h) (Or.inl ⟨by rfl, ?hyqr7⟩) (by assumption) ?restqr7
  case hyqr7 => (intro w hSw; (try dsimp only at hSw); go_simp <;> with_reducible rfl)
  try simp only [Act.put, List.setIfInBounds_toArray, List.set_cons_zero, List.set_cons_succ]
  refine wpAnyH_take (i := 8) (oi := { dst := some 56, op := Op.move (Operand.tmp 2), type := 3, pos := "law.go:81", after := _, guard := none }) (v := ?vqr8) rfl (by kernel_rfl) (by kernel_rfl) (by kernel_rfl) (fun _ _ _ h => h) (Or.inl ⟨by rfl, ?hyqr8⟩) (by assumption) ?restqr8
  case hyqr8 => (intro w hSw; (try dsimp only at hSw); go_simp <;> with_reducible rfl)
  try simp only [Act.put, List.setIfInBounds_toArray, List.set_cons_zero, List.set_cons_succ]
  refine wpAnyH_take (i := 9) (oi := { dst := some 57, op := Op.slice 9 (Operand.tmp 55) (some (Operand.tmp 56)) none none, type := 9, pos := "law.go:81", after := _, guard := none }) (v := ?vqr9) rfl (by kernel_rfl) (by kernel_rfl) (by kernel_rfl) (fun _ _ _ h => h) (Or.inl ⟨by rfl, ?hyqr9⟩) (by assumption) ?restqr9
  case hyqr9 => (intro w hSw; (try dsimp only at hSw); go_simp <;> with_reducible rfl)
  try simp only [Act.put, List.setIfInBounds_toArray, List.set_cons_zero, List.set_cons_succ]
  refine wpAnyH_ready (rs := [4]) (by kernel_rfl) (by simp) ?_
  refine AllReadyH.cons (o := { dst := some 52, op := Op.buildSlice 31 1 #[(0, Operand.tmp 51)], type := 31, pos := "law.go:81", after := _, guard := none }) rfl (fun K hK => ?_) AllReadyH.nil
  go_simp
  skip
  refine hK.out _ _ ?_ (fun hHeldqr4 => ?_)
  · trivial
  clear hK K hHeldqr
  try simp only [Act.put, List.setIfInBounds_toArray, List.set_cons_zero, List.set_cons_succ]
  refine wpAnyH_ready (rs := [5]) (by kernel_rfl) (by simp) ?_
  refine AllReadyH.cons (o := { dst := some 53, op := Op.convert 31 9 (Operand.tmp 52), type := 9, pos := "law.go:81", after := _, guard := none }) rfl (fun K hK => ?_) AllReadyH.nil
  go_simp
  skip
  refine hK.out _ _ ?_ (fun hHeldqr5 => ?_)
  · trivial
  clear hK K hHeldqr4
  try simp only [Act.put, List.setIfInBounds_toArray, List.set_cons_zero, List.set_cons_succ]
  refine wpAnyH_take (i := 6) (oi := { dst := some 54, op := Op.binOp BinOp.add 9 (Operand.tmp 50) (Operand.tmp 53) 9, type := 9, pos := "law.go:81", after := _, guard := none }) (v := ?vqr6) rfl (by kernel_rfl) (by kernel_rfl) (by kernel_rfl) (fun _ _ _ h => h) (Or.inl ⟨by rfl, ?hyqr6⟩) (by assumption) ?restqr6
  case hyqr6 => (intro w hSw; (try dsimp only at hSw); go_simp <;> with_reducible rfl)
  try simp only [Act.put, List.setIfInBounds_toArray, List.set_cons_zero, List.set_cons_succ]
  refine wpAnyH_take (i := 10) (oi := { dst := some 58, op := Op.binOp BinOp.add 9 (Operand.tmp 54) (Operand.tmp 57) 9, type := 9, pos := "law.go:81", after := _, guard := none }) (v := ?vqr10) rfl (by kernel_rfl) (by kernel_rfl) (by kernel_rfl) (fun _ _ _ h => h) (Or.inl ⟨by rfl, ?hyqr10⟩) (by assumption) ?restqr10
  case hyqr10 => (intro w hSw; (try dsimp only at hSw); go_simp <;> with_reducible rfl)
  try simp only [Act.put, List.setIfInBounds_toArray, List.set_cons_zero, List.set_cons_succ]
  refine wpAnyH_ready (rs := [11]) (by kernel_rfl) (by simp) ?_
  refine AllReadyH.cons (o := { dst := some 9, op := Op.assign (Operand.tmp 58), type := 9, pos := "law.go:81", after := _, guard := none }) rfl (fun K hK => ?_) AllReadyH.nil
  go_simp
  skip
  refine hK.out _ _ ?_ (fun hHeldqr11 => ?_)
  · trivial
  clear hK K hHeldqr5
  try simp only [Act.put, List.setIfInBounds_toArray, List.set_cons_zero, List.set_cons_succ]
  refine wpAnyH_done (by kernel_rfl) ?_ _
  have hY1 := hY0.trans ((Below.refl w1.heap.size w1).alloc (Nat.le_refl _) (.cells #[.int .u8 c] 5) |>.mono hY0.size)
  replace hY0 : Below w.heap.size w ((w1.alloc (.cells #[.int .u8 c] 5)).drew) := below_drewN hY1 1
  clear hY1 hcv1 e1 e2
  go_wp2_with fail
  refine (d1 _).mono ?_
  rintro e w3 ⟨rfl, hb⟩
  replace hY0 := hY0.trans (hb.mono hY0.size)
  clear hb
  go_wp2_with fail
  refine (d2 _).mono ?_
  rintro e w4 ⟨rfl, hb⟩
  replace hY0 := hY0.trans (hb.mono hY0.size)
  clear hb
  go_wp2
  go_ret
  exact ⟨rfl, hY0⟩

set_option maxRecDepth 100000 in
set_option maxHeartbeats 4000000 in
theorem signs_f7 (s : ByteArray) (c : Int) (k n : Nat) (hs : s.size ≤ 200) (hk : k ≤ s.size) (c1 : ¬ 97 ≤ c) (c3 : ¬ 48 ≤ c) (c5 : ¬ 128 ≤ c)(d1 : ∀ W : World, Calls Try.prog 14 #[.string (s.extract 0 k ++ ⟨#[UInt8.ofNat c.toNat]⟩ ++ s.extract k s.size)] W fun e w' => e = .returned (.bool false) ∧ Below W.heap.size W w')(d2 : ∀ W : World, Calls Try.prog 15 #[.string s] W fun e w' => e = .returned (.int .i64 (n : Nat)) ∧ Below W.heap.size W w')(hn : 0 < n) (h8 : n < 8)(d3 : ∀ W : World, Calls Try.prog 14 #[.string (s ++ ⟨#[55]⟩)] W fun e w' => e = .returned (.bool true) ∧ Below W.heap.size W w') (w : World) :
    Calls Try.prog 7 #[.string s, .int .u8 c, .int .i64 (k : Int)] w fun e w' => e = .returned (.bool true) ∧ Below w.heap.size w w' := by
  have hs' : ¬ (200 : Int) < (s.size : Int) := by omega
  have hk0 : ¬ (k : Int) < 0 := by omega
  have hk2 : ¬ (s.size : Int) < (k : Int) := by omega
  have hk3 : (0 : Int) ≤ (k : Int) := by omega
  have hk4 : (k : Int) ≤ (s.size : Int) := by omega
  have hcv := fun W : World => conv_one W (.cells #[.int .u8 c] 5) c (by simp)
  have e1 : ∀ W, (Op.stringOp .add (s.extract 0 k) ⟨#[UInt8.ofNat c.toNat]⟩).run Try.prog W = .ok (.string (s.extract 0 k ++ ⟨#[UInt8.ofNat c.toNat]⟩)) W := fun W => run_string_add_sum W _ _ (by rw [ByteArray.size_extract]; show _ + 1 ≤ _; omega)
  have e2 : ∀ W, (Op.stringOp .add (s.extract 0 k ++ ⟨#[UInt8.ofNat c.toNat]⟩) (s.extract k s.size)).run Try.prog W = .ok (.string (s.extract 0 k ++ ⟨#[UInt8.ofNat c.toNat]⟩ ++ s.extract k s.size)) W := fun W => run_string_add_sum W _ _ (by rw [ByteArray.size_append, ByteArray.size_extract, ByteArray.size_extract]; show _ + 1 + _ ≤ _; omega)
  generalize s.extract 0 k ++ ⟨#[UInt8.ofNat c.toNat]⟩ ++ s.extract k s.size = x at *
  generalize s.extract 0 k ++ ⟨#[UInt8.ofNat c.toNat]⟩ = x1 at *
  have e7 : ∀ W, (Op.stringOp .add s ⟨#[55]⟩).run Try.prog W = .ok (.string (s ++ ⟨#[55]⟩)) W := fun W => run_string_add_sum W s _ (by show _ + 1 ≤ _; omega)
  generalize s ++ ⟨#[55]⟩ = s7 at *
  have hn0 : ((n : Int) == 0) = false := by simp; omega
  have h8' : (n : Int) < 8 := by omega
  go_enter Try.func7, Try.ntmps7
  have hY0 := Below.refl w.heap.size w
  go_wp2_with fail
  refine (awake_any _).mono ?_
  rintro e w1 ⟨rfl, hb⟩
  replace hY0 := hY0.trans (hb.mono hY0.size)
  clear hb
  go_wp2_with fail
  have hcv1 := hcv w1
  clear hcv
  refine wp_region_held_drew (S := fun _ => True) (by kernel_rfl) ?_ (fun hHeldrr => ?_)
  · trivial
  refine wpAnyH_take (i := 0) (oi := { dst := some 48, op := Op.move (Operand.tmp 0), type := 9, pos := "law.go:81", after := _, guard := none }) (v := ?vrr0) rfl (by kernel_rfl) (by kernel_rfl) (by kernel_rfl) (fun _ _ _ h => h) (Or.inl ⟨by rfl, ?hyrr0⟩) (by assumption) ?restrr0
  case hyrr0 => (intro w hSw; (try dsimp only at hSw); go_simp <;> with_reducible rfl)
  try simp only [Act.put, List.setIfInBounds_toArray, List.set_cons_zero, List.set_cons_succ]
  refine wpAnyH_take (i := 1) (oi := { dst := some 49, op := Op.move (Operand.tmp 2), type := 3, pos := "law.go:81", after := _, guard := none }) (v := ?vrr1) rfl (by kernel_rfl) (by kernel_rfl) (by kernel_rfl) (fun _ _ _ h => h) (Or.inl ⟨by rfl, ?hyrr1⟩) (by assumption) ?restrr1
  case hyrr1 => (intro w hSw; (try dsimp only at hSw); go_simp <;> with_reducible rfl)
  try simp only [Act.put, List.setIfInBounds_toArray, List.set_cons_zero, List.set_cons_succ]
  refine wpAnyH_take (i := 2) (oi := { dst := some 50, op := Op.slice 9 (Operand.tmp 48) none (some (Operand.tmp 49)) none, type := 9, pos := "law.go:81", after := _, guard := none }) (v := ?vrr2) rfl (by kernel_rfl) (by kernel_rfl) (by kernel_rfl) (fun _ _ _ h => h) (Or.inl ⟨by rfl, ?hyrr2⟩) (by assumption) ?restrr2
  case hyrr2 => (intro w hSw; (try dsimp only at hSw); go_simp <;> with_reducible rfl)
  try simp only [Act.put, List.setIfInBounds_toArray, List.set_cons_zero, List.set_cons_succ]
  refine wpAnyH_take (i := 3) (oi := { dst := some 51, op := Op.move (Operand.tmp 1), type := 5, pos := "law.go:81", after := _, guard := none }) (v := ?vrr3) rfl (by kernel_rfl) (by kernel_rfl) (by kernel_rfl) (fun _ _ _ h => h) (Or.inl ⟨by rfl, ?hyrr3⟩) (by assumption) ?restrr3
  case hyrr3 => (intro w hSw; (try dsimp only at hSw); go_simp <;> with_reducible rfl)
  try simp only [Act.put, List.setIfInBounds_toArray, List.set_cons_zero, List.set_cons_succ]
  refine wpAnyH_take (i := 7) (oi := { dst := some 55, op := Op.move (Operand.tmp 0), type := 9, pos := "law.go:81", after := _, guard := none }) (v := ?vrr7) rfl (by kernel_rfl) (by kernel_rfl) (by kernel_rfl) (fun _ _ _ h => h) (Or.inl ⟨by rfl, ?hyrr7⟩) (by assumption) ?restrr7
  case hyrr7 => (intro w hSw; (try dsimp only at hSw); go_simp <;> with_reducible rfl)
  try simp only [Act.put, List.setIfInBounds_toArray, List.set_cons_zero, List.set_cons_succ]
  refine wpAnyH_take (i := 8) (oi := { dst := some 56, op := Op.move (Operand.tmp 2), type := 3, pos := "law.go:81", after := _, guard := none }) (v := ?vrr8) rfl (by kernel_rfl) (by kernel_rfl) (by kernel_rfl) (fun _ _ _ h => h) (Or.inl ⟨by rfl, ?hyrr8⟩) (by assumption) ?restrr8
  case hyrr8 => (intro w hSw; (try dsimp only at hSw); go_simp <;> with_reducible rfl)
  try simp only [Act.put, List.setIfInBounds_toArray, List.set_cons_zero, List.set_cons_succ]
  refine wpAnyH_take (i := 9) (oi := { dst := some 57, op := Op.slice 9 (Operand.tmp 55) (some (Operand.tmp 56)) none none, type := 9, pos := "law.go:81", after := _, guard := none }) (v := ?vrr9) rfl (by kernel_rfl) (by kernel_rfl) (by kernel_rfl) (fun _ _ _ h => h) (Or.inl ⟨by rfl, ?hyrr9⟩) (by assumption) ?restrr9
  case hyrr9 => (intro w hSw; (try dsimp only at hSw); go_simp <;> with_reducible rfl)
  try simp only [Act.put, List.setIfInBounds_toArray, List.set_cons_zero, List.set_cons_succ]
  refine wpAnyH_ready (rs := [4]) (by kernel_rfl) (by simp) ?_
  refine AllReadyH.cons (o := { dst := some 52, op := Op.buildSlice 31 1 #[(0, Operand.tmp 51)], type := 31, pos := "law.go:81", after := _, guard := none }) rfl (fun K hK => ?_) AllReadyH.nil
  go_simp
  skip
  refine hK.out _ _ ?_ (fun hHeldrr4 => ?_)
  · trivial
  clear hK K hHeldrr
  try simp only [Act.put, List.setIfInBounds_toArray, List.set_cons_zero, List.set_cons_succ]
  refine wpAnyH_ready (rs := [5]) (by kernel_rfl) (by simp) ?_
  refine AllReadyH.cons (o := { dst := some 53, op := Op.convert 31 9 (Operand.tmp 52), type := 9, pos := "law.go:81", after := _, guard := none }) rfl (fun K hK => ?_) AllReadyH.nil
  go_simp
  skip
  refine hK.out _ _ ?_ (fun hHeldrr5 => ?_)
  · trivial
  clear hK K hHeldrr4
  try simp only [Act.put, List.setIfInBounds_toArray, List.set_cons_zero, List.set_cons_succ]
  refine wpAnyH_take (i := 6) (oi := { dst := some 54, op := Op.binOp BinOp.add 9 (Operand.tmp 50) (Operand.tmp 53) 9, type := 9, pos := "law.go:81", after := _, guard := none }) (v := ?vrr6) rfl (by kernel_rfl) (by kernel_rfl) (by kernel_rfl) (fun _ _ _ h => h) (Or.inl ⟨by rfl, ?hyrr6⟩) (by assumption) ?restrr6
  case hyrr6 => (intro w hSw; (try dsimp only at hSw); go_simp <;> with_reducible rfl)
  try simp only [Act.put, List.setIfInBounds_toArray, List.set_cons_zero, List.set_cons_succ]
  refine wpAnyH_take (i := 10) (oi := { dst := some 58, op := Op.binOp BinOp.add 9 (Operand.tmp 54) (Operand.tmp 57) 9, type := 9, pos := "law.go:81", after := _, guard := none }) (v := ?vrr10) rfl (by kernel_rfl) (by kernel_rfl) (by kernel_rfl) (fun _ _ _ h => h) (Or.inl ⟨by rfl, ?hyrr10⟩) (by assumption) ?restrr10
  case hyrr10 => (intro w hSw; (try dsimp only at hSw); go_simp <;> with_reducible rfl)
  try simp only [Act.put, List.setIfInBounds_toArray, List.set_cons_zero, List.set_cons_succ]
  refine wpAnyH_ready (rs := [11]) (by kernel_rfl) (by simp) ?_
  refine AllReadyH.cons (o := { dst := some 9, op := Op.assign (Operand.tmp 58), type := 9, pos := "law.go:81", after := _, guard := none }) rfl (fun K hK => ?_) AllReadyH.nil
  go_simp
  skip
  refine hK.out _ _ ?_ (fun hHeldrr11 => ?_)
  · trivial
  clear hK K hHeldrr5
  try simp only [Act.put, List.setIfInBounds_toArray, List.set_cons_zero, List.set_cons_succ]
  refine wpAnyH_done (by kernel_rfl) ?_ _
  have hY1 := hY0.trans ((Below.refl w1.heap.size w1).alloc (Nat.le_refl _) (.cells #[.int .u8 c] 5) |>.mono hY0.size)
  replace hY0 : Below w.heap.size w ((w1.alloc (.cells #[.int .u8 c] 5)).drew) := below_drewN hY1 1
  clear hY1 hcv1 e1 e2
  go_wp2_with fail
  refine (d1 _).mono ?_
  rintro e w3 ⟨rfl, hb⟩
  replace hY0 := hY0.trans (hb.mono hY0.size)
  clear hb
  go_wp2_with fail
  refine (d2 _).mono ?_
  rintro e w4 ⟨rfl, hb⟩
  replace hY0 := hY0.trans (hb.mono hY0.size)
  clear hb
  go_wp2_with fail
  refine (d3 _).mono ?_
  rintro e w5 ⟨rfl, hb⟩
  replace hY0 := hY0.trans (hb.mono hY0.size)
  clear hb
  go_wp2
  go_ret
  exact ⟨rfl, hY0⟩

set_option maxRecDepth 100000 in
set_option maxHeartbeats 4000000 in
theorem signs_f8 (s : ByteArray) (c : Int) (k n : Nat) (hs : s.size ≤ 200) (hk : k ≤ s.size) (c1 : ¬ 97 ≤ c) (c3 : ¬ 48 ≤ c) (c5 : ¬ 128 ≤ c)(d1 : ∀ W : World, Calls Try.prog 14 #[.string (s.extract 0 k ++ ⟨#[UInt8.ofNat c.toNat]⟩ ++ s.extract k s.size)] W fun e w' => e = .returned (.bool false) ∧ Below W.heap.size W w')(d2 : ∀ W : World, Calls Try.prog 15 #[.string s] W fun e w' => e = .returned (.int .i64 (n : Nat)) ∧ Below W.heap.size W w')(hn : 0 < n) (h8 : ¬ n < 8)(d3 : ∀ W : World, Calls Try.prog 14 #[.string (s ++ ⟨#[55]⟩)] W fun e w' => e = .returned (.bool false) ∧ Below W.heap.size W w') (w : World) :
    Calls Try.prog 7 #[.string s, .int .u8 c, .int .i64 (k : Int)] w fun e w' => e = .returned (.bool true) ∧ Below w.heap.size w w' := by
  have hs' : ¬ (200 : Int) < (s.size : Int) := by omega
  have hk0 : ¬ (k : Int) < 0 := by omega
  have hk2 : ¬ (s.size : Int) < (k : Int) := by omega
  have hk3 : (0 : Int) ≤ (k : Int) := by omega
  have hk4 : (k : Int) ≤ (s.size : Int) := by omega
  have hcv := fun W : World => conv_one W (.cells #[.int .u8 c] 5) c (by simp)
  have e1 : ∀ W, (Op.stringOp .add (s.extract 0 k) ⟨#[UInt8.ofNat c.toNat]⟩).run Try.prog W = .ok (.string (s.extract 0 k ++ ⟨#[UInt8.ofNat c.toNat]⟩)) W := fun W => run_string_add_sum W _ _ (by rw [ByteArray.size_extract]; show _ + 1 ≤ _; omega)
  have e2 : ∀ W, (Op.stringOp .add (s.extract 0 k ++ ⟨#[UInt8.ofNat c.toNat]⟩) (s.extract k s.size)).run Try.prog W = .ok (.string (s.extract 0 k ++ ⟨#[UInt8.ofNat c.toNat]⟩ ++ s.extract k s.size)) W := fun W => run_string_add_sum W _ _ (by rw [ByteArray.size_append, ByteArray.size_extract, ByteArray.size_extract]; show _ + 1 + _ ≤ _; omega)
  generalize s.extract 0 k ++ ⟨#[UInt8.ofNat c.toNat]⟩ ++ s.extract k s.size = x at *
  generalize s.extract 0 k ++ ⟨#[UInt8.ofNat c.toNat]⟩ = x1 at *
  have e7 : ∀ W, (Op.stringOp .add s ⟨#[55]⟩).run Try.prog W = .ok (.string (s ++ ⟨#[55]⟩)) W := fun W => run_string_add_sum W s _ (by show _ + 1 ≤ _; omega)
  generalize s ++ ⟨#[55]⟩ = s7 at *
  have hn0 : ((n : Int) == 0) = false := by simp; omega
  have h8' : ¬ (n : Int) < 8 := by omega
  have h8d : decide ((n : Int) < 8) = false := decide_eq_false h8'
  go_enter Try.func7, Try.ntmps7
  have hY0 := Below.refl w.heap.size w
  go_wp2_with fail
  refine (awake_any _).mono ?_
  rintro e w1 ⟨rfl, hb⟩
  replace hY0 := hY0.trans (hb.mono hY0.size)
  clear hb
  go_wp2_with fail
  have hcv1 := hcv w1
  clear hcv
  refine wp_region_held_drew (S := fun _ => True) (by kernel_rfl) ?_ (fun hHeldsr => ?_)
  · trivial
  refine wpAnyH_take (i := 0) (oi := { dst := some 48, op := Op.move (Operand.tmp 0), type := 9, pos := "law.go:81", after := _, guard := none }) (v := ?vsr0) rfl (by kernel_rfl) (by kernel_rfl) (by kernel_rfl) (fun _ _ _ h => h) (Or.inl ⟨by rfl, ?hysr0⟩) (by assumption) ?restsr0
  case hysr0 => (intro w hSw; (try dsimp only at hSw); go_simp <;> with_reducible rfl)
  try simp only [Act.put, List.setIfInBounds_toArray, List.set_cons_zero, List.set_cons_succ]
  refine wpAnyH_take (i := 1) (oi := { dst := some 49, op := Op.move (Operand.tmp 2), type := 3, pos := "law.go:81", after := _, guard := none }) (v := ?vsr1) rfl (by kernel_rfl) (by kernel_rfl) (by kernel_rfl) (fun _ _ _ h => h) (Or.inl ⟨by rfl, ?hysr1⟩) (by assumption) ?restsr1
  case hysr1 => (intro w hSw; (try dsimp only at hSw); go_simp <;> with_reducible rfl)
  try simp only [Act.put, List.setIfInBounds_toArray, List.set_cons_zero, List.set_cons_succ]
  refine wpAnyH_take (i := 2) (oi := { dst := some 50, op := Op.slice 9 (Operand.tmp 48) none (some (Operand.tmp 49)) none, type := 9, pos := "law.go:81", after := _, guard := none }) (v := ?vsr2) rfl (by kernel_rfl) (by kernel_rfl) (by kernel_rfl) (fun _ _ _ h => h) (Or.inl ⟨by rfl, ?hysr2⟩) (by assumption) ?restsr2
  case hysr2 => (intro w hSw; (try dsimp only at hSw); go_simp <;> with_reducible rfl)
  try simp only [Act.put, List.setIfInBounds_toArray, List.set_cons_zero, List.set_cons_succ]
  refine wpAnyH_take (i := 3) (oi := { dst := some 51, op := Op.move (Operand.tmp 1), type := 5, pos := "law.go:81", after := _, guard := none }) (v := ?vsr3) rfl (by kernel_rfl) (by kernel_rfl) (by kernel_rfl) (fun _ _ _ h => h) (Or.inl ⟨by rfl, ?hysr3⟩) (by assumption) ?restsr3
  case hysr3 => (intro w hSw; (try dsimp only at hSw); go_simp <;> with_reducible rfl)
  try simp only [Act.put, List.setIfInBounds_toArray, List.set_cons_zero, List.set_cons_succ]
  refine wpAnyH_take (i := 7) (oi := { dst := some 55, op := Op.move (Operand.tmp 0), type := 9, pos := "law.go:81", after := _, guard := none }) (v := ?vsr7) rfl (by kernel_rfl) (by kernel_rfl) (by kernel_rfl) (fun _ _ _ h => h) (Or.inl ⟨by rfl, ?hysr7⟩) (by assumption) ?restsr7
  case hysr7 => (intro w hSw; (try dsimp only at hSw); go_simp <;> with_reducible rfl)
  try simp only [Act.put, List.setIfInBounds_toArray, List.set_cons_zero, List.set_cons_succ]
  refine wpAnyH_take (i := 8) (oi := { dst := some 56, op := Op.move (Operand.tmp 2), type := 3, pos := "law.go:81", after := _, guard := none }) (v := ?vsr8) rfl (by kernel_rfl) (by kernel_rfl) (by kernel_rfl) (fun _ _ _ h => h) (Or.inl ⟨by rfl, ?hysr8⟩) (by assumption) ?restsr8
  case hysr8 => (intro w hSw; (try dsimp only at hSw); go_simp <;> with_reducible rfl)
  try simp only [Act.put, List.setIfInBounds_toArray, List.set_cons_zero, List.set_cons_succ]
  refine wpAnyH_take (i := 9) (oi := { dst := some 57, op := Op.slice 9 (Operand.tmp 55) (some (Operand.tmp 56)) none none, type := 9, pos := "law.go:81", after := _, guard := none }) (v := ?vsr9) rfl (by kernel_rfl) (by kernel_rfl) (by kernel_rfl) (fun _ _ _ h => h) (Or.inl ⟨by rfl, ?hysr9⟩) (by assumption) ?restsr9
  case hysr9 => (intro w hSw; (try dsimp only at hSw); go_simp <;> with_reducible rfl)
  try simp only [Act.put, List.setIfInBounds_toArray, List.set_cons_zero, List.set_cons_succ]
  refine wpAnyH_ready (rs := [4]) (by kernel_rfl) (by simp) ?_
  refine AllReadyH.cons (o := { dst := some 52, op := Op.buildSlice 31 1 #[(0, Operand.tmp 51)], type := 31, pos := "law.go:81", after := _, guard := none }) rfl (fun K hK => ?_) AllReadyH.nil
  go_simp
  skip
  refine hK.out _ _ ?_ (fun hHeldsr4 => ?_)
  · trivial
  clear hK K hHeldsr
  try simp only [Act.put, List.setIfInBounds_toArray, List.set_cons_zero, List.set_cons_succ]
  refine wpAnyH_ready (rs := [5]) (by kernel_rfl) (by simp) ?_
  refine AllReadyH.cons (o := { dst := some 53, op := Op.convert 31 9 (Operand.tmp 52), type := 9, pos := "law.go:81", after := _, guard := none }) rfl (fun K hK => ?_) AllReadyH.nil
  go_simp
  skip
  refine hK.out _ _ ?_ (fun hHeldsr5 => ?_)
  · trivial
  clear hK K hHeldsr4
  try simp only [Act.put, List.setIfInBounds_toArray, List.set_cons_zero, List.set_cons_succ]
  refine wpAnyH_take (i := 6) (oi := { dst := some 54, op := Op.binOp BinOp.add 9 (Operand.tmp 50) (Operand.tmp 53) 9, type := 9, pos := "law.go:81", after := _, guard := none }) (v := ?vsr6) rfl (by kernel_rfl) (by kernel_rfl) (by kernel_rfl) (fun _ _ _ h => h) (Or.inl ⟨by rfl, ?hysr6⟩) (by assumption) ?restsr6
  case hysr6 => (intro w hSw; (try dsimp only at hSw); go_simp <;> with_reducible rfl)
  try simp only [Act.put, List.setIfInBounds_toArray, List.set_cons_zero, List.set_cons_succ]
  refine wpAnyH_take (i := 10) (oi := { dst := some 58, op := Op.binOp BinOp.add 9 (Operand.tmp 54) (Operand.tmp 57) 9, type := 9, pos := "law.go:81", after := _, guard := none }) (v := ?vsr10) rfl (by kernel_rfl) (by kernel_rfl) (by kernel_rfl) (fun _ _ _ h => h) (Or.inl ⟨by rfl, ?hysr10⟩) (by assumption) ?restsr10
  case hysr10 => (intro w hSw; (try dsimp only at hSw); go_simp <;> with_reducible rfl)
  try simp only [Act.put, List.setIfInBounds_toArray, List.set_cons_zero, List.set_cons_succ]
  refine wpAnyH_ready (rs := [11]) (by kernel_rfl) (by simp) ?_
  refine AllReadyH.cons (o := { dst := some 9, op := Op.assign (Operand.tmp 58), type := 9, pos := "law.go:81", after := _, guard := none }) rfl (fun K hK => ?_) AllReadyH.nil
  go_simp
  skip
  refine hK.out _ _ ?_ (fun hHeldsr11 => ?_)
  · trivial
  clear hK K hHeldsr5
  try simp only [Act.put, List.setIfInBounds_toArray, List.set_cons_zero, List.set_cons_succ]
  refine wpAnyH_done (by kernel_rfl) ?_ _
  have hY1 := hY0.trans ((Below.refl w1.heap.size w1).alloc (Nat.le_refl _) (.cells #[.int .u8 c] 5) |>.mono hY0.size)
  replace hY0 : Below w.heap.size w ((w1.alloc (.cells #[.int .u8 c] 5)).drew) := below_drewN hY1 1
  clear hY1 hcv1 e1 e2
  go_wp2_with fail
  refine (d1 _).mono ?_
  rintro e w3 ⟨rfl, hb⟩
  replace hY0 := hY0.trans (hb.mono hY0.size)
  clear hb
  go_wp2_with fail
  refine (d2 _).mono ?_
  rintro e w4 ⟨rfl, hb⟩
  replace hY0 := hY0.trans (hb.mono hY0.size)
  clear hb
  go_wp2_with fail
  refine (d3 _).mono ?_
  rintro e w5 ⟨rfl, hb⟩
  replace hY0 := hY0.trans (hb.mono hY0.size)
  clear hb
  go_wp2
  go_ret
  exact ⟨rfl, hY0⟩

end Go.Proofs.Ytahpogbcodfdmaa
