/- table.New. -/
import Derived.Test.YtoogobenjhmjjaaTbWrite
import Derived.Test.YtoogobenjhmjjaaPgSame
import Derived.Test.YtoogobenjhmjjaaCopy
namespace Go.Proofs.Ytoogobenjhmjjaa
open Go Go.RowKit
set_option linter.unusedVariables false
attribute [local go_sem ↓] Go.wp_at_zero Go.wp_at_succ

set_option maxHeartbeats 1000000 in
theorem mul64_small (n : Nat) (h0 : 1 ≤ n) (h : n ≤ 8) (w : World) : Calls Try.prog 70 #[.int .u64 1, .int .u64 (n : Int)] w fun e w' => e = .returned (.tuple #[.int .u64 0, .int .u64 (n : Int)]) ∧ w = w' := by
  obtain rfl | rfl | rfl | rfl | rfl | rfl | rfl | rfl : n = 1 ∨ n = 2 ∨ n = 3 ∨ n = 4 ∨ n = 5 ∨ n = 6 ∨ n = 7 ∨ n = 8 := by omega
  all_goals
    clear h0 h
    go_enter Try.func70, Try.ntmps70
    go_wp2
    go_ret2
    exact ⟨rfl, rfl⟩

set_option maxHeartbeats 1000000 in
theorem mul_small (n : Nat) (h0 : 1 ≤ n) (h : n ≤ 8) (w : World) : Calls Try.prog 52 #[.int .u64 1, .int .u64 (n : Int)] w fun e w' => e = .returned (.tuple #[.int .u64 0, .int .u64 (n : Int)]) ∧ w = w' := by
  have hc := fun w => mul64_small n h0 h w
  clear h0 h
  go_enter Try.func52, Try.ntmps52
  go_wp2_with (go_at_call 70; refine (hc _).mono ?_; rintro e w' ⟨rfl, rfl⟩)
  go_ret2
  exact ⟨rfl, rfl⟩
set_option maxRecDepth 100000
theorem repeat_int_info : (Try.prog.info? 3).map (fun i => (i.zero, i.size, i.bytes)) = some (some (.int .i64 0), 1, 8) := by kernel_rfl

set_option maxHeartbeats 2000000 in
theorem repeat_int (v : Value) (vs : List Value) (n : Nat) (w : World) (hv : Sl w 1 v 1 vs) (h1 : ∀ u ∈ vs, u.oneCell' = true) (hn0 : 1 ≤ n) (hn8 : n ≤ 8) :
    Calls Try.prog 27 #[v, .int .i64 (n : Int)] w fun e w' => ∃ v', e = .returned v' ∧ w'.ownsRow w.heap.size 3 1 v' n (reps vs n) ∧ Below w.heap.size w w' := by
  obtain ⟨i0, hi0, hz0, hz1, hz2⟩ := info_parts repeat_int_info
  have hmul := fun w => mul_small n hn0 hn8 w
  have hmk := fun (w : World) (kl kc : IntKind) => run_make (P := Try.prog) w 47 3 i0 _ Try.underlying47 hi0 hz0 kl kc (n : Int) (n : Int) (by omega) (Int.le_refl _) (by rw [hz2]; omega) (by omega)
  obtain ⟨hl, ⟨_, hx⟩ | ⟨a, c, rfl, hc, hm, hr⟩⟩ := hv
  · omega
  have hr1 := hr (by omega)
  clear hr
  obtain ⟨b, o, s⟩ := a
  obtain ⟨hs, hr⟩ := hr1
  simp only at hs hr
  subst hs
  have hvl : vs.length = 1 := by omega
  obtain ⟨mc, hmc⟩ : ∃ x, madeCells (.int .i64 0 : Value).cells (n * 1) = x := ⟨_, rfl⟩
  have hms : mc.size = n * 1 := by rw [← hmc]; exact size_madeCells _ _
  simp only [Int.toNat_natCast, hz1, hmc] at hmk
  clear hmc
  have hcp := run_copy_k (P := Try.prog) (w.alloc (.cells (mc) 3)) 47 47 3 3 w.heap.size 0 n n ⟨b, o, none⟩ 1 c _ 3 vs 1 1 Try.underlying47 (by rw [hi0, Option.map_some, hz1]) (Blk.new w _ _) (by show min 1 n = 1; omega) hl
    (fun j u hu => by rw [add_none, World.cell?_alloc_lt _ _ _ hr.1]; exact hr.2 j u hu) (by rw [hms, hvl]; omega) h1
  have hmin : Nat.min 1 n = 1 := by show min 1 n = 1; omega
  have hk0 := (Blk.new w 3 (mc)).setRow ((mc).toList.take 0 ++ vs ++ (mc).toList.drop (0 + vs.length)).toArray
  have hb0 := below_setRow' ((Below.refl w.heap.size w).alloc (Nat.le_refl _) (.cells (mc) 3)) (Nat.le_refl _) ((mc).toList.take 0 ++ vs ++ (mc).toList.drop (0 + vs.length)).toArray
  have hst : Hid (∃ cur : Array Value, cur.size = n * 1 ∧ cur.toList.take (1 * 1) = reps vs 1 ∧ Blk ((w.alloc (.cells (mc) 3)).setRow w.heap.size ((mc).toList.take 0 ++ vs ++ (mc).toList.drop (0 + vs.length)).toArray) w.heap.size 3 cur) := by
    refine ⟨_, ?_, ?_, hk0⟩
    · simp [hvl, hms]; omega
    · simp [reps, hvl]
  clear hk0
  obtain ⟨w1, hw1⟩ : ∃ x, ((w.alloc (.cells (mc) 3)).setRow w.heap.size ((mc).toList.take 0 ++ vs ++ (mc).toList.drop (0 + vs.length)).toArray) = x := ⟨_, rfl⟩
  rw [hw1] at hcp hb0 hst
  have HB := Lib.hid hb0
  have HL := Lib.hid hvl
  have HI := Lib.hid (show (Try.prog.info? 3).map (·.size) = some 1 from by rw [hi0, Option.map_some, hz1])
  clear hw1 hr hb0 hl hc hm hz0 hz1 hz2 hi0 hvl
  go_enter Try.func27, Try.ntmps27
  go_wp2_with fail
  refine (hmul _).mono ?_
  rintro e w' ⟨rfl, rfl⟩
  go_wp2
  clear hmk hmul hcp
  go_loopg [8] n (fun gg s8 wr => ∃ m : Nat, 1 ≤ m ∧ m ≤ n ∧ n - m ≤ gg ∧ s8 = .int .i64 m ∧ Hid (Below w.heap.size w wr) ∧ Hid (∃ cur : Array Value, cur.size = n * 1 ∧ cur.toList.take (m * 1) = reps vs m ∧ Blk wr w.heap.size 3 cur))
  case atStart => exact ⟨1, by omega, by omega, by omega, rfl, HB.out, hst⟩
  case round =>
    obtain ⟨m, hm1, hmn, hg, rfl, BW, ST⟩ := hrel
    by_cases hlt : m < n
    · have hltz : (m : Int) < (n : Int) := by omega
      have hm0 : (0 : Int) ≤ (m : Int) := by omega
      have hmz : (m : Int) ≤ (n : Int) := by omega
      have hcap : ¬ n = m := by omega
      obtain ⟨cur, hcs, hct, hblk⟩ := ST.out
      obtain ⟨cc, hcc⟩ : ∃ cc, min m (n - m) = cc := ⟨_, rfl⟩
      have hrow := run_copy_k (P := Try.prog) wr.drew 47 47 3 3 w.heap.size (m * 1) (n - m) (n - m) ⟨w.heap.size, 0, none⟩ m n cur 3 (reps vs cc) 1 cc Try.underlying47 HI.out hblk hcc (by rw [reps_len, HL.out])
        (fun j u hu => by
          rw [add_none, Nat.zero_add]
          have h2 := hblk.cell j
          have h3 : cur[j]? = some u := by
            have h4 : reps vs cc = (reps vs m).take (cc * vs.length) := (reps_take vs m cc (by omega)).symm
            rw [h4, ← hct, List.take_take, List.getElem?_take] at hu
            split at hu
            · rw [Array.getElem?_toList] at hu; exact hu
            · cases hu
          exact h2.trans h3) (by rw [reps_len, HL.out, hcs]; have : (m + cc) * 1 ≤ n * 1 := Nat.mul_le_mul_right _ (by omega); rw [Nat.add_mul] at this; exact this) (by
          intro u hu
          unfold reps at hu
          rw [List.mem_flatten] at hu
          obtain ⟨l, hl, hu⟩ := hu
          rw [List.mem_replicate] at hl
          exact h1 u (hl.2 ▸ hu))
      have hnew := (hblk.drew).setRow (cur.toList.take (m * 1) ++ reps vs cc ++ cur.toList.drop (m * 1 + (reps vs cc).length)).toArray
      have hlist : cur.toList.take (m * 1) ++ reps vs cc = reps vs (m + cc) := by rw [hct, reps_add]
      have hbel := below_setRow' (below_drewN BW.out 1) (Nat.le_refl _) (cur.toList.take (m * 1) ++ reps vs cc ++ cur.toList.drop (m * 1 + (reps vs cc).length)).toArray
      rw [hlist] at hnew hrow hbel
      have hsz : (reps vs (m + cc) ++ cur.toList.drop (m * 1 + (reps vs cc).length)).toArray.size = n * 1 := by
        simp only [List.size_toArray, List.length_append, List.length_drop, reps_len, HL.out, Array.length_toList, hcs]
        have : (m + cc) * 1 ≤ n * 1 := Nat.mul_le_mul_right _ (by omega)
        rw [Nat.add_mul] at *
        omega
      have htk : (reps vs (m + cc) ++ cur.toList.drop (m * 1 + (reps vs cc).length)).toArray.toList.take ((m + cc) * 1) = reps vs (m + cc) := by
        rw [List.take_append_of_le_length (by rw [reps_len, HL.out]; exact Nat.le_refl _), List.take_of_length_le (by rw [reps_len, HL.out]; exact Nat.le_refl _)]
      have ST2 : Hid (∃ cur' : Array Value, cur'.size = n * 1 ∧ cur'.toList.take ((m + cc) * 1) = reps vs (m + cc) ∧ Blk (wr.drew.setRow w.heap.size (reps vs (m + cc) ++ cur.toList.drop (m * 1 + (reps vs cc).length)).toArray) w.heap.size 3 cur') := ⟨_, hsz, htk, hnew⟩
      have BW2 : Hid (Below w.heap.size w (wr.drew.setRow w.heap.size (reps vs (m + cc) ++ cur.toList.drop (m * 1 + (reps vs cc).length)).toArray)) := hbel
      have HC := Lib.hid hcc
      have hcb : cc ≤ 8 := by omega
      have hcm : m + cc ≤ n := by omega
      have hc1 : 1 ≤ cc := by omega
      clear hnew hlist hbel hsz htk ST hct hcs hblk hcc
      generalize (reps vs (m + cc) ++ cur.toList.drop (m * 1 + (reps vs cc).length)).toArray = cur2 at *
      try simp only [Nat.mul_one] at hrow
      have HR := Lib.hid hrow
      clear hrow
      have hwrap : IntKind.i64.wrap ((m : Int) + (cc : Int)) = (m : Int) + (cc : Int) := by rw [IntKind.wrap_i64]; omega
      go_wp2_with fail
      refine wp_region_held_drew (S := fun _ => True) (by kernel_rfl) ?_ (fun hHeldbr => ?_)
      · trivial
      refine wpAnyH_take (i := 0) (oi := { dst := some 38, op := Op.move (Operand.tmp 8), type := 3, pos := "slices.go:528", after := _, guard := none }) (v := ?vbr0) rfl (by kernel_rfl) (by kernel_rfl) (by kernel_rfl) (fun _ _ _ h => h) (Or.inl ⟨by rfl, ?hybr0⟩) (by assumption) ?restbr0
      case hybr0 => (intro w hSw; (try dsimp only at hSw); go_simp <;> with_reducible rfl)
      try simp only [Act.put, List.setIfInBounds_toArray, List.set_cons_zero, List.set_cons_succ]
      refine wpAnyH_take (i := 1) (oi := { dst := some 39, op := Op.move (Operand.tmp 7), type := 47, pos := "slices.go:528", after := _, guard := none }) (v := ?vbr1) rfl (by kernel_rfl) (by kernel_rfl) (by kernel_rfl) (fun _ _ _ h => h) (Or.inl ⟨by rfl, ?hybr1⟩) (by assumption) ?restbr1
      case hybr1 => (intro w hSw; (try dsimp only at hSw); go_simp <;> with_reducible rfl)
      try simp only [Act.put, List.setIfInBounds_toArray, List.set_cons_zero, List.set_cons_succ]
      refine wpAnyH_take (i := 2) (oi := { dst := some 40, op := Op.move (Operand.tmp 8), type := 3, pos := "slices.go:528", after := _, guard := none }) (v := ?vbr2) rfl (by kernel_rfl) (by kernel_rfl) (by kernel_rfl) (fun _ _ _ h => h) (Or.inl ⟨by rfl, ?hybr2⟩) (by assumption) ?restbr2
      case hybr2 => (intro w hSw; (try dsimp only at hSw); go_simp <;> with_reducible rfl)
      try simp only [Act.put, List.setIfInBounds_toArray, List.set_cons_zero, List.set_cons_succ]
      refine wpAnyH_take (i := 3) (oi := { dst := some 41, op := Op.slice 47 (Operand.tmp 39) (some (Operand.tmp 40)) none none, type := 47, pos := "slices.go:528", after := _, guard := none }) (v := ?vbr3) rfl (by kernel_rfl) (by kernel_rfl) (by kernel_rfl) (fun _ _ _ h => h) (Or.inl ⟨by rfl, ?hybr3⟩) (by assumption) ?restbr3
      case hybr3 => (intro w hSw; (try dsimp only at hSw); go_simp <;> with_reducible rfl)
      try simp only [Act.put, List.setIfInBounds_toArray, List.set_cons_zero, List.set_cons_succ]
      refine wpAnyH_take (i := 4) (oi := { dst := some 42, op := Op.move (Operand.tmp 7), type := 47, pos := "slices.go:528", after := _, guard := none }) (v := ?vbr4) rfl (by kernel_rfl) (by kernel_rfl) (by kernel_rfl) (fun _ _ _ h => h) (Or.inl ⟨by rfl, ?hybr4⟩) (by assumption) ?restbr4
      case hybr4 => (intro w hSw; (try dsimp only at hSw); go_simp <;> with_reducible rfl)
      try simp only [Act.put, List.setIfInBounds_toArray, List.set_cons_zero, List.set_cons_succ]
      refine wpAnyH_take (i := 5) (oi := { dst := some 43, op := Op.move (Operand.tmp 8), type := 3, pos := "slices.go:528", after := _, guard := none }) (v := ?vbr5) rfl (by kernel_rfl) (by kernel_rfl) (by kernel_rfl) (fun _ _ _ h => h) (Or.inl ⟨by rfl, ?hybr5⟩) (by assumption) ?restbr5
      case hybr5 => (intro w hSw; (try dsimp only at hSw); go_simp <;> with_reducible rfl)
      try simp only [Act.put, List.setIfInBounds_toArray, List.set_cons_zero, List.set_cons_succ]
      refine wpAnyH_take (i := 6) (oi := { dst := some 44, op := Op.slice 47 (Operand.tmp 42) none (some (Operand.tmp 43)) none, type := 47, pos := "slices.go:528", after := _, guard := none }) (v := ?vbr6) rfl (by kernel_rfl) (by kernel_rfl) (by kernel_rfl) (fun _ _ _ h => h) (Or.inl ⟨by rfl, ?hybr6⟩) (by assumption) ?restbr6
      case hybr6 => (intro w hSw; (try dsimp only at hSw); go_simp <;> with_reducible rfl)
      try simp only [Act.put, List.setIfInBounds_toArray, List.set_cons_zero, List.set_cons_succ]
      refine wpAnyH_ready (rs := [7]) (by kernel_rfl) (by simp) ?_
      refine AllReadyH.cons (o := { dst := some 45, op := Op.call { callee := Callee.builtin Builtin.copy, args := #[Operand.tmp 41, Operand.tmp 44], argTypes := #[47, 47] }, type := 3, pos := "slices.go:528", after := _, guard := none }) rfl (fun K hK => ?_) AllReadyH.nil
      refine step_copy_eqn rfl _ _ _ _ rfl _ _ (by rfl) (by rfl) HR.out ?_
      refine hK.out _ _ ?_ (fun hHeldbr7 => ?_)
      · trivial
      clear hK K hHeldbr
      try simp only [Act.put, List.setIfInBounds_toArray, List.set_cons_zero, List.set_cons_succ]
      refine wpAnyH_take (i := 8) (oi := { dst := some 46, op := Op.binOp BinOp.add 3 (Operand.tmp 38) (Operand.tmp 45) 3, type := 3, pos := "slices.go:528", after := _, guard := none }) (v := ?vbr8) rfl (by kernel_rfl) (by kernel_rfl) (by kernel_rfl) (fun _ _ _ h => h) (Or.inl ⟨by rfl, ?hybr8⟩) (by assumption) ?restbr8
      case hybr8 => (intro w hSw; (try dsimp only at hSw); go_simp <;> with_reducible rfl)
      try simp only [Act.put, List.setIfInBounds_toArray, List.set_cons_zero, List.set_cons_succ]
      refine wpAnyH_ready (rs := [9]) (by kernel_rfl) (by simp) ?_
      refine AllReadyH.cons (o := { dst := some 8, op := Op.assign (Operand.tmp 46), type := 3, pos := "slices.go:528", after := _, guard := none }) rfl (fun K hK => ?_) AllReadyH.nil
      go_simp
      skip
      refine hK.out _ _ ?_ (fun hHeldbr9 => ?_)
      · trivial
      clear hK K hHeldbr7
      try simp only [Act.put, List.setIfInBounds_toArray, List.set_cons_zero, List.set_cons_succ]
      refine wpAnyH_done (by kernel_rfl) ?_ _
      go_wp2
      go_roundg (n - (m + cc))
      case measure => omega
      case rel => exact ⟨m + cc, by omega, by omega, by omega, by go_num, BW2, ST2⟩
    · obtain rfl : n = m := by omega
      have hltz : ¬ (n : Int) < (n : Int) := by omega
      go_wp2
      go_ret
      obtain ⟨cur, hcs, hct, hblk⟩ := ST.out
      exact ⟨_, rfl, own_of (by rw [reps_len, HL.out]) (Nat.le_refl _) hblk (Nat.le_refl _) (by unfold maxLen; omega) hcs hct, BW.out⟩

/-- A store's value, written out. -/
theorem StV.form {w : World} {v : Value} {cap : Int} {ps : List Pg} (h : StV w v cap ps) : ∃ A c, v = .agg #[.int .i64 cap, .slice A ps.length c] ∧ StV w (.agg #[.int .i64 cap, .slice A ps.length c]) cap ps := by
  obtain ⟨sv, rfl, hs⟩ := h
  obtain ⟨A, c, rfl, _, _⟩ := hs.form
  exact ⟨A, c, rfl, _, rfl, hs⟩
theorem StV.sl {w : World} {sv : Value} {cap cap' : Int} {ps : List Pg} (h : StV w (.agg #[.int .i64 cap', sv]) cap ps) : Sl w 5 sv ps.length (ps.flatMap encP) := by
  obtain ⟨sv', he, hs⟩ := h
  cases he
  exact hs

theorem Sl.empty {w w' : World} {k : Nat} {v : Value} (h : Sl w k v 0 []) : Sl w' k v 0 [] := by
  obtain ⟨h1, h2 | ⟨a, c, rfl, hc, hm, hr⟩⟩ := h
  · exact ⟨h1, .inl h2⟩
  · exact ⟨h1, .inr ⟨a, c, rfl, hc, hm, fun h => absurd h (by omega)⟩⟩

set_option maxHeartbeats 1000000 in
theorem tNew_no (room : Int) (w : World) (h : room < 0 ∨ 12 < room) :
    Calls Try.prog 11 #[.int .i64 room] w fun e w' => e = .returned (.tuple #[.agg #[.int .i64 0, .slice none 0 0, .slice none 0 0], .bool false]) ∧ Below w.heap.size w w' := by
  have hN := fun W => New_no room W h
  clear h
  go_enter Try.func11, Try.ntmps11
  go_wp2_with fail
  refine (hN _).mono ?_
  rintro e w1 ⟨v1, rfl, hs1, hb1⟩
  obtain ⟨A, c, rfl, -⟩ := hs1.form
  have hA0 := (Below.refl w.heap.size w).alloc (Nat.le_refl _) (.cells #[.int .i64 0, .slice none 0 0, .slice none 0 0] 28)
  have hY1 := hA0.trans (hb1.mono hA0.size)
  have k0 : Blk w1 w.heap.size 28 #[.int .i64 0, .slice none 0 0, .slice none 0 0] := (Blk.new_ w _ _ _ rfl).keep hb1
  have q0 : w1.cell? ⟨w.heap.size, 0, none⟩ = some (.int .i64 0) := by rw [k0.cell]; rfl
  have q1 : w1.cell? ⟨w.heap.size, 1, none⟩ = some (.slice none 0 0) := by rw [k0.cell]; rfl
  have q2 : w1.cell? ⟨w.heap.size, 2, none⟩ = some (.slice none 0 0) := by rw [k0.cell]; rfl
  have f0 := k0.free 0
  have f1 := k0.free 1
  have f2 := k0.free 2
  have hz : w.heap.size < w1.heap.size := k0.lt
  clear hs1 hb1 k0
  go_wp2
  refine bodyPost_ret (v := .tuple #[.agg #[.int .i64 0, .slice none 0 0, .slice none 0 0], .bool false]) (by simp [results, Try.results11, go_sem, q0, q1, q2, hz]) rfl ⟨rfl, ?_⟩
  exact (((hY1.setCell (p := ⟨w.heap.size, 0, none⟩) (Nat.le_refl _) (.int .i64 0)).setCell (p := ⟨w.heap.size, 1, none⟩) (Nat.le_refl _) (.slice none 0 0)).setCell (p := ⟨w.heap.size, 2, none⟩) (Nat.le_refl _) (.slice none 0 0)).alloc (by simp; omega) _

set_option maxRecDepth 100000 in
set_option maxHeartbeats 2000000 in
theorem tNew_yes (room : Int) (w : World) (h0 : 0 ≤ room) (h1 : room ≤ 12) :
    Calls Try.prog 11 #[.int .i64 room] w fun e w' => ∃ v', e = .returned (.tuple #[v', .bool true]) ∧ HpV w' v' room [] [[-1, -1, -1, -1]] ∧ Below w.heap.size w w' := by
  have hN := fun W => New_yes room W h0 h1
  have hR := fun v vs W hv h => repeat_int v vs 4 W hv h (by omega) (by omega)
  go_enter Try.func11, Try.ntmps11
  go_wp2_with fail
  refine (hN _).mono ?_
  rintro e w1 ⟨v1, rfl, hs1, hb1⟩
  obtain ⟨A, c, rfl, hs1⟩ := hs1.form
  have HS := Lib.hid hs1
  have hA0 := (Below.refl w.heap.size w).alloc (Nat.le_refl _) (.cells #[.int .i64 0, .slice none 0 0, .slice none 0 0] 28)
  have hY1 := hA0.trans (hb1.mono hA0.size)
  have k0 : Blk w1 w.heap.size 28 #[.int .i64 0, .slice none 0 0, .slice none 0 0] := (Blk.new_ w _ _ _ rfl).keep hb1
  have hz : w.heap.size < w1.heap.size := k0.lt
  clear hs1 hb1
  go_wp2_with fail
  have k4 : Blk (w1.alloc (.cells #[.int .i64 room, .slice A 0 c] 25)) w1.heap.size 25 #[.int .i64 room, .slice A 0 c] := Blk.new_ _ _ _ _ rfl
  have k0' := k0.alloc (.cells #[.int .i64 room, .slice A 0 c] 25)
  have hY2 := hY1.alloc (by omega) (.cells #[.int .i64 room, .slice A 0 c] 25)
  obtain ⟨w2, hw2⟩ : ∃ x, w1.alloc (.cells #[.int .i64 room, .slice A 0 c] 25) = x := ⟨_, rfl⟩
  simp only [List.length_nil] at *
  rw [hw2] at k4 k0' hY2 ⊢
  have BW := (Below.refl w2.heap.size w2).drew
  have z4 : w1.heap.size < w2.heap.size := k4.lt
  clear hw2 k0
  refine wp_region_held_drew (S := fun w' => w'.cell? ⟨w1.heap.size, 0, none⟩ = some (.int .i64 room) ∧ w'.cell? ⟨w1.heap.size, 1, none⟩ = some (.slice A 0 c)) (by kernel_rfl) ?_ (fun hHeldcr => ?_)
  · exact ⟨by rw [(BW.cell (p := ⟨w1.heap.size, 0, none⟩) z4), k4.cell]; rfl, by rw [(BW.cell (p := ⟨w1.heap.size, 1, none⟩) z4), k4.cell]; rfl⟩
  refine wpAnyH_take (i := 0) (oi := { dst := some 14, op := Op.load 25 (Operand.tmp 4), type := 25, pos := "table.go:33", after := _, guard := none }) (v := ?vcr0) rfl (by kernel_rfl) (by kernel_rfl) (by kernel_rfl) (fun _ _ _ h => h) (Or.inl ⟨by rfl, ?hycr0⟩) (by assumption) ?restcr0
  case hycr0 => (intro w hSw; (try dsimp only at hSw); go_simp <;> with_reducible rfl)
  try simp only [Act.put, List.setIfInBounds_toArray, List.set_cons_zero, List.set_cons_succ]
  refine wpAnyH_ready (rs := [1]) (by kernel_rfl) (by simp) ?_
  refine AllReadyH.cons (o := { dst := some 15, op := Op.buildSlice 47 1 #[(0, Operand.const (Value.int IntKind.i64 (-1)))], type := 47, pos := "table.go:33", after := _, guard := none }) rfl (fun K hK => ?_) AllReadyH.nil
  go_simp
  have B1 := ((Below.refl w2.heap.size w2).alloc (Nat.le_refl _) (.cells #[.int .i64 (-1)] 3)).drew
  have kE := (Blk.new_ w2 3 #[.int .i64 (-1)] _ rfl).drew
  obtain ⟨x1, hx1⟩ : ∃ x, (w2.alloc (.cells #[.int .i64 (-1)] 3)).drew = x := ⟨_, rfl⟩
  rw [hx1] at B1 kE ⊢
  clear hx1
  refine hK.out _ _ ?_ (fun hHeldcr1 => ?_)
  · exact ⟨by rw [(B1.cell (p := ⟨w1.heap.size, 0, none⟩) z4), k4.cell]; rfl, by rw [(B1.cell (p := ⟨w1.heap.size, 1, none⟩) z4), k4.cell]; rfl⟩
  clear hK K hHeldcr
  try simp only [Act.put, List.setIfInBounds_toArray, List.set_cons_zero, List.set_cons_succ]
  refine wpAnyH_ready (rs := [2]) (by kernel_rfl) (by simp) ?_
  refine AllReadyH.cons (o := { dst := some 16, op := Op.call { callee := Callee.value (Operand.func 27), args := #[Operand.tmp 15, Operand.const (Value.int IntKind.i64 4)], argTypes := #[47, 3] }, type := 47, pos := "table.go:33", after := _, guard := none }) rfl (fun K hK => ?_) AllReadyH.nil
  go_simp
  refine (hR _ [.int .i64 (-1)] _ ⟨rfl, .inr ⟨_, 1, rfl, Nat.le_refl _, by unfold maxLen; omega, fun _ => ⟨rfl, kE.lt, fun j u hu => ?_⟩⟩⟩ (by simp [Value.oneCell'])).mono ?_
  · rw [Nat.zero_add, kE.cell]; simpa using hu
  rintro e x2 ⟨v2, rfl, hrow, hb2⟩
  have B2 := B1.trans (hb2.mono B1.size)
  obtain ⟨g5, c5, _, rfl, hg5, -, -⟩ := own_form hrow (by omega)
  have HRow := Lib.hid hrow
  clear hrow hb2 kE
  try go_wp2_with fail
  refine hK.out _ _ ?_ (fun hHeldcr2 => ?_)
  · exact ⟨by rw [(B2.cell (p := ⟨w1.heap.size, 0, none⟩) z4), k4.cell]; rfl, by rw [(B2.cell (p := ⟨w1.heap.size, 1, none⟩) z4), k4.cell]; rfl⟩
  clear hK K hHeldcr1
  try simp only [Act.put, List.setIfInBounds_toArray, List.set_cons_zero, List.set_cons_succ]
  refine wpAnyH_ready (rs := [3]) (by kernel_rfl) (by simp) ?_
  refine AllReadyH.cons (o := { dst := some 17, op := Op.buildSlice 26 1 #[(0, Operand.tmp 16)], type := 26, pos := "table.go:33", after := _, guard := none }) rfl (fun K hK => ?_) AllReadyH.nil
  go_simp
  have B3 := B2.alloc B2.size (.cells #[.slice (some ⟨g5, 0, none⟩) 4 c5] 47)
  have kT := Blk.new_ x2 47 #[.slice (some ⟨g5, 0, none⟩) 4 c5] _ rfl
  have hrow3 := own_below HRow.out ((Below.refl x2.heap.size x2).alloc (Nat.le_refl _) (.cells #[.slice (some ⟨g5, 0, none⟩) 4 c5] 47))
  obtain ⟨x3, hx3⟩ : ∃ x, x2.alloc (.cells #[.slice (some ⟨g5, 0, none⟩) 4 c5] 47) = x := ⟨_, rfl⟩
  rw [hx3] at B3 kT hrow3 ⊢
  have k3 := k0'.keep B3
  clear hx3 HRow
  have hbT : w.heap.size < x2.heap.size := by have := B2.size; omega
  have q0 : x3.cell? ⟨w.heap.size, 0, none⟩ = some (.int .i64 0) := by rw [k3.cell]; rfl
  have q1 : x3.cell? ⟨w.heap.size, 1, none⟩ = some (.slice none 0 0) := by rw [k3.cell]; rfl
  have q2 : x3.cell? ⟨w.heap.size, 2, none⟩ = some (.slice none 0 0) := by rw [k3.cell]; rfl
  have f0 := k3.free 0
  have f1 := k3.free 1
  have f2 := k3.free 2
  have q0' := q0
  have HT := Lib.hid kT
  have HR3 := Lib.hid hrow3
  clear kT hrow3
  refine hK.out _ _ ?_ (fun hHeldcr3 => ?_)
  · exact ⟨by rw [(B3.cell (p := ⟨w1.heap.size, 0, none⟩) z4), k4.cell]; rfl, by rw [(B3.cell (p := ⟨w1.heap.size, 1, none⟩) z4), k4.cell]; rfl⟩
  clear hK K hHeldcr2
  try simp only [Act.put, List.setIfInBounds_toArray, List.set_cons_zero, List.set_cons_succ]
  refine wpAnyH_take (i := 4) (oi := { dst := some 18, op := Op.build 28 #[(0, Operand.tmp 14), (1, Operand.tmp 17)], type := 28, pos := "table.go:33", after := _, guard := none }) (v := ?vcr4) rfl (by kernel_rfl) (by kernel_rfl) (by kernel_rfl) (fun _ _ _ h => h) (Or.inl ⟨by rfl, ?hycr4⟩) (by assumption) ?restcr4
  case hycr4 => (intro w hSw; (try dsimp only at hSw); go_simp <;> with_reducible rfl)
  try simp only [Act.put, List.setIfInBounds_toArray, List.set_cons_zero, List.set_cons_succ]
  refine wpAnyH_ready (rs := [5]) (by kernel_rfl) (by simp) ?_
  refine AllReadyH.cons (o := { dst := none, op := Op.store 28 (Operand.tmp 2) (Operand.tmp 18), type := 0, pos := "table.go:33", after := _, guard := none }) rfl (fun K hK => ?_) AllReadyH.nil
  go_simp
  have B5 := hY2.trans (B3.mono hY2.size)
  have B6 := ((B5.setCell (p := ⟨w.heap.size, 0, none⟩) (Nat.le_refl _) (.int .i64 room)).setCell (p := ⟨w.heap.size, 1, none⟩) (Nat.le_refl _) (.slice A 0 c)).setCell (p := ⟨w.heap.size, 2, none⟩) (Nat.le_refl _) (.slice (some ⟨x2.heap.size, 0, none⟩) 1 1)
  have hx1 := B1.size
  have kT6 := ((HT.out.far (p := ⟨w.heap.size, 0, none⟩) (by simp; omega) (.int .i64 room)).far (p := ⟨w.heap.size, 1, none⟩) (by simp; omega) (.slice A 0 c)).far (p := ⟨w.heap.size, 2, none⟩) (by simp; omega) (.slice (some ⟨x2.heap.size, 0, none⟩) 1 1)
  have hr6 := ownsRow_setCell_below (ownsRow_setCell_below (ownsRow_setCell_below HR3.out (a := ⟨w.heap.size, 0, none⟩) (by simp; omega) (.int .i64 room)) (a := ⟨w.heap.size, 1, none⟩) (by simp; omega) (.slice A 0 c)) (a := ⟨w.heap.size, 2, none⟩) (by simp; omega) (.slice (some ⟨x2.heap.size, 0, none⟩) 1 1)
  have k6 := ((k3.set_ 0 (.int .i64 room)).set_ 1 (.slice A 0 c)).set_ 2 (.slice (some ⟨x2.heap.size, 0, none⟩) 1 1)
  have k46 := (((k4.keep B3).far (p := ⟨w.heap.size, 0, none⟩) (by simp; omega) (.int .i64 room)).far (p := ⟨w.heap.size, 1, none⟩) (by simp; omega) (.slice A 0 c)).far (p := ⟨w.heap.size, 2, none⟩) (by simp; omega) (.slice (some ⟨x2.heap.size, 0, none⟩) 1 1)
  refine hK.out _ _ ?_ (fun hHeldcr5 => ?_)
  · exact ⟨by rw [k46.cell]; rfl, by rw [k46.cell]; rfl⟩
  clear hK K hHeldcr3
  try simp only [Act.put, List.setIfInBounds_toArray, List.set_cons_zero, List.set_cons_succ]
  refine wpAnyH_take (i := 6) (oi := { dst := some 3, op := Op.assign (Operand.const (Value.bool true)), type := 4, pos := "table.go:33", after := _, guard := none }) (v := ?vcr6) rfl (by kernel_rfl) (by kernel_rfl) (by kernel_rfl) (fun _ _ _ h => h) (Or.inl ⟨by rfl, ?hycr6⟩) (by assumption) ?restcr6
  case hycr6 => (intro w hSw; (try dsimp only at hSw); go_simp <;> with_reducible rfl)
  try simp only [Act.put, List.setIfInBounds_toArray, List.set_cons_zero, List.set_cons_succ]
  refine wpAnyH_done (by kernel_rfl) ?_ _
  obtain ⟨x6, hx6⟩ : ∃ x, ((x3.setCell ⟨w.heap.size, 0, none⟩ (.int .i64 room)).setCell ⟨w.heap.size, 1, none⟩ (.slice A 0 c)).setCell ⟨w.heap.size, 2, none⟩ (.slice (some ⟨x2.heap.size, 0, none⟩) 1 1) = x := ⟨_, rfl⟩
  rw [hx6] at B6 kT6 hr6 k6 ⊢
  have p0 : x6.cell? ⟨w.heap.size, 0, none⟩ = some (.int .i64 room) := by rw [k6.cell]; rfl
  have p1 : x6.cell? ⟨w.heap.size, 1, none⟩ = some (.slice A 0 c) := by rw [k6.cell]; rfl
  have p2 : x6.cell? ⟨w.heap.size, 2, none⟩ = some (.slice (some ⟨x2.heap.size, 0, none⟩) 1 1) := by rw [k6.cell]; rfl
  go_wp2
  refine bodyPost_ret (v := .tuple #[.agg #[.int .i64 room, .slice A 0 c, .slice (some ⟨x2.heap.size, 0, none⟩) 1 1], .bool true]) (by simp [results, Try.results11, go_sem, p0, p1, p2]) rfl ⟨_, rfl, ⟨_, _, rfl, Sl.empty HS.out.sl, [.slice (some ⟨g5, 0, none⟩) 4 c5], ⟨rfl, .inr ⟨_, 1, rfl, Nat.le_refl _, by unfold maxLen; simp, fun _ => ⟨rfl, kT6.lt, fun j u hu => ?_⟩⟩⟩, rfl, ?_⟩, B6⟩
  · rw [Nat.zero_add, kT6.cell]; simpa using hu
  · intro i v t e1 e2
    match i with
    | 0 =>
      obtain rfl := Option.some.inj e1
      obtain rfl := Option.some.inj e2
      exact Sl.of_own hr6
    | i + 1 => simp at e1
end Go.Proofs.Ytoogobenjhmjjaa
