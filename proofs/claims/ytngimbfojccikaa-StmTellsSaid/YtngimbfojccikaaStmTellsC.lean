/- Several texts in one: LkRepeat, LkSees. -/
import Derived.Test.YtngimbfojccikaaLkApim
import Derived.Test.YtngimbfojccikaaCopy
namespace Go.Proofs.Ytngimbfojccikaa
set_option linter.unusedSimpArgs false
open Go Go.RowKit
set_option linter.unusedVariables false
set_option maxRecDepth 100000
attribute [local go_sem ↓] Go.wp_at_zero Go.wp_at_succ

set_option maxHeartbeats 1000000 in
theorem mul64_small (n : Nat) (h0 : 1 ≤ n) (h : n ≤ 8) (w : World) : Calls Try.prog 82 #[.int .u64 1, .int .u64 (n : Int)] w fun e w' => e = .returned (.tuple #[.int .u64 0, .int .u64 (n : Int)]) ∧ w = w' := by
  obtain rfl | rfl | rfl | rfl | rfl | rfl | rfl | rfl : n = 1 ∨ n = 2 ∨ n = 3 ∨ n = 4 ∨ n = 5 ∨ n = 6 ∨ n = 7 ∨ n = 8 := by omega
  all_goals
    clear h0 h
    go_enter Try.func82, Try.ntmps82
    go_wp2
    go_ret2
    exact ⟨rfl, rfl⟩

set_option maxHeartbeats 1000000 in
theorem mul_small (n : Nat) (h0 : 1 ≤ n) (h : n ≤ 8) (w : World) : Calls Try.prog 60 #[.int .u64 1, .int .u64 (n : Int)] w fun e w' => e = .returned (.tuple #[.int .u64 0, .int .u64 (n : Int)]) ∧ w = w' := by
  have hc := fun w => mul64_small n h0 h w
  clear h0 h
  go_enter Try.func60, Try.ntmps60
  go_wp2_with (go_at_call 82; refine (hc _).mono ?_; rintro e w' ⟨rfl, rfl⟩)
  go_ret2
  exact ⟨rfl, rfl⟩
theorem repeat_lock_info : (Try.prog.info? 43).map (fun i => (i.zero, i.size, i.bytes)) = some (some (.agg #[.int .i64 0, .int .i64 0]), 2, 16) := by kernel_rfl

set_option maxHeartbeats 2000000 in
theorem repeat_lock (v : Value) (vs : List Value) (n : Nat) (w : World) (hv : Sl w 2 v 1 vs) (h1 : ∀ u ∈ vs, u.oneCell' = true) (hn0 : 1 ≤ n) (hn8 : n ≤ 8) :
    Calls Try.prog 42 #[v, .int .i64 (n : Int)] w fun e w' => ∃ v', e = .returned v' ∧ w'.ownsRow w.heap.size 43 2 v' n (reps vs n) ∧ Below w.heap.size w w' := by
  obtain ⟨i0, hi0, hz0, hz1, hz2⟩ := info_parts repeat_lock_info
  have hmul := fun w => mul_small n hn0 hn8 w
  have hmk := fun (w : World) (kl kc : IntKind) => run_make (P := Try.prog) w 28 43 i0 _ Try.underlying28 hi0 hz0 kl kc (n : Int) (n : Int) (by omega) (Int.le_refl _) (by rw [hz2]; omega) (by omega)
  obtain ⟨hl, ⟨_, hx⟩ | ⟨a, c, rfl, hc, hm, hr⟩⟩ := hv
  · omega
  have hr1 := hr (by omega)
  clear hr
  obtain ⟨b, o, s⟩ := a
  obtain ⟨hs, hr⟩ := hr1
  simp only at hs hr
  subst hs
  have hvl : vs.length = 2 := by omega
  obtain ⟨mc, hmc⟩ : ∃ x, madeCells (.agg #[.int .i64 0, .int .i64 0] : Value).cells (n * 2) = x := ⟨_, rfl⟩
  have hms : mc.size = n * 2 := by rw [← hmc]; exact size_madeCells _ _
  simp only [Int.toNat_natCast, hz1, hmc] at hmk
  clear hmc
  have hcp := run_copy_k (P := Try.prog) (w.alloc (.cells (mc) 43)) 28 28 3 43 w.heap.size 0 n n ⟨b, o, none⟩ 1 c _ 43 vs 2 1 Try.underlying28 (by rw [hi0, Option.map_some, hz1]) (Blk.new w _ _) (by show min 1 n = 1; omega) hl
    (fun j u hu => by rw [add_none, World.cell?_alloc_lt _ _ _ hr.1]; exact hr.2 j u hu) (by rw [hms, hvl]; omega) h1
  have hmin : Nat.min 1 n = 1 := by show min 1 n = 1; omega
  have hk0 := (Blk.new w 43 (mc)).setRow ((mc).toList.take 0 ++ vs ++ (mc).toList.drop (0 + vs.length)).toArray
  have hb0 := below_setRow' ((Below.refl w.heap.size w).alloc (Nat.le_refl _) (.cells (mc) 43)) (Nat.le_refl _) ((mc).toList.take 0 ++ vs ++ (mc).toList.drop (0 + vs.length)).toArray
  have hst : Hid (∃ cur : Array Value, cur.size = n * 2 ∧ cur.toList.take (1 * 2) = reps vs 1 ∧ Blk ((w.alloc (.cells (mc) 43)).setRow w.heap.size ((mc).toList.take 0 ++ vs ++ (mc).toList.drop (0 + vs.length)).toArray) w.heap.size 43 cur) := by
    refine ⟨_, ?_, ?_, hk0⟩
    · simp [hvl, hms]; omega
    · simp [reps, hvl]
  clear hk0
  obtain ⟨w1, hw1⟩ : ∃ x, ((w.alloc (.cells (mc) 43)).setRow w.heap.size ((mc).toList.take 0 ++ vs ++ (mc).toList.drop (0 + vs.length)).toArray) = x := ⟨_, rfl⟩
  rw [hw1] at hcp hb0 hst
  have HB := Lib.hid hb0
  have HL := Lib.hid hvl
  have HI := Lib.hid (show (Try.prog.info? 43).map (·.size) = some 2 from by rw [hi0, Option.map_some, hz1])
  clear hw1 hr hb0 hl hc hm hz0 hz1 hz2 hi0 hvl
  go_enter Try.func42, Try.ntmps42
  go_wp2_with fail
  refine (hmul _).mono ?_
  rintro e w' ⟨rfl, rfl⟩
  go_wp2
  clear hmk hmul hcp
  go_loopg [8] n (fun gg s8 wr => ∃ m : Nat, 1 ≤ m ∧ m ≤ n ∧ n - m ≤ gg ∧ s8 = .int .i64 m ∧ Hid (Below w.heap.size w wr) ∧ Hid (∃ cur : Array Value, cur.size = n * 2 ∧ cur.toList.take (m * 2) = reps vs m ∧ Blk wr w.heap.size 43 cur))
  case atStart => exact ⟨1, by omega, by omega, by omega, rfl, HB.out, hst⟩
  case round =>
    obtain ⟨m, hm1, hmn, hg, rfl, BW, ST⟩ := hrel
    by_cases hlt : m < n
    · have hltz : (m : Int) < (n : Int) := by omega
      have hm0 : (0 : Int) ≤ (m : Int) := by omega
      have hmz : (m : Int) ≤ (n : Int) := by omega
      have hcap : ¬ n = m := by omega
      obtain ⟨cur, hcs, hct, hblk⟩ := ST.out
      obtain ⟨cc, hcc⟩ : ∃ cc, min m (n - m) = cc := ⟨_, rfl⟩
      have hrow := run_copy_k (P := Try.prog) wr.drew 28 28 3 43 w.heap.size (m * 2) (n - m) (n - m) ⟨w.heap.size, 0, none⟩ m n cur 43 (reps vs cc) 2 cc Try.underlying28 HI.out hblk hcc (by rw [reps_len, HL.out])
        (fun j u hu => by
          rw [add_none, Nat.zero_add]
          have h2 := hblk.cell j
          have h3 : cur[j]? = some u := by
            have h4 : reps vs cc = (reps vs m).take (cc * vs.length) := (reps_take vs m cc (by omega)).symm
            rw [h4, ← hct, List.take_take, List.getElem?_take] at hu
            split at hu
            · rw [Array.getElem?_toList] at hu; exact hu
            · cases hu
          exact h2.trans h3) (by rw [reps_len, HL.out, hcs]; have : (m + cc) * 2 ≤ n * 2 := Nat.mul_le_mul_right _ (by omega); rw [Nat.add_mul] at this; exact this) (by
          intro u hu
          unfold reps at hu
          rw [List.mem_flatten] at hu
          obtain ⟨l, hl, hu⟩ := hu
          rw [List.mem_replicate] at hl
          exact h1 u (hl.2 ▸ hu))
      have hnew := (hblk.drew).setRow (cur.toList.take (m * 2) ++ reps vs cc ++ cur.toList.drop (m * 2 + (reps vs cc).length)).toArray
      have hlist : cur.toList.take (m * 2) ++ reps vs cc = reps vs (m + cc) := by rw [hct, reps_add]
      have hbel := below_setRow' (below_drewN BW.out 1) (Nat.le_refl _) (cur.toList.take (m * 2) ++ reps vs cc ++ cur.toList.drop (m * 2 + (reps vs cc).length)).toArray
      rw [hlist] at hnew hrow hbel
      have hsz : (reps vs (m + cc) ++ cur.toList.drop (m * 2 + (reps vs cc).length)).toArray.size = n * 2 := by
        simp only [List.size_toArray, List.length_append, List.length_drop, reps_len, HL.out, Array.length_toList, hcs]
        have : (m + cc) * 2 ≤ n * 2 := Nat.mul_le_mul_right _ (by omega)
        rw [Nat.add_mul] at *
        omega
      have htk : (reps vs (m + cc) ++ cur.toList.drop (m * 2 + (reps vs cc).length)).toArray.toList.take ((m + cc) * 2) = reps vs (m + cc) := by
        rw [List.take_append_of_le_length (by rw [reps_len, HL.out]; exact Nat.le_refl _), List.take_of_length_le (by rw [reps_len, HL.out]; exact Nat.le_refl _)]
      have ST2 : Hid (∃ cur' : Array Value, cur'.size = n * 2 ∧ cur'.toList.take ((m + cc) * 2) = reps vs (m + cc) ∧ Blk (wr.drew.setRow w.heap.size (reps vs (m + cc) ++ cur.toList.drop (m * 2 + (reps vs cc).length)).toArray) w.heap.size 43 cur') := ⟨_, hsz, htk, hnew⟩
      have BW2 : Hid (Below w.heap.size w (wr.drew.setRow w.heap.size (reps vs (m + cc) ++ cur.toList.drop (m * 2 + (reps vs cc).length)).toArray)) := hbel
      have HC := Lib.hid hcc
      have hcb : cc ≤ 8 := by omega
      have hcm : m + cc ≤ n := by omega
      have hc1 : 1 ≤ cc := by omega
      clear hnew hlist hbel hsz htk ST hct hcs hblk hcc
      generalize (reps vs (m + cc) ++ cur.toList.drop (m * 2 + (reps vs cc).length)).toArray = cur2 at *
      try simp only [Nat.mul_one] at hrow
      have HR := Lib.hid hrow
      clear hrow
      have hwrap : IntKind.i64.wrap ((m : Int) + (cc : Int)) = (m : Int) + (cc : Int) := by rw [IntKind.wrap_i64]; omega
      go_wp2_with fail
      refine wp_region_held_drew (S := fun _ => True) (by kernel_rfl) ?_ (fun hbr => ?_)
      · trivial
      refine tkA 0 ?_
      refine tkA 1 ?_
      refine tkA 2 ?_
      refine tkA 3 ?_
      refine tkA 4 ?_
      refine tkA 5 ?_
      refine tkA 6 ?_
      refine stA 7 (fun K hK => ?_)
      refine step_copy_eqn rfl _ _ _ _ rfl _ _ (by rfl) (by rfl) HR.out ?_
      refine hK.out _ _ ?_ (fun hbr7 => ?_)
      · trivial
      clear hK K hbr
      try simp only [Act.put, List.setIfInBounds_toArray, List.set_cons_zero, List.set_cons_succ]
      refine tkA 8 ?_
      refine stA 9 (fun K hK => ?_)
      go_simp
      refine hK.out _ _ ?_ (fun hbr9 => ?_)
      · trivial
      clear hK K hbr7
      try simp only [Act.put, List.setIfInBounds_toArray, List.set_cons_zero, List.set_cons_succ]
      refine wpAnyH_done (by kernel_rfl) ?_ _
      go_wp2
      go_roundg (n - (m + cc))
      case measure => omega
      case rel => exact ⟨m + cc, by omega, by omega, by omega, by go_num, BW2, ST2⟩
    · obtain rfl : n = m := by omega
      have hltz : ¬ (n : Int) < (n : Int) := by omega
      go_wp2
      go_ret
      obtain ⟨cur, hcs, hct, hblk⟩ := ST.out
      exact ⟨_, rfl, own_of (by rw [reps_len, HL.out]) (Nat.le_refl _) hblk (Nat.le_refl _) (by unfold maxLen; omega) hcs hct, BW.out⟩

/-- What New comes to. -/
def newOk (n mx : Int) : Bool := decide (1 ≤ n) && (decide (n ≤ 8) && (decide (0 ≤ mx) && decide (mx ≤ 1000)))

theorem reps_enc (x : Lk) (n : Nat) : reps (encL x) n = (List.replicate n x).flatMap encL := by
  unfold reps
  rw [List.flatMap_def, List.map_replicate]

set_option maxHeartbeats 1000000 in
theorem LNew_no (n mx : Int) (w : World) (h : newOk n mx = false) :
    Calls Try.prog 23 #[.int .i64 n, .int .i64 mx] w fun e w' => e = .returned (.tuple #[.agg #[.int .i64 0, .int .i64 0, .slice none 0 0], .bool false]) ∧ Below w.heap.size w w' := by
  have key : ∀ b1 b2 b3 b4 : Bool, decide (n < 1) = b1 → (b1 = false → decide (8 < n) = b2) → (b1 = false → b2 = false → decide (mx < 0) = b3) → (b1 = false → b2 = false → b3 = false → decide (1000 < mx) = b4) → (b1 = false → b2 = false → b3 = false → b4 = true) →
      Calls Try.prog 23 #[.int .i64 n, .int .i64 mx] w fun e w' => e = .returned (.tuple #[.agg #[.int .i64 0, .int .i64 0, .slice none 0 0], .bool false]) ∧ Below w.heap.size w w' := by
    clear h
    intro b1 b2 b3 b4 h1 h2 h3 h4 h5
    cases b1 with
    | true =>
      clear h2 h3 h4 h5
      go_enter Try.func23, Try.ntmps23
      go_wp2
      exact bodyPost_ret (v := .tuple #[.agg #[.int .i64 0, .int .i64 0, .slice none 0 0], .bool false]) (by simp [results, Try.results23, go_sem]) rfl ⟨rfl, (Below.refl _ _).alloc (Nat.le_refl _) _⟩
    | false =>
      have h2 := h2 rfl
      cases b2 with
      | true =>
        clear h3 h4 h5
        go_enter Try.func23, Try.ntmps23
        go_wp2
        exact bodyPost_ret (v := .tuple #[.agg #[.int .i64 0, .int .i64 0, .slice none 0 0], .bool false]) (by simp [results, Try.results23, go_sem]) rfl ⟨rfl, (Below.refl _ _).alloc (Nat.le_refl _) _⟩
      | false =>
        have h3 := h3 rfl rfl
        cases b3 with
        | true =>
          clear h4 h5
          go_enter Try.func23, Try.ntmps23
          go_wp2
          exact bodyPost_ret (v := .tuple #[.agg #[.int .i64 0, .int .i64 0, .slice none 0 0], .bool false]) (by simp [results, Try.results23, go_sem]) rfl ⟨rfl, (Below.refl _ _).alloc (Nat.le_refl _) _⟩
        | false =>
          have h4 := h4 rfl rfl rfl
          have h5 := h5 rfl rfl rfl
          subst h5
          go_enter Try.func23, Try.ntmps23
          go_wp2
          exact bodyPost_ret (v := .tuple #[.agg #[.int .i64 0, .int .i64 0, .slice none 0 0], .bool false]) (by simp [results, Try.results23, go_sem]) rfl ⟨rfl, (Below.refl _ _).alloc (Nat.le_refl _) _⟩
  refine key _ _ _ _ rfl (fun _ => rfl) (fun _ _ => rfl) (fun _ _ _ => rfl) (fun h1 h2 h3 => ?_)
  simp [newOk] at h h1 h2 h3 ⊢
  omega

set_option maxHeartbeats 1000000 in
theorem LNew_yes (n : Nat) (mx : Int) (w : World) (h1 : 1 ≤ n) (h2 : n ≤ 8) (h3 : 0 ≤ mx) (h4 : mx ≤ 1000) :
    Calls Try.prog 23 #[.int .i64 (n : Int), .int .i64 mx] w fun e w' => ∃ v', e = .returned (.tuple #[v', .bool true]) ∧ LkO w' w.heap.size v' 0 mx (List.replicate n ⟨0, -1⟩) ∧ Below w.heap.size w w' := by
  have hrep := fun v vs W hv h => repeat_lock v vs n W hv h h1 h2
  go_enter Try.func23, Try.ntmps23
  go_wp2_with fail
  have hb0 : Below w.heap.size w ((w.alloc (.cells #[.int .i64 0, .int .i64 0, .slice none 0 0] 30)).alloc (.cells #[.int .i64 0, .int .i64 (-1)] 43)) := ((Below.refl _ w).alloc (Nat.le_refl _) _).alloc (by simp) _
  have kB : Blk ((w.alloc (.cells #[.int .i64 0, .int .i64 0, .slice none 0 0] 30)).alloc (.cells #[.int .i64 0, .int .i64 (-1)] 43)) (w.heap.size + 1) 43 #[.int .i64 0, .int .i64 (-1)] := Blk.new_ _ _ _ _ (by simp)
  have kA : Blk ((w.alloc (.cells #[.int .i64 0, .int .i64 0, .slice none 0 0] 30)).alloc (.cells #[.int .i64 0, .int .i64 (-1)] 43)) w.heap.size 30 #[.int .i64 0, .int .i64 0, .slice none 0 0] := (Blk.new_ w _ _ _ rfl).alloc _
  refine (hrep _ (encL ⟨0, -1⟩) _ ⟨rfl, .inr ⟨_, 1, rfl, Nat.le_refl _, by unfold maxLen; omega, fun _ => ⟨rfl, kB.lt, fun j u hu => ?_⟩⟩⟩ (by simp [encL, Value.oneCell'])).mono ?_
  · rw [Nat.zero_add, kB.cell]
    simpa [encL] using hu
  rintro e w1 ⟨v1, rfl, hrow, hb1⟩
  have hY := hb0.trans (hb1.mono (by simp; omega))
  replace kA := kA.keep hb1
  clear kB hrep
  have hz := hb1.size
  simp only [World.size_alloc] at hz
  obtain ⟨A', c', rfl, _, _⟩ := (Sl.of_own hrow).form
  have s0 : w1.cell? ⟨w.heap.size, 0, none⟩ = some (.int .i64 0) := by rw [kA.cell]; rfl
  have s1 : w1.cell? ⟨w.heap.size, 1, none⟩ = some (.int .i64 0) := by rw [kA.cell]; rfl
  have s2 : w1.cell? ⟨w.heap.size, 2, none⟩ = some (.slice none 0 0) := by rw [kA.cell]; rfl
  have sf0 : w1.frozen? ⟨w.heap.size, 0, none⟩ = false := kA.free 0
  have sf1 : w1.frozen? ⟨w.heap.size, 1, none⟩ = false := kA.free 1
  have sf2 : w1.frozen? ⟨w.heap.size, 2, none⟩ = false := kA.free 2
  go_wp2
  refine bodyPost_ret (v := .tuple #[.agg #[.int .i64 0, .int .i64 mx, .slice A' n c'], .bool true]) (by simp [results, Try.results23, go_sem, s0, s1, s2]) rfl ⟨_, rfl, ⟨_, rfl, ?_⟩, ?_⟩
  · unfold RowL
    rw [← reps_enc, List.length_replicate]
    exact ownsRow_mono (ownsRow_setCell_below (ownsRow_setCell_below (ownsRow_setCell_below hrow (by simp; omega) _) (by simp; omega) _) (by simp; omega) _) (by simp; omega)
  · exact ((hY.setCell (by simp) _).setCell (by simp) _).setCell (by simp) _
end Go.Proofs.Ytngimbfojccikaa
namespace Go.Proofs.Ytngimbfojccikaa
set_option linter.unusedSimpArgs false
open Go Go.RowKit
set_option linter.unusedVariables false
attribute [local go_sem ↓] Go.wp_at_zero Go.wp_at_succ

def sameL (n1 m1 : Int) (xs : List Lk) (n2 m2 : Int) (ys : List Lk) : Bool := n1 == n2 && (m1 == m2 && eqL lkEq xs ys)

set_option maxHeartbeats 1000000 in
theorem LSame_any (v1 v2 : Value) (n1 m1 n2 m2 : Int) (xs ys : List Lk) (w : World) (hv1 : LkV w v1 n1 m1 xs) (hv2 : LkV w v2 n2 m2 ys) :
    Calls Try.prog 35 #[v1, v2] w fun e w' => e = .returned (.bool (sameL n1 m1 xs n2 m2 ys)) ∧ Below w.heap.size w w' := by
  obtain ⟨s1, rfl, hs1⟩ := hv1
  obtain ⟨s2, rfl, hs2⟩ := hv2
  have hb0 : Below w.heap.size w ((w.alloc (.cells #[.int .i64 n1, .int .i64 m1, s1] 30)).alloc (.cells #[.int .i64 n2, .int .i64 m2, s2] 30)) := ((Below.refl _ w).alloc (Nat.le_refl _) _).alloc (by simp) _
  have heq := equal_lock s1 s2 xs ys _ (hs1.below hb0) (hs2.below hb0)
  obtain ⟨A1, k1, rfl, _, _⟩ := hs1.form
  obtain ⟨A2, k2, rfl, _, _⟩ := hs2.form
  generalize hq : eqL lkEq xs ys = q at heq
  have HQ := Lib.hid hq
  clear hs1 hs2 hq
  unfold sameL
  rw [HQ.out]
  generalize xs.length = n at *
  generalize ys.length = m at *
  cases h1 : (n1 == n2) with
  | true =>
    cases h2 : (m1 == m2) with
    | true =>
      simp only [Bool.true_and]
      go_enter Try.func35, Try.ntmps35
      go_wp2_with (go_at_call 57; refine heq.mono ?_; rintro e w1 ⟨rfl, hb1⟩)
      go_ret
      exact ⟨rfl, hb0.trans (hb1.mono (by simp; omega))⟩
    | false =>
      simp only [Bool.true_and, Bool.false_and]
      clear heq
      go_enter Try.func35, Try.ntmps35
      go_wp2
      go_ret
      exact ⟨rfl, hb0⟩
  | false =>
    simp only [Bool.false_and]
    clear heq
    go_enter Try.func35, Try.ntmps35
    go_wp2
    go_ret
    exact ⟨rfl, hb0⟩

/-- What Sees comes to. -/
def seesL (now mx : Int) (ls : List Lk) (i ver who : Int) : Bool :=
  if h : mayL now mx ls = true ∧ 0 ≤ i ∧ i < ls.length then freeH who (ls[i.toNat]'(by omega)) && decide ((ls[i.toNat]'(by omega)).v ≤ ver) else false

set_option maxHeartbeats 2000000 in
theorem Sees_any (v : Value) (now mx i ver who : Int) (ls : List Lk) (w : World) (hv : LkV w v now mx ls) :
    Calls Try.prog 68 #[v, .int .i64 i, .int .i64 ver, .int .i64 who] w fun e w' => e = .returned (.bool (seesL now mx ls i ver who)) ∧ Below w.heap.size w w' := by
  obtain ⟨A, c, rfl, hv⟩ := hv.form
  have hb0 : Below w.heap.size w (w.alloc (.cells #[.int .i64 now, .int .i64 mx, .slice A ls.length c] 30)) := (Below.refl _ w).alloc (Nat.le_refl _) _
  have hmay := lmay_any now mx (.slice A ls.length c) ls _ (hv.sl.below hb0)
  cases hm : mayL now mx ls with
  | false =>
    rw [show seesL now mx ls i ver who = false from by simp [seesL, hm]]
    rw [hm] at hmay
    clear hm hv
    go_enter Try.func68, Try.ntmps68
    go_wp2_with (go_at_call 22; refine hmay.mono ?_; rintro e w1 ⟨rfl, hb1⟩)
    go_ret
    exact ⟨rfl, hb0.trans (hb1.mono (by simp))⟩
  | true =>
    rw [hm] at hmay
    by_cases hi : 0 ≤ i ∧ i < (ls.length : Int)
    · obtain ⟨hi0, hi1⟩ := hi
      obtain ⟨k, rfl⟩ := Int.eq_ofNat_of_zero_le hi0
      have hk : k < ls.length := by omega
      have hse : seesL now mx ls k ver who = (freeH who ls[k] && decide (ls[k].v ≤ ver)) := by
        unfold seesL
        rw [dif_pos ⟨hm, hi0, hi1⟩]
        rfl
      rw [hse]
      obtain ⟨b, o, rfl, hlt, hel⟩ := Sl.pos encL encL_len hv.sl (by omega)
      have hel := fun W hW => hel W hW k hk
      have hfr := fun W => hfree_any who 0 ls[k] W
      generalize ls[k] = x at *
      generalize freeH who x = q at *
      simp only [encL] at hfr
      clear hm hse hv hk
      go_enter Try.func68, Try.ntmps68
      go_wp2_with fail
      refine hmay.mono ?_
      rintro e w1 ⟨rfl, hb1⟩
      have hY := hb0.trans (hb1.mono (by simp))
      have kB : Blk w1 w.heap.size 30 #[.int .i64 now, .int .i64 mx, .slice (some ⟨b, o, none⟩) ls.length c] := (Blk.new_ w _ _ _ rfl).keep hb1
      have e0 := hel w1 hY 0 _ rfl
      have e1 := hel w1 hY 1 _ rfl
      simp only [Nat.add_zero] at e0
      have hlt1 : b < w1.heap.size := Nat.lt_of_lt_of_le hlt hY.size
      have l0 := kB.lt
      clear hmay
      have s0 : w1.cell? ⟨w.heap.size, 0, none⟩ = some (.int .i64 now) := by rw [kB.cell]; rfl
      have s1 : w1.cell? ⟨w.heap.size, 1, none⟩ = some (.int .i64 mx) := by rw [kB.cell]; rfl
      have s2 : w1.cell? ⟨w.heap.size, 2, none⟩ = some (.slice (some ⟨b, o, none⟩) ls.length c) := by rw [kB.cell]; rfl
      have sf0 : w1.frozen? ⟨w.heap.size, 0, none⟩ = false := kB.free 0
      have sf1 : w1.frozen? ⟨w.heap.size, 1, none⟩ = false := kB.free 1
      have sf2 : w1.frozen? ⟨w.heap.size, 2, none⟩ = false := kB.free 2
      go_wp2_with fail
      refine (hfr _).mono ?_
      rintro e w2 ⟨rfl, hb2⟩
      have f0 := hel w2 (hY.trans (hb2.mono hY.size)) 0 _ rfl
      simp only [Nat.add_zero] at f0
      clear hel hfr
      have t2 := (hb2.cell (p := ⟨w.heap.size, 2, none⟩) l0).trans s2
      cases q with
      | true =>
        go_wp2
        go_ret
        exact ⟨rfl, hY.trans (hb2.mono hY.size)⟩
      | false =>
        go_wp2
        go_ret
        exact ⟨rfl, hY.trans (hb2.mono hY.size)⟩
    · rw [show seesL now mx ls i ver who = false from by unfold seesL; rw [dif_neg (fun h => hi h.2)]]
      clear hm hv
      by_cases hi0 : i < 0
      · clear hi
        go_enter Try.func68, Try.ntmps68
        go_wp2_with (go_at_call 22; refine hmay.mono ?_; rintro e w1 ⟨rfl, hb1⟩)
        go_ret
        exact ⟨rfl, hb0.trans (hb1.mono (by simp))⟩
      · have hi1 : (ls.length : Int) ≤ i := by omega
        clear hi
        go_enter Try.func68, Try.ntmps68
        go_wp2_with fail
        refine hmay.mono ?_
        rintro e w1 ⟨rfl, hb1⟩
        have kB : Blk w1 w.heap.size 30 #[.int .i64 now, .int .i64 mx, .slice A ls.length c] := (Blk.new_ w _ _ _ rfl).keep hb1
        have s0 : w1.cell? ⟨w.heap.size, 0, none⟩ = some (.int .i64 now) := by rw [kB.cell]; rfl
        have s1 : w1.cell? ⟨w.heap.size, 1, none⟩ = some (.int .i64 mx) := by rw [kB.cell]; rfl
        have s2 : w1.cell? ⟨w.heap.size, 2, none⟩ = some (.slice A ls.length c) := by rw [kB.cell]; rfl
        have sf0 : w1.frozen? ⟨w.heap.size, 0, none⟩ = false := kB.free 0
        have sf1 : w1.frozen? ⟨w.heap.size, 1, none⟩ = false := kB.free 1
        have sf2 : w1.frozen? ⟨w.heap.size, 2, none⟩ = false := kB.free 2
        go_wp2
        go_ret
        exact ⟨rfl, hb0.trans (hb1.mono (by simp))⟩
end Go.Proofs.Ytngimbfojccikaa
