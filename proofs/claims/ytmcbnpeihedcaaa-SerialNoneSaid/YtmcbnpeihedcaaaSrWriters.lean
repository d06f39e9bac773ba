/- serial.writers. -/
import Derived.Test.YtmcbnpeihedcaaaSrDel
namespace Go.Proofs.Ytmcbnpeihedcaaa
open Go Go.RowKit
set_option linter.unusedVariables false
attribute [local go_sem ↓] Go.wp_at_zero Go.wp_at_succ

/-- The tries that write, by rising versions. -/
def wsOf (h : List Rx) : List Rx := srtK Rx.wv (h.filter writesX)
/-- The function that hands on tries. -/
def WrV (w : World) (base : Nat) (v : Value) (ws : List Rx) : Prop :=
  ∃ bx sv, v = .func (.func 50) #[] #[.pointer (some ⟨bx, 0, none⟩)] ∧ base ≤ bx ∧ Blk w bx 22 #[sv] ∧ w.ownsRow base 27 10 sv ws.length (ws.flatMap encRx)
def WrPost (base : Nat) (ws : List Rx) (w : World) (e : Ending) (w' : World) : Prop := ∃ v', e = .returned v' ∧ WrV w' base v' ws ∧ Below w.heap.size w w'

set_option maxHeartbeats 1000000 in
theorem sortst_nil (f : Value) (w : World) :
    Calls Try.prog 30 #[.slice none 0 0, f] w fun e w' => e = .returned (.tuple #[]) ∧ w = w' := by
  have h1 : ∀ w, Calls Try.prog 64 #[.slice none 0 0, .int .i64 0, .int .i64 0, f] w fun e w' => e = .returned (.tuple #[]) ∧ w = w' := fun w => by
    go_enter Try.func64, Try.ntmps64
    go_wp2_with fail
    refine wp_loop_rounds 1 ?_
    rw [rounds_succ]
    go_wp2
    go_end0
    exact ⟨rfl, rfl⟩
  have h2 : ∀ w, Calls Try.prog 48 #[.slice none 0 0, .int .i64 0, f] w fun e w' => e = .returned (.tuple #[]) ∧ w = w' := fun w => by
    go_enter Try.func48, Try.ntmps48
    go_wp2_with fail
    refine wp_loop_rounds 1 ?_
    rw [rounds_succ]
    go_wp2_with fail
    refine (h1 _).mono ?_
    rintro e w' ⟨rfl, rfl⟩
    go_wp2_with fail
    refine wp_loop_rounds 1 ?_
    rw [rounds_succ]
    go_wp2
    go_end0
    exact ⟨rfl, rfl⟩
  go_enter Try.func30, Try.ntmps30
  go_wp2_with fail
  refine (h2 _).mono ?_
  rintro e w' ⟨rfl, rfl⟩
  go_wp2
  go_end0
  exact ⟨rfl, rfl⟩

/-- Whatever row of tries of one's own. -/
theorem sortst_own (base : Nat) (v : Value) (l : List Rx) (w : World) (hr : w.ownsRow base 27 10 v l.length (l.flatMap encRx)) (hn : l.length ≤ 100000) (hbase : base ≤ w.heap.size) :
    Calls Try.prog 30 #[v, .func (.func 31) #[] #[]] w fun e w' => e = .returned (.tuple #[]) ∧ w'.ownsRow base 27 10 v (srtK Rx.wv l).length ((srtK Rx.wv l).flatMap encRx) ∧ Below base w w' := by
  rcases hr.2 with ⟨rfl, h0⟩ | ⟨g, c, cur, rfl, _⟩
  · obtain rfl : l = [] := List.eq_nil_of_length_eq_zero h0
    refine (sortst_nil _ w).mono ?_
    rintro e w' ⟨rfl, rfl⟩
    exact ⟨rfl, hr, Below.refl _ _⟩
  · refine (sortst_any base g c l w hr hn hbase).mono ?_
    rintro e w' ⟨rfl, l', hl', hO, hS, hT, hB⟩
    have := srtK_uniq hS hT
    subst this
    refine ⟨rfl, ?_, hB⟩
    unfold OwnR at hO
    rw [hl'] at hO ⊢
    exact hO

set_option maxRecDepth 100000 in
set_option maxHeartbeats 1000000 in
theorem values_any (base : Nat) (v : Value) (ws : List Rx) (w : World) (hbase : base ≤ w.heap.size) (hv : w.ownsRow base 27 10 v ws.length (ws.flatMap encRx)) :
    Calls Try.prog 33 #[v] w (WrPost base ws w) := by
  have hb := (Below.refl w.heap.size w).alloc (Nat.le_refl _) (.cells #[v] 22)
  have hb2 := (Below.refl w.heap.size w).alloc (Nat.le_refl _) (.cells #[v] 22)
  obtain ⟨A, c, rfl, _, _⟩ := (Sl.of_own hv).form
  have HV := Lib.hid hv
  clear hv
  go_enter Try.func33, Try.ntmps33
  go_wp2
  go_ret
  exact ⟨_, rfl, ⟨_, _, rfl, hbase, Blk.new _ _ _, own_below HV.out hb⟩, hb⟩

set_option maxRecDepth 100000 in
set_option maxHeartbeats 2000000 in
theorem writers_any (v : Value) (h : List Rx) (w : World) (hv : RecsV w v h) (hn : h.length ≤ 100000) :
    Calls Try.prog 17 #[v] w (WrPost w.heap.size (wsOf h) w) := by
  have e1 : ∀ args w, (callFunc 29 args).run Try.prog w = .ok (.enter 29 args) w := enters_of Try.func29 (by kernel_rfl) rfl
  have HC := Lib.hid (clone_rec v h.length _ w hv.1 (encRx_one h) (by omega))
  have HD := Lib.hid (fun base v l w h1 h2 h3 => del_rec (fun x => !writesX x) 29 #[] e1 base v l w h1 h2 (fun W x => wr1_any x W) h3)
  clear hv e1
  go_enter Try.func17, Try.ntmps17
  go_wp2_with fail
  refine HC.out.mono ?_
  rintro e w1 ⟨v1, rfl, hO1, hB1⟩
  have HO1 := Lib.hid hO1
  have HB1 := Lib.hid hB1
  clear hO1 hB1
  go_wp2_with fail
  refine (HD.out w.heap.size v1 h _ HB1.out.size hn HO1.out).mono ?_
  rintro e w2 ⟨v2, rfl, hO2, hB2⟩
  have hO2 : w2.ownsRow w.heap.size 27 10 v2 (h.filter writesX).length ((h.filter writesX).flatMap encRx) := by simpa using hO2
  have HO2 := Lib.hid hO2
  have HB2 := Lib.hid (HB1.out.trans hB2)
  clear hO2 hB2
  have hfl := List.length_filter_le writesX h
  go_wp2_with fail
  refine (sortst_own w.heap.size v2 (h.filter writesX) _ HO2.out (by omega) HB2.out.size).mono ?_
  rintro e w3 ⟨rfl, hO3, hB3⟩
  have HO3 := Lib.hid hO3
  have HB3 := Lib.hid (HB2.out.trans hB3)
  clear hO3 hB3
  go_wp2_with fail
  refine (values_any w.heap.size v2 (wsOf h) _ HB3.out.size HO3.out).mono ?_
  rintro e w4 ⟨v4, rfl, hW, hB4⟩
  have HW := Lib.hid hW
  have HB4 := Lib.hid hB4
  clear hW hB4
  go_wp2
  go_ret
  exact ⟨_, rfl, HW.out, HB3.out.trans (HB4.out.mono HB3.out.size)⟩
end Go.Proofs.Ytmcbnpeihedcaaa
