/- table.May, all ways; Same; why; Read. -/
import Derived.Test.YtoogobenjhmjjaaTbMay
import Derived.Deep.QuietTactic
import Derived.BigQuiet
namespace Go.Proofs.Ytoogobenjhmjjaa
open Go Go.RowKit
set_option linter.unusedVariables false

set_option maxRecDepth 100000 in
set_option maxHeartbeats 1000000 in
theorem tmay_any (v : Value) (cap : Int) (ps : List Pg) (ts : List (List Int)) (w : World) (hv : HpV w v cap ps ts) (hps : ps.length ≤ 1000) :
    Calls Try.prog 13 #[v] w fun e w' => e = .returned (.bool (mayH cap ps ts)) ∧ Below w.heap.size w w' := by
  obtain ⟨A, c, A2, c2, rfl, hv⟩ := hv.form
  have hb0 : Below w.heap.size w ((w.alloc (.cells #[.int .i64 cap, .slice A ps.length c, .slice A2 ts.length c2] 28)).alloc (.cells #[.bool false] 4)) := ((Below.refl w.heap.size w).alloc (Nat.le_refl _) _).alloc (by simp) _
  have cM := may_any cap (.slice A ps.length c) ps _ (hv.pages.below hb0)
  cases hm : mayP cap ps with
  | false =>
    rw [hm] at cM
    rw [show mayH cap ps ts = false from by unfold mayH; rw [hm]; rfl]
    clear hm hv
    refine (callsIn_wide (n := 6)).1 ?_
    refine callsIn_of_wp_marks Try.func13 rfl trivial ?_ rfl
    simp only [Try.ntmps13, List.size_toArray, List.length_cons, List.length_nil, Nat.reduceAdd, Nat.reduceSub, Array.replicate_succ, Array.replicate_zero, List.push_toArray, List.append_toArray, List.nil_append, List.cons_append]
    gi_wp2_with (refine ⟨trivial, ?_⟩; gi_at_call 29; refine (callsIn_wide.2 cM).mono ?_; rintro e w1 ⟨rfl, hb1⟩; have k1 : Blk w1 (w.heap.size + 1) 4 #[.bool false] := (Blk.new_ _ _ _ _ (by simp)).keep hb1; have p0 : w1.cell? ⟨w.heap.size + 1, 0, none⟩ = some (.bool false) := (by rw [k1.cell]; rfl); have pf : w1.frozen? ⟨w.heap.size + 1, 0, none⟩ = false := k1.free 0)
    have hc : (w1.setCell ⟨w.heap.size + 1, 0, none⟩ (.bool false)).cell? ⟨w.heap.size + 1, 0, none⟩ = some (.bool false) := by rw [(k1.set_ 0 _).cell]; rfl
    exact ⟨.bool false, by simp [results, Try.results13, go_sem, hc], rfl, (hb0.trans (hb1.mono (by simp; omega))).setCell (by simp) _⟩
  | true =>
    by_cases h5 : ts.length ≤ 5
    · exact tmay_main A A2 c c2 cap ps ts w hv hm h5 hps
    · rw [hm] at cM
      rw [show mayH cap ps ts = false from by unfold mayH; rw [hm, decide_eq_false h5]; rfl]
      have h5' : (5 : Int) < (ts.length : Int) := by omega
      clear hm hv
      refine (callsIn_wide (n := 6)).1 ?_
      refine callsIn_of_wp_marks Try.func13 rfl trivial ?_ rfl
      simp only [Try.ntmps13, List.size_toArray, List.length_cons, List.length_nil, Nat.reduceAdd, Nat.reduceSub, Array.replicate_succ, Array.replicate_zero, List.push_toArray, List.append_toArray, List.nil_append, List.cons_append]
      gi_wp2_with (refine ⟨trivial, ?_⟩; gi_at_call 29; refine (callsIn_wide.2 cM).mono ?_; rintro e w1 ⟨rfl, hb1⟩; have k0 : Blk w1 w.heap.size 28 #[.int .i64 cap, .slice A ps.length c, .slice A2 ts.length c2] := ((Blk.new_ w _ _ _ rfl).alloc _).keep hb1; have p2 : w1.cell? ⟨w.heap.size, 2, none⟩ = some (.slice A2 ts.length c2) := (by rw [k0.cell]; rfl); have k1 : Blk w1 (w.heap.size + 1) 4 #[.bool false] := (Blk.new_ _ _ _ _ (by simp)).keep hb1; have p0 : w1.cell? ⟨w.heap.size + 1, 0, none⟩ = some (.bool false) := (by rw [k1.cell]; rfl); have pf : w1.frozen? ⟨w.heap.size + 1, 0, none⟩ = false := k1.free 0)
      have hc : (w1.setCell ⟨w.heap.size + 1, 0, none⟩ (.bool false)).cell? ⟨w.heap.size + 1, 0, none⟩ = some (.bool false) := by rw [(k1.set_ 0 _).cell]; rfl
      exact ⟨.bool false, by simp [results, Try.results13, go_sem, hc], rfl, (hb0.trans (hb1.mono (by simp; omega))).setCell (by simp) _⟩
end Go.Proofs.Ytoogobenjhmjjaa
