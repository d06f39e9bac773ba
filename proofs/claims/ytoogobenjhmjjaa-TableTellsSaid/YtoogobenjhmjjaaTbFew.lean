/- Few. -/
import Derived.Test.YtoogobenjhmjjaaTbNew
namespace Go.Proofs.Ytoogobenjhmjjaa
open Go Go.RowKit
set_option linter.unusedVariables false

def fewH (ps : List Pg) (ts : List (List Int)) : Bool := ts.all (fun t => decide (t.length ≤ 10)) && (decide (ps.length ≤ 20) && decide (ts.length ≤ 10))
theorem few_iff {ps : List Pg} {ts : List (List Int)} : fewH ps ts = true ↔ (∀ t ∈ ts, t.length ≤ 10) ∧ ps.length ≤ 20 ∧ ts.length ≤ 10 := by
  unfold fewH
  simp [List.all_eq_true]

set_option maxRecDepth 100000 in
set_option maxHeartbeats 2000000 in
theorem few_any (v : Value) (cap : Int) (ps : List Pg) (ts : List (List Int)) (w : World) (hv : HpV w v cap ps ts) :
    Calls Try.prog 14 #[v] w fun e w' => e = .returned (.bool (fewH ps ts)) ∧ Below w.heap.size w w' := by
  obtain ⟨A, c, A2, c2, rfl, hv⟩ := hv.form
  have hA0 := (Below.refl w.heap.size w).alloc (Nat.le_refl _) (.cells #[.int .i64 cap, .slice A ps.length c, .slice A2 ts.length c2] 28)
  have k0 := Blk.new_ w 28 #[.int .i64 cap, .slice A ps.length c, .slice A2 ts.length c2] _ rfl
  obtain ⟨n, hn⟩ : ∃ n, n = ts.length := ⟨_, rfl⟩
  obtain ⟨np, hnp⟩ : ∃ n, n = ps.length := ⟨_, rfl⟩
  have hfew : fewH ps ts = (ts.all (fun t => decide (t.length ≤ 10)) && (decide ((np : Int) ≤ 20) && decide ((n : Int) ≤ 10))) := by
    unfold fewH; rw [hn, hnp]; congr 1; rw [show decide ((ps.length : Int) ≤ 20) = decide (ps.length ≤ 20) from by simp; omega, show decide ((ts.length : Int) ≤ 10) = decide (ts.length ≤ 10) from by simp; omega]
  rw [hfew]
  clear hfew
  rw [← hn, ← hnp] at hA0 k0 ⊢
  have hel := fun (h : 0 < n) => (hv.keep hA0).tabs.elem (by omega)
  have hmx : n ≤ maxLen := by
    obtain ⟨_, _, e, h1, h2⟩ := hv.tabs.form
    omega
  unfold maxLen at hmx
  have HN := Lib.hid hn
  have HEL := Lib.hid hel
  have HB := Lib.hid hA0
  clear hn hnp hv hel hA0
  go_enter Try.func14, Try.ntmps14
  go_wp2_with fail
  obtain ⟨w1, hw1⟩ : ∃ x, w.alloc (.cells #[.int .i64 cap, .slice A np c, .slice A2 n c2] 28) = x := ⟨_, rfl⟩
  rw [hw1] at k0 HB HEL ⊢
  have p1 : w1.cell? ⟨w.heap.size, 1, none⟩ = some (.slice A np c) := by rw [k0.cell]; rfl
  have p2 : w1.cell? ⟨w.heap.size, 2, none⟩ = some (.slice A2 n c2) := by rw [k0.cell]; rfl
  clear hw1 k0
  go_loopg [3] n (fun gg s3 wr => ∃ kk : Nat, kk ≤ n ∧ n - kk ≤ gg ∧ s3 = .int .i64 kk ∧ w1 = wr ∧ Hid (∀ j (h : j < ts.length), j < kk → ts[j].length ≤ 10))
  case atStart => exact ⟨0, by omega, by omega, rfl, rfl, fun j h h2 => absurd h2 (by omega)⟩
  case round =>
    obtain ⟨k, hk, hg, rfl, rfl, HA⟩ := hrel
    by_cases hlt : k < n
    · have hltz : (k : Int) < (n : Int) := by omega
      have hk0 : (0 : Int) ≤ (k : Int) := by omega
      obtain ⟨b, o, rfl, hb, hel⟩ := HEL.out (by omega)
      have hk' : k < ts.length := by rw [← HN.out]; exact hlt
      obtain ⟨Ak, ck, e0, -⟩ := hel k hk'
      have HT := Lib.hid (show ∃ m, ts[k].length = m from ⟨_, rfl⟩)
      by_cases h10 : ts[k].length ≤ 10
      · have h10' : ¬ (10 : Int) < (ts[k].length : Int) := by omega
        have HA2 : Hid (∀ j (h : j < ts.length), j < k + 1 → ts[j].length ≤ 10) := fun j h h2 => by
          by_cases e : j = k
          · subst e; exact h10
          · exact HA.out j h (by omega)
        clear h10 hel
        generalize ts[k].length = m at *
        go_wp2
        go_roundg (n - (k + 1))
        case measure => omega
        case rel => exact ⟨k + 1, by omega, by omega, by go_num, rfl, HA2⟩
      · have h10' : (10 : Int) < (ts[k].length : Int) := by omega
        have HF : Hid ((ts.all (fun t => decide (t.length ≤ 10))) = false) := by
          refine List.all_eq_false.2 ⟨ts[k], List.getElem_mem hk', by simpa using h10⟩
        clear h10 hel
        generalize ts[k].length = m at *
        go_wp2
        go_ret
        exact ⟨by rw [HF.out]; rfl, HB.out⟩
    · obtain rfl : n = k := by omega
      have hltz : ¬ (n : Int) < (n : Int) := by omega
      have HF : Hid ((ts.all (fun t => decide (t.length ≤ 10))) = true) := by
        refine List.all_eq_true.2 fun t ht => ?_
        obtain ⟨j, hj, rfl⟩ := List.getElem_of_mem ht
        have hn := HN.out
        have := HA.out j hj (by omega)
        simpa using this
      by_cases q1 : (np : Int) ≤ 20
      · by_cases q2 : (n : Int) ≤ 10
        · go_wp2
          go_ret
          exact ⟨by rw [HF.out]; first | (simp; done) | (simp; omega), HB.out⟩
        · go_wp2
          go_ret
          exact ⟨by rw [HF.out]; first | (simp; done) | (simp; omega), HB.out⟩
      · go_wp2
        go_ret
        exact ⟨by rw [HF.out]; first | (simp; done) | (simp; omega), HB.out⟩
end Go.Proofs.Ytoogobenjhmjjaa
