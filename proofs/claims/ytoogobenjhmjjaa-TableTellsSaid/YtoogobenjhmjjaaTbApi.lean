/- table.Fork, Drop. -/
import Derived.Test.YtoogobenjhmjjaaTbDo
namespace Go.Proofs.Ytoogobenjhmjjaa
open Go Go.RowKit
set_option linter.unusedVariables false

def forkH (cap : Int) (ps : List Pg) (ts : List (List Int)) (t : Int) : Int × Int × List Pg × List (List Int) :=
  if whyH cap ps ts t 0 = 0 then forkS cap ps ts t.toNat else (-1, whyH cap ps ts t 0, ps, ts)
def dropH (cap : Int) (ps : List Pg) (ts : List (List Int)) (t : Int) : Int × Int × List Pg × List (List Int) :=
  if whyH cap ps ts t 0 = 0 then (t, 0, dropS cap ps ts t.toNat) else (-1, whyH cap ps ts t 0, ps, ts)

theorem why_ok {cap : Int} {ps : List Pg} {ts : List (List Int)} {t a : Int} (h : whyH cap ps ts t a = 0) : mayH cap ps ts = true ∧ ∃ k : Nat, t = (k : Int) ∧ ∃ hk : k < ts.length, tabAt ts t = ts[k] ∧ ts[k].length ≠ 0 ∧ 0 ≤ a ∧ a < 16 := by
  unfold whyH at h
  split at h
  · cases h
  · rename_i hm
    split at h
    · cases h
    · rename_i h2
      simp only [not_or] at h2
      obtain ⟨h3, h4, h5, h6, h7⟩ := h2
      obtain ⟨k, rfl⟩ : ∃ k : Nat, t = (k : Int) := ⟨t.toNat, by omega⟩
      have hk : k < ts.length := by omega
      have e : tabAt ts (k : Int) = ts[k] := by unfold tabAt; rw [Int.toNat_natCast, List.getD_eq_getElem?_getD, List.getElem?_eq_getElem hk]; rfl
      exact ⟨by simpa using hm, k, rfl, hk, e, by rw [← e]; exact h5, by omega, by omega⟩

set_option maxRecDepth 100000 in
set_option maxHeartbeats 2000000 in
theorem Fork_any (v : Value) (cap : Int) (ps : List Pg) (ts : List (List Int)) (t : Int) (w : World) (hv : HpV w v cap ps ts) (hn : ps.length ≤ 1000) (hm : ts.length ≤ 1000) (hl : ∀ t ∈ ts, t.length ≤ 1000) :
    Calls Try.prog 19 #[v, .int .i64 t] w (HeapRes cap (forkH cap ps ts t).1 (forkH cap ps ts t).2.1 (forkH cap ps ts t).2.2.1 (forkH cap ps ts t).2.2.2 w) := by
  have cD : ∀ W, HpV W v cap ps ts → Calls Try.prog 43 #[v, .int .i64 t, .func (.func 44) #[] #[]] W (HeapRes cap (forkH cap ps ts t).1 (forkH cap ps ts t).2.1 (forkH cap ps ts t).2.2.1 (forkH cap ps ts t).2.2.2 W) := by
    intro W hW
    unfold forkH
    by_cases h0 : whyH cap ps ts t 0 = 0
    · rw [if_pos h0]
      obtain ⟨_, k, rfl, hk, _⟩ := why_ok h0
      refine do_ok v cap ps _ ts _ k _ _ _ W hW hn hm hl (enters_of Try.func44 (by kernel_rfl) rfl) h0 fun W2 base b hs => ?_
      rw [Int.toNat_natCast]
      exact fork_any base b k cap ps ts W2 hs hk hl hm hn
    · rw [if_neg h0]
      exact do_err v cap ps ts t _ _ W hW hn hm hl rfl (by rw [bne_iff_ne]; exact h0)
  obtain ⟨A, c, A2, c2, rfl, hv⟩ := hv.form
  generalize forkH cap ps ts t = r at *
  obtain ⟨n, er, ps', ts'⟩ := r
  simp only at cD
  have HV := Lib.hid hv
  clear hv hl
  go_enter Try.func19, Try.ntmps19
  have hA0 := ((Below.refl w.heap.size w).alloc (Nat.le_refl _) (.cells #[.int .i64 cap, .slice A ps.length c, .slice A2 ts.length c2] 28)).alloc (by simp) (.cells #[.int .i64 0, .slice none 0 0, .slice none 0 0] 28)
  go_wp2_with fail
  refine (cD _ (HV.out.keep hA0)).mono ?_
  rintro e w3 ⟨v3, rfl, hq, hb3⟩
  obtain ⟨pv, tv, rfl, hq1, hq2⟩ := id hq
  obtain ⟨A3, c3, rfl, _, _⟩ := (Sl.of_own hq1).form
  obtain ⟨A4, c4, rfl, _, _⟩ := hq2.tabs.form
  have hY3 := hA0.trans (hb3.mono (by simp; omega))
  have k3 : Blk w3 (w.heap.size + 1) 28 #[.int .i64 0, .slice none 0 0, .slice none 0 0] := (Blk.new_ _ _ _ _ (by simp)).keep hb3
  have q0 : w3.cell? ⟨w.heap.size + 1, 0, none⟩ = some (.int .i64 0) := by rw [k3.cell]; rfl
  have q1 : w3.cell? ⟨w.heap.size + 1, 1, none⟩ = some (.slice none 0 0) := by rw [k3.cell]; rfl
  have q2 : w3.cell? ⟨w.heap.size + 1, 2, none⟩ = some (.slice none 0 0) := by rw [k3.cell]; rfl
  have f0 : w3.frozen? ⟨w.heap.size + 1, 0, none⟩ = false := k3.free 0
  have f1 : w3.frozen? ⟨w.heap.size + 1, 1, none⟩ = false := k3.free 1
  have f2 : w3.frozen? ⟨w.heap.size + 1, 2, none⟩ = false := k3.free 2
  have HQ := Lib.hid hq
  have HK := Lib.hid k3
  have hz := hb3.size
  simp at hz
  clear k3 hq hq1 hq2 hb3
  go_wp2
  refine bodyPost_ret (v := .tuple #[.agg #[.int .i64 cap, .slice A3 ps'.length c3, .slice A4 ts'.length c4], .int .i64 n, .int .i64 er]) (by simp [results, Try.results19, go_sem, q0, q1, q2]) rfl ⟨_, rfl, ?_, ?_⟩
  · exact (((HQ.out.boxed HK.out 0 _).boxed (HK.out.set_ 0 _) 1 _).boxed ((HK.out.set_ 0 _).set_ 1 _) 2 _).mono (show w.heap.size ≤ _ by simp; omega)
  · exact ((hY3.setCell (by simp) _).setCell (by simp) _).setCell (by simp) _

def HeapRes2 (cap : Int) (er : Int) (ps : List Pg) (ts : List (List Int)) (w : World) (e : Ending) (w' : World) : Prop :=
  ∃ v', e = .returned (.tuple #[v', .int .i64 er]) ∧ HpQ w' w.heap.size v' cap ps ts ∧ Below w.heap.size w w'

set_option maxRecDepth 100000 in
set_option maxHeartbeats 2000000 in
theorem Drop_any (v : Value) (cap : Int) (ps : List Pg) (ts : List (List Int)) (t : Int) (w : World) (hv : HpV w v cap ps ts) (hn : ps.length ≤ 1000) (hm : ts.length ≤ 1000) (hl : ∀ t ∈ ts, t.length ≤ 1000) :
    Calls Try.prog 21 #[v, .int .i64 t] w (HeapRes2 cap (dropH cap ps ts t).2.1 (dropH cap ps ts t).2.2.1 (dropH cap ps ts t).2.2.2 w) := by
  have cD : ∀ W, HpV W v cap ps ts → Calls Try.prog 43 #[v, .int .i64 t, .func (.func 46) #[] #[]] W (HeapRes cap (dropH cap ps ts t).1 (dropH cap ps ts t).2.1 (dropH cap ps ts t).2.2.1 (dropH cap ps ts t).2.2.2 W) := by
    intro W hW
    unfold dropH
    by_cases h0 : whyH cap ps ts t 0 = 0
    · rw [if_pos h0]
      obtain ⟨_, k, rfl, hk, _⟩ := why_ok h0
      refine do_ok v cap ps _ ts _ k _ _ _ W hW hn hm hl (enters_of Try.func46 (by kernel_rfl) rfl) h0 fun W2 base b hs => ?_
      rw [Int.toNat_natCast]
      exact drop_any base b k cap ps ts W2 hs hk hl hn
    · rw [if_neg h0]
      exact do_err v cap ps ts t _ _ W hW hn hm hl rfl (by rw [bne_iff_ne]; exact h0)
  obtain ⟨A, c, A2, c2, rfl, hv⟩ := hv.form
  generalize dropH cap ps ts t = r at *
  obtain ⟨n, er, ps', ts'⟩ := r
  simp only at cD
  have HV := Lib.hid hv
  clear hv hl
  go_enter Try.func21, Try.ntmps21
  have hA0 := ((Below.refl w.heap.size w).alloc (Nat.le_refl _) (.cells #[.int .i64 cap, .slice A ps.length c, .slice A2 ts.length c2] 28)).alloc (by simp) (.cells #[.int .i64 0, .slice none 0 0, .slice none 0 0] 28)
  go_wp2_with fail
  refine (cD _ (HV.out.keep hA0)).mono ?_
  rintro e w3 ⟨v3, rfl, hq, hb3⟩
  obtain ⟨pv, tv, rfl, hq1, hq2⟩ := id hq
  obtain ⟨A3, c3, rfl, _, _⟩ := (Sl.of_own hq1).form
  obtain ⟨A4, c4, rfl, _, _⟩ := hq2.tabs.form
  have hY3 := hA0.trans (hb3.mono (by simp; omega))
  have k3 : Blk w3 (w.heap.size + 1) 28 #[.int .i64 0, .slice none 0 0, .slice none 0 0] := (Blk.new_ _ _ _ _ (by simp)).keep hb3
  have q0 : w3.cell? ⟨w.heap.size + 1, 0, none⟩ = some (.int .i64 0) := by rw [k3.cell]; rfl
  have q1 : w3.cell? ⟨w.heap.size + 1, 1, none⟩ = some (.slice none 0 0) := by rw [k3.cell]; rfl
  have q2 : w3.cell? ⟨w.heap.size + 1, 2, none⟩ = some (.slice none 0 0) := by rw [k3.cell]; rfl
  have f0 : w3.frozen? ⟨w.heap.size + 1, 0, none⟩ = false := k3.free 0
  have f1 : w3.frozen? ⟨w.heap.size + 1, 1, none⟩ = false := k3.free 1
  have f2 : w3.frozen? ⟨w.heap.size + 1, 2, none⟩ = false := k3.free 2
  have HQ := Lib.hid hq
  have HK := Lib.hid k3
  have hz := hb3.size
  simp at hz
  have hz' : w.heap.size + 1 < w3.heap.size := by omega
  clear k3 hq hq1 hq2 hb3
  go_wp2
  refine bodyPost_ret (v := .tuple #[.agg #[.int .i64 cap, .slice A3 ps'.length c3, .slice A4 ts'.length c4], .int .i64 er]) (by simp [results, Try.results21, go_sem, q0, q1, q2, hz']) rfl ⟨_, rfl, ?_, ?_⟩
  · have h1 := (((HQ.out.boxed HK.out 0 (.int .i64 cap)).boxed (HK.out.set_ 0 _) 1 (.slice A3 ps'.length c3)).boxed ((HK.out.set_ 0 _).set_ 1 _) 2 (.slice A4 ts'.length c4)).mono (show w.heap.size ≤ _ by simp; omega)
    exact h1.keep ((Below.refl _ _).alloc (Nat.le_refl _) _)
  · have hY4 := ((hY3.setCell (p := ⟨w.heap.size + 1, 0, none⟩) (by simp) (.int .i64 cap)).setCell (p := ⟨w.heap.size + 1, 1, none⟩) (by simp) (.slice A3 ps'.length c3)).setCell (p := ⟨w.heap.size + 1, 2, none⟩) (by simp) (.slice A4 ts'.length c4)
    exact hY4.alloc (by simp; omega) _
end Go.Proofs.Ytoogobenjhmjjaa
