/- table.Read. -/
import Derived.Test.YtoogobenjhmjjaaTbApi
namespace Go.Proofs.Ytoogobenjhmjjaa
open Go Go.RowKit
set_option linter.unusedVariables false

/-- A word of a page. -/
def wget (x : Pg) : Nat → Int
  | 0 => x.a
  | 1 => x.b
  | 2 => x.c
  | _ => x.d
theorem wget_enc (x : Pg) (n : Nat) (h : n < 4) : (encP x)[1 + n]? = some (.int .i64 (wget x n)) := by
  match n, h with
  | 0, _ => rfl
  | 1, _ => rfl
  | 2, _ => rfl
  | 3, _ => rfl

/-- The page of a word. -/
def plAt (ts : List (List Int)) (t a : Int) : Int := (tabAt ts t).getD (a.toNat / 4) 0
/-- What Read comes to: the word, the error. -/
def readH (cap : Int) (ps : List Pg) (ts : List (List Int)) (t a : Int) : Int × Int :=
  if whyH cap ps ts t a = 0 then (if plAt ts t a = -1 then (0, 0) else (wget (pgAt ps (plAt ts t a)) (a.toNat % 4), 0)) else (0, whyH cap ps ts t a)

theorem may_tab {cap : Int} {ps : List Pg} {ts : List (List Int)} (h : mayH cap ps ts = true) (k : Nat) (hk : k < ts.length) : okTb ps.length ts[k] = true := by
  unfold mayH at h
  simp only [Bool.and_eq_true, List.all_eq_true] at h
  exact h.2.2.1 _ (List.getElem_mem hk)
theorem okTb_pl {n : Nat} {t : List Int} (h : okTb n t = true) (j : Nat) (hj : j < t.length) : t[j] = -1 ∨ ∃ q : Nat, t[j] = (q : Int) ∧ q < n := by
  unfold okTb at h
  rw [Bool.and_eq_true, List.all_eq_true] at h
  have := h.2 _ (List.getElem_mem hj)
  unfold okPl at this
  simp at this
  rcases this with h | h
  · exact .inl h
  · exact .inr ⟨t[j].toNat, by omega, by omega⟩

set_option maxRecDepth 100000 in
set_option maxHeartbeats 4000000 in
theorem Read_any (v : Value) (cap : Int) (ps : List Pg) (ts : List (List Int)) (t a : Int) (w : World) (hv : HpV w v cap ps ts) (hn : ps.length ≤ 1000) :
    Calls Try.prog 12 #[v, .int .i64 t, .int .i64 a] w fun e w' => e = .returned (.tuple #[.int .i64 (readH cap ps ts t a).1, .int .i64 (readH cap ps ts t a).2]) ∧ Below w.heap.size w w' := by
  obtain ⟨A, c, A2, c2, rfl, hv⟩ := hv.form
  have hA0 : Below w.heap.size w (w.alloc (.cells #[.int .i64 cap, .slice A ps.length c, .slice A2 ts.length c2] 28)) := (Below.refl w.heap.size w).alloc (Nat.le_refl _) _
  have cW := twhy_any _ cap ps ts t a _ (hv.keep hA0) hn
  by_cases h0 : whyH cap ps ts t a = 0
  · obtain ⟨hm, k, rfl, hk, htab, hne, ha0, ha1⟩ := why_ok h0
    have hok := may_tab hm k hk
    have h4 : ts[k].length = 4 := by have := okTb_len hok; omega
    obtain ⟨n, rfl⟩ : ∃ n : Nat, a = (n : Int) := ⟨a.toNat, by omega⟩
    have hn4 : n / 4 < ts[k].length := by omega
    have hpl : plAt ts (k : Int) (n : Int) = ts[k][n / 4] := by unfold plAt; rw [htab, Int.toNat_natCast, List.getD_eq_getElem?_getD, List.getElem?_eq_getElem hn4]; rfl
    obtain ⟨b, o, rfl, hb, hel⟩ := hv.tabs.elem (by omega)
    obtain ⟨Ak, ck, e0, hsl⟩ := hel k hk
    obtain ⟨b2, o2, rfl, hb2, hel2⟩ := ints_elem hsl (by omega)
    have e1 := hel2 (n / 4) hn4
    rw [h4] at e0
    have hp := okTb_pl hok (n / 4) hn4
    have HRD := Lib.hid (show readH cap ps ts (k : Int) (n : Int) = if plAt ts (k : Int) (n : Int) = -1 then (0, 0) else (wget (pgAt ps (plAt ts (k : Int) (n : Int))) (n % 4), 0) from by unfold readH; rw [if_pos h0, Int.toNat_natCast])
    rw [hpl] at HRD
    generalize ts[k][n / 4] = p at *
    have hk0 : (0 : Int) ≤ (k : Int) := by omega
    have hk1 : (k : Int) < (ts.length : Int) := by omega
    have hd0 : (0 : Int) ≤ (n : Int) / 4 := by omega
    have hd1 : (n : Int) / 4 < 4 := by omega
    have hm0 : (0 : Int) ≤ (n : Int) % 4 := by omega
    have hm1 : (n : Int) % 4 < 4 := by omega
    rw [h0] at cW
    have HE := Lib.hid (fun h => Sl.pos encP encP_len hv.pages h)
    have hps : ps.length ≤ 1000 := hn
    clear hel hel2 hsl hok hm h4 hn4 hpl htab hne h0 hn
    rcases hp with rfl | ⟨q, rfl, hq⟩
    · have HR := Lib.hid (show readH cap ps ts (k : Int) (n : Int) = (0, 0) from by rw [HRD.out, if_pos rfl])
      clear HRD HE hv
      go_enter Try.func12, Try.ntmps12
      go_wp2_with fail
      refine cW.mono ?_
      rintro e w1 ⟨rfl, hb1⟩
      have hY1 := hA0.trans (hb1.mono (by simp))
      have k0 : Blk w1 w.heap.size 28 #[.int .i64 cap, .slice A ps.length c, .slice (some ⟨b, o, none⟩) ts.length c2] := (Blk.new_ w _ _ _ rfl).keep hb1
      have p2 : w1.cell? ⟨w.heap.size, 2, none⟩ = some (.slice (some ⟨b, o, none⟩) ts.length c2) := by rw [k0.cell]; rfl
      have x0 := (hY1.cell (p := ⟨b, o + k, none⟩) hb).trans e0
      have x1 := (hY1.cell (p := ⟨b2, o2 + n / 4, none⟩) hb2).trans e1
      clear k0 e0 e1
      go_wp2
      go_ret2
      exact ⟨by rw [HR.out]; rfl, hY1⟩
    · have hq1 : ((q : Int) == -1) = false := by rw [beq_eq_false_iff_ne]; omega
      have HR := Lib.hid (show readH cap ps ts (k : Int) (n : Int) = (wget ps[q] (n % 4), 0) from by
        rw [HRD.out, if_neg (by omega)]
        unfold pgAt
        rw [Int.toNat_natCast, List.getD_eq_getElem?_getD, List.getElem?_eq_getElem hq]; rfl)
      obtain ⟨bp, op, rfl, hbp, help⟩ := HE.out (by omega)
      have ep := help w (Below.refl _ _) q hq (1 + n % 4) _ (wget_enc _ _ (by omega))
      have hq0 : (0 : Int) ≤ (q : Int) := by omega
      have hq2 : (q : Int) < (ps.length : Int) := by omega
      generalize wget ps[q] (n % 4) = u at *
      clear HRD HE hv help hq
      go_enter Try.func12, Try.ntmps12
      go_wp2_with fail
      refine cW.mono ?_
      rintro e w1 ⟨rfl, hb1⟩
      have hY1 := hA0.trans (hb1.mono (by simp))
      have k0 : Blk w1 w.heap.size 28 #[.int .i64 cap, .slice (some ⟨bp, op, none⟩) ps.length c, .slice (some ⟨b, o, none⟩) ts.length c2] := (Blk.new_ w _ _ _ rfl).keep hb1
      have p1 : w1.cell? ⟨w.heap.size, 1, none⟩ = some (.slice (some ⟨bp, op, none⟩) ps.length c) := by rw [k0.cell]; rfl
      have p2 : w1.cell? ⟨w.heap.size, 2, none⟩ = some (.slice (some ⟨b, o, none⟩) ts.length c2) := by rw [k0.cell]; rfl
      have x0 := (hY1.cell (p := ⟨b, o + k, none⟩) hb).trans e0
      have x1 := (hY1.cell (p := ⟨b2, o2 + n / 4, none⟩) hb2).trans e1
      have ep' : w.cell? ⟨bp, op + q * 5 + 1 + n % 4, none⟩ = some (.int .i64 u) := by
        rw [show op + q * 5 + 1 + n % 4 = op + q * 5 + (1 + n % 4) from by omega]; exact ep
      have xp := (hY1.cell (p := ⟨bp, op + q * 5 + 1 + n % 4, none⟩) hbp).trans ep'
      clear k0 e0 e1 ep ep'
      go_wp2
      go_ret2
      exact ⟨by rw [HR.out]; rfl, hY1⟩
  · have HR := Lib.hid (show readH cap ps ts t a = (0, whyH cap ps ts t a) from by unfold readH; rw [if_neg h0])
    generalize whyH cap ps ts t a = er at *
    have h0' : (er != 0) = true := by rw [bne_iff_ne]; exact h0
    clear hv h0
    go_enter Try.func12, Try.ntmps12
    go_wp2_with fail
    refine cW.mono ?_
    rintro e w1 ⟨rfl, hb1⟩
    go_wp2
    go_ret2
    exact ⟨by rw [HR.out]; rfl, hA0.trans (hb1.mono (by simp))⟩
end Go.Proofs.Ytoogobenjhmjjaa
