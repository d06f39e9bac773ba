/- The plain law of SerialSteps. -/
import Derived.Test.YtmcbnpeihedcaaaSrFew
namespace Go.Proofs.Ytmcbnpeihedcaaa
open Go Go.RowKit
set_option linter.unusedVariables false

def pick1 (i : Int) (v : Int) (p : Pr) : Int := if p.at_ = i then p.v else v
/-- The value of word i behind one try's pairs, if the try is done at that version. -/
def scan1 (i ver : Int) (v : Int) (x : Rx) : Int := if x.en = 0 ∧ x.wv = ver then x.W.foldl (pick1 i) v else v
def scan2 (i ver : Int) (v : Int) (en wv : Int) (W : List Pr) : Int := if en = 0 ∧ wv = ver then W.foldl (pick1 i) v else v
theorem scan12 (i ver v : Int) (x : Rx) : scan1 i ver v x = scan2 i ver v x.en x.wv x.W := rfl
theorem takeW_next : ∀ (l : List Rx) (k : Int), Rise Rx.wv l → l.takeWhile (fun x => decide (x.wv ≤ k + 1)) = l.takeWhile (fun x => decide (x.wv ≤ k)) ++ l.filter (fun x => x.wv == k + 1)
  | [], k, _ => rfl
  | x :: l, k, h => by
    unfold Rise at h
    rw [List.pairwise_cons] at h
    have ih := takeW_next l k h.2
    rw [List.takeWhile_cons, List.takeWhile_cons, List.filter_cons]
    by_cases h1 : x.wv ≤ k
    · have e1 : decide (x.wv ≤ k + 1) = true := decide_eq_true (by omega)
      have e2 : decide (x.wv ≤ k) = true := decide_eq_true h1
      have e3 : (x.wv == k + 1) = false := by simp; omega
      rw [e1, e2, e3, ih]; rfl
    · have e2 : decide (x.wv ≤ k) = false := decide_eq_false h1
      have hnil : l.takeWhile (fun x => decide (x.wv ≤ k)) = [] := by
        cases l with
        | nil => rfl
        | cons y l =>
          have hy := h.1 y (by simp)
          have e5 : decide (y.wv ≤ k) = false := decide_eq_false (by omega)
          rw [List.takeWhile_cons, e5]; rfl
      by_cases h2 : x.wv = k + 1
      · have e1 : decide (x.wv ≤ k + 1) = true := decide_eq_true (by omega)
        have e3 : (x.wv == k + 1) = true := by simp; omega
        rw [e1, e2, e3, ih, hnil]; rfl
      · have e1 : decide (x.wv ≤ k + 1) = false := decide_eq_false (by omega)
        have e3 : (x.wv == k + 1) = false := by simp; omega
        rw [e1, e2, e3]
        simp only [Bool.false_eq_true, if_false, List.nil_append]
        symm
        rw [List.filter_eq_nil_iff]
        intro y hy
        have := h.1 y hy
        simp
        omega
theorem putP_at (n i : Nat) (hi : i < n) (o : List Int) (p : Pr) (v0 : Int) (h0 : o[i]? = some v0) : (putP n o p)[i]? = some (pick1 i v0 p) := by
  unfold putP pick1
  by_cases hc : 0 ≤ p.at_ ∧ p.at_ < (n : Int)
  · rw [if_pos hc, List.getElem?_set]
    by_cases e : p.at_.toNat = i
    · rw [if_pos e, if_pos (by rw [e]; exact (List.getElem?_eq_some_iff.1 h0).1), if_pos (by omega)]
    · rw [if_neg e, if_neg (by omega), h0]
  · rw [if_neg hc, if_neg (by omega), h0]
theorem applyW_at (n i : Nat) (hi : i < n) : ∀ (W : List Pr) (o : List Int) (v0 : Int), o[i]? = some v0 → (applyW n o W)[i]? = some (W.foldl (pick1 i) v0)
  | [], o, v0, h => h
  | p :: W, o, v0, h => applyW_at n i hi W (putP n o p) _ (putP_at n i hi o p v0 h)
theorem fold_at (n i : Nat) (hi : i < n) : ∀ (b : List Rx) (o : List Int) (v0 : Int), o[i]? = some v0 → (b.foldl (fun o x => applyW n o x.W) o)[i]? = some (b.foldl (fun v x => x.W.foldl (pick1 i) v) v0)
  | [], o, v0, h => h
  | x :: b, o, v0, h => fold_at n i hi b _ _ (applyW_at n i hi x.W o v0 h)
theorem scan_filter (i ver : Int) : ∀ (h : List Rx) (v : Int), ((h.filter writesX).filter (fun x => x.wv == ver)).foldl (fun v x => x.W.foldl (pick1 i) v) v = h.foldl (scan1 i ver) v
  | [], v => rfl
  | x :: h, v => by
    rw [List.foldl_cons, List.filter_cons]
    have ih := scan_filter i ver h
    by_cases hw : writesX x = true
    · rw [if_pos hw, List.filter_cons]
      have hw' := hw
      unfold writesX at hw'
      simp at hw'
      by_cases hv : x.wv = ver
      · rw [if_pos (by simpa using hv), List.foldl_cons, ih]
        unfold scan1
        rw [if_pos ⟨hw'.1, hv⟩]
      · rw [if_neg (by simpa using hv), ih]
        unfold scan1
        rw [if_neg (fun h => hv h.2)]
    · rw [if_neg hw, ih]
      congr 1
      unfold scan1
      split
      · rename_i h1
        have : x.W = [] := by
          unfold writesX at hw
          simp [h1.1] at hw
          exact hw
        rw [this]; rfl
      · rfl
theorem steps_law (n i : Nat) (hi : i < n) (h : List Rx) (ver : Int) :
    (foldS n ((wsOf h).takeWhile (fun x => decide (x.wv ≤ ver + 1))))[i]? = some (h.foldl (scan1 i (ver + 1)) ((foldS n ((wsOf h).takeWhile (fun x => decide (x.wv ≤ ver))))[i]'(by rw [foldS_len]; exact hi))) := by
  have hr : Rise Rx.wv (wsOf h) := srtK_rise _
  have hs := srtK_stab (key := Rx.wv) (h.filter writesX) (ver + 1)
  rw [takeW_next _ _ hr, show (wsOf h).filter (fun x => x.wv == ver + 1) = (h.filter writesX).filter (fun x => x.wv == ver + 1) from hs, ← scan_filter]
  have : ∀ a b : List Rx, foldS n (a ++ b) = b.foldl (fun o x => applyW n o x.W) (foldS n a) := fun a b => by unfold foldS; rw [List.foldl_append]
  rw [this]
  exact fold_at n i hi _ _ _ (List.getElem?_eq_getElem _)
end Go.Proofs.Ytmcbnpeihedcaaa
