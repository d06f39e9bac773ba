/- table.pages: the iterator over a table's pages. -/
import Derived.Test.YtoogobenjhmjjaaTbWords
import Derived.RangeFuncNested
import Derived.RangeFuncBound
import Derived.RangeFuncCalls
import Derived.RangeFuncLeaves
import Derived.Shelf.Abstract
import Derived.Shelf.RegionOpen
import Derived.WalkKit
import Derived.OwnWalkIn
import Derived.TacticsInMore
import Derived.LoopNIn
import Derived.LoopIn
namespace Go.Proofs.Ytoogobenjhmjjaa
open Go Go.RowKit Go.Shelf
set_option linter.unusedVariables false
attribute [local go_sem] Oper.semAt_some

/-- The pages of the first k places, with their places. -/
def prsK (t : List Int) : Nat → List (Nat × Int)
  | 0 => []
  | k + 1 => if t.getD k 0 = -1 then prsK t k else prsK t k ++ [(k, t.getD k 0)]
def prs (t : List Int) : List (Nat × Int) := prsK t t.length
theorem prsK_len (t : List Int) : ∀ k, (prsK t k).length ≤ k
  | 0 => Nat.le_refl _
  | k + 1 => by
    have := prsK_len t k
    unfold prsK; split
    · omega
    · rw [List.length_append]; simp; omega

set_option maxRecDepth 100000 in
set_option maxHeartbeats 2000000 in
theorem pages1_in (F : Fence) (n : Nat) (hF : F.fn 55) (hro : F.round = none) (hn : 1 ≤ n) (l Bs n₀ b off cap : Nat) (t : List Int) (hlen : t.length ≤ 1000) (hb : b < n₀) (J Jx : List (Nat × Int) → World → Prop)
    (hY : ∀ pre x W, J pre W → pre.length < t.length → YieldAt F (n - 1) Try.prog l #[.int .i64 (x.1 : Int), .int .i64 x.2] W fun e W' =>
      (e = .returned (.bool true) ∧ J (pre ++ [x]) W' ∧ Below n₀ W W') ∨ (e = .returned (.bool false) ∧ Jx (pre ++ [x]) W'))
    (W : World) (hBs : W.cell? ⟨Bs, 0, none⟩ = some (.slice (some ⟨b, off, none⟩) t.length cap)) (hc : ∀ j, j < t.length → W.cell? ⟨b, off + j, none⟩ = some (.int .i64 (t.getD j 0))) (h0 : J [] W) :
    CallsIn F n Try.prog 55 #[.func (.yield l) #[] #[], .pointer (some ⟨Bs, 0, none⟩)] W fun e W' => (∃ v, e = .returned v) ∧
      ((∃ ys, ys = prs t ∧ J ys W') ∨ (∃ pre, (∃ k, k < t.length ∧ t.getD k 0 ≠ -1 ∧ pre = prsK t (k + 1)) ∧ Jx pre W')) := by
  obtain ⟨len, hlen'⟩ : ∃ len, t.length = len := ⟨_, rfl⟩
  have HLEN := Lib.hid hlen'
  rw [hlen'] at hBs hc hY hlen
  clear hlen'
  refine callsIn_of_wp Try.func55 rfl hF ?_ hro
  simp only [Try.ntmps55, List.size_toArray, List.length_cons, List.length_nil, Nat.reduceAdd, Nat.reduceSub, Array.replicate_succ, Array.replicate_zero, List.push_toArray, List.append_toArray, List.nil_append, List.cons_append]
  gi_wp2
  gi_loopw [7] (fun i wr => ∃ k : Nat, k ≤ len ∧ i = .int .i64 k ∧ J (prsK t k) wr ∧ Below n₀ W wr)
    (fun i _ => len - (intOf i).toNat)
  case atStart => exact ⟨0, Nat.zero_le _, rfl, h0, Below.refl _ _⟩
  case round =>
    obtain ⟨k, hk, rfl, hJs, hnx⟩ := hrel
    by_cases hlt : k < len
    · have hcx : wr.cell? ⟨b, off + k, none⟩ = some (.int .i64 (t.getD k 0)) := (hnx.cell (p := ⟨b, off + k, none⟩) hb).trans (hc k hlt)
      by_cases h1 : t.getD k 0 = -1
      · have HP := Lib.hid (show prsK t (k + 1) = prsK t k from by show (if _ then _ else _) = _; rw [if_pos h1])
        rw [h1] at hcx
        clear h1 hY hc
        gi_wp2
        refine ⟨fun _ h => (by cases h), ?_⟩
        gi_wp2
        go_roundw
        case rel => exact ⟨k + 1, by omega, by simp, by rw [HP.out]; exact hJs, hnx⟩
        case measure => simp [intOf]; omega
      · have h1' : ((t.getD k 0) != (-1 : Int)) = true := by simpa using h1
        have HP := Lib.hid (show prsK t (k + 1) = prsK t k ++ [(k, t.getD k 0)] from by show (if _ then _ else _) = _; rw [if_neg h1])
        have HNE := Lib.hid h1
        clear h1
        obtain ⟨x, hx⟩ : ∃ x, t.getD k 0 = x := ⟨_, rfl⟩
        rw [hx] at hcx h1'
        obtain ⟨fn, tmps, assign, body, hy, hR⟩ := hY _ (k, x) wr hJs (by have := prsK_len t k; omega)
        dsimp only at hy
        have HX := Lib.hid hx
        clear hx hY
        gi_wp2
        refine hR.mono ?_
        rintro e W3 (⟨rfl, hJ3, hk3⟩ | ⟨rfl, hJx3⟩)
        · gi_wp2
          go_roundw
          case rel => exact ⟨k + 1, by omega, by simp, by rw [HP.out, HX.out]; exact hJ3, hnx.trans hk3⟩
          case measure => simp [intOf]; omega
        · gi_wp2
          refine bodyPost_ret (results_none rfl _ _ _) rfl ?_
          exact ⟨⟨_, rfl⟩, .inr ⟨_, ⟨k, by rw [HLEN.out]; exact hlt, HNE.out, by rw [HP.out, HX.out]⟩, hJx3⟩⟩
    · obtain rfl : k = len := by omega
      gi_wp2
      go_end0
      exact ⟨⟨_, rfl⟩, .inl ⟨_, by unfold prs; rw [HLEN.out], hJs⟩⟩

set_option maxRecDepth 100000 in
set_option maxHeartbeats 1000000 in
theorem pages1_nil_in (F : Fence) (n : Nat) (hF : F.fn 55) (hro : F.round = none) (l Bs : Nat) (A : Option Addr) (c : Nat) (J : List (Nat × Int) → World → Prop) (W : World) (hBs : W.cell? ⟨Bs, 0, none⟩ = some (.slice A 0 c)) (h0 : J [] W) :
    CallsIn F n Try.prog 55 #[.func (.yield l) #[] #[], .pointer (some ⟨Bs, 0, none⟩)] W fun e W' => (∃ v, e = .returned v) ∧ J [] W' := by
  refine callsIn_of_wp Try.func55 rfl hF ?_ hro
  simp only [Try.ntmps55, List.size_toArray, List.length_cons, List.length_nil, Nat.reduceAdd, Nat.reduceSub, Array.replicate_succ, Array.replicate_zero, List.push_toArray, List.append_toArray, List.nil_append, List.cons_append]
  gi_wp2
  gi_loopw [7] (fun i wr => i = .int .i64 0 ∧ J [] wr) (fun _ _ => 0)
  case atStart => exact ⟨rfl, h0⟩
  case round =>
    obtain ⟨rfl, hJs⟩ := hrel
    gi_wp2
    go_end0
    exact ⟨⟨_, rfl⟩, hJs⟩

/-- A table's slice value below n₀. -/
def IntsB (n₀ : Nat) (W : World) (v : Value) (t : List Int) : Prop :=
  Sl W 1 v t.length (t.flatMap encI) ∧ ∀ a n c, v = .slice (some a) n c → 0 < t.length → a.block < n₀
theorem IntsB.below {n₀ : Nat} {W W' : World} {v : Value} {t : List Int} (h : IntsB n₀ W v t) (hb : Below n₀ W W') : IntsB n₀ W' v t := by
  refine ⟨⟨h.1.1, ?_⟩, h.2⟩
  rcases h.1.2 with h1 | ⟨a, c, h1, h2, h3, h4⟩
  · exact .inl h1
  · exact .inr ⟨a, c, h1, h2, h3, fun hn => ⟨(h4 hn).1, (h4 hn).2.below hb (h.2 a _ _ h1 hn)⟩⟩

theorem pages_stops (F : Fence) (n : Nat) (hF : F.fn 55) (hro : F.round = none) (hn : 1 ≤ n) (Bs n₀ : Nat) (v : Value) (t : List Int) (hlen : t.length ≤ 1000) (w : World) (hBs : Bs < w.heap.size) (hn₀ : n₀ ≤ w.heap.size)
    (hc : w.cell? ⟨Bs, 0, none⟩ = some v) (hv : IntsB n₀ w v t) :
    SeqStopsK F n Try.prog 55 #[.pointer (some ⟨Bs, 0, none⟩)] (fun x : Nat × Int => #[.int .i64 (x.1 : Int), .int .i64 x.2]) (Below n₀) (fun ys => ys = prs t) (fun pre => ∃ k, k < t.length ∧ t.getD k 0 ≠ -1 ∧ pre = prsK t (k + 1)) t.length w := by
  intro l J Jx W hW _ _ hY h0
  have hc' := (hW.cell (p := ⟨Bs, 0, none⟩) hBs).trans hc
  have hv' := hv.below (hW.mono hn₀)
  obtain ⟨A, c, rfl, _, _⟩ := hv'.1.form
  rcases Nat.eq_zero_or_pos t.length with h | h
  · obtain rfl : t = [] := List.eq_nil_of_length_eq_zero h
    refine (pages1_nil_in F n hF hro l Bs A c J W hc' h0).mono ?_
    rintro e W' ⟨h1, h2⟩
    exact ⟨h1, .inl ⟨_, rfl, h2⟩⟩
  · obtain ⟨b, o, rfl, hb, hel⟩ := ints_elem hv'.1 h
    exact pages1_in F n hF hro hn l Bs n₀ b o c t hlen (hv'.2 _ _ _ rfl h) J Jx hY W hc' (fun j hj => by rw [hel j hj, List.getD_eq_getElem?_getD, List.getElem?_eq_getElem hj]; rfl) h0

set_option maxHeartbeats 400000 in
theorem pages_any (A : Option Addr) (n c : Nat) (w : World) : Calls Try.prog 30 #[.slice A n c] w fun e w' => e = .returned (.func (.func 55) #[] #[.pointer (some ⟨w.heap.size, 0, none⟩)]) ∧ w.alloc (.cells #[.slice A n c] 47) = w' := by
  go_enter Try.func30, Try.ntmps30
  go_wp2
  go_ret
  exact ⟨rfl, rfl⟩
end Go.Proofs.Ytoogobenjhmjjaa
