/- quit, hold, tick. -/
import Derived.Test.YtmcbnpeihedcaaaStTell
import Derived.Test.YtmcbnpeihedcaaaLkLaws
import Derived.Deep.DeepCutAuto
import Derived.Deep.LoopGhost
namespace Go.Proofs.Ytmcbnpeihedcaaa
set_option linter.unusedSimpArgs false
open Go Go.RowKit
set_option linter.unusedVariables false
set_option maxRecDepth 100000

section
variable {w0 w w' : World} {r : Nat} {φ : Nat → Nat} {a : Ad} {m : Mm} {pw pm : Int} {pv : Value}

theorem RunW.locks {who : Int} (h : RunW w0 w r φ a m pw pm pv who) : LkV w (.agg #[.int .i64 m.now, .int .i64 m.mx, .slice a.lA m.L.length a.lc]) m.now m.mx m.L := ⟨_, rfl, Sl.of_own h.lrow⟩
/-- A pair of a thread's row, cell by cell. -/
theorem PRow.pairs {w : World} {base : Nat} {A : Option Addr} {c : Nat} {l : List Pr} (h : PRow w base A c l) (h0 : 0 < l.length) : ∃ b, A = some ⟨b, 0, none⟩ ∧ b < w.heap.size ∧ l.length ≤ c ∧ c ≤ maxLen ∧ (∃ cur, Blk w b 34 cur) ∧ ∀ j x, l[j]? = some x → w.cell? ⟨b, j * 2, none⟩ = some (.int .i64 x.at_) ∧ w.cell? ⟨b, j * 2 + 1, none⟩ = some (.int .i64 x.v) := by
  obtain ⟨b, c', cur, e, h1, h2, h3, h4, h5, h6⟩ := own_form h h0
  injection e with e1 _ e3
  subst e1 e3
  refine ⟨b, rfl, h2.lt, h3, h4, ⟨cur, h2⟩, fun j x hx => ?_⟩
  obtain ⟨hj, hx'⟩ := List.getElem?_eq_some_iff.1 hx
  have h' : w.ownsRow base 34 2 (.slice (some ⟨b, 0, none⟩) l.length c) l.length (l.flatMap encPr) := h
  have k0 := h'.cells (g := b) rfl _ _ (flat_get encPr encPr_len l j hj 0 (.int .i64 x.at_) (by rw [hx']; rfl))
  have k1 := h'.cells (g := b) rfl _ _ (flat_get encPr encPr_len l j hj 1 (.int .i64 x.v) (by rw [hx']; rfl))
  rw [add_none, Nat.zero_add] at k0 k1
  exact ⟨by simpa using k0, k1⟩

theorem drop_may {now mx : Int} {ls : List Lk} (h : mayL now mx ls = true) (who : Int) : mayL now mx (ls.map (dropO who)) = true := by
  rw [may_iff] at h ⊢
  refine ⟨h.1, h.2.1, h.2.2.1, by simpa using h.2.2.2.1, by simpa using h.2.2.2.2.1, fun x hx => ?_⟩
  obtain ⟨y, hy, rfl⟩ := List.mem_map.1 hx
  have := h.2.2.2.2.2 y hy
  unfold dropO
  split
  · exact ⟨this.1, this.2.1, by simp, by simp⟩
  · exact this
/-- The locks behind so many rounds. -/
def dropN (ls : List Lk) (who : Int) (i : Nat) : List Lk := (ls.take i).map (dropO who) ++ ls.drop i
theorem dropN_len (ls : List Lk) (who : Int) (i : Nat) (hi : i ≤ ls.length) : (dropN ls who i).length = ls.length := by
  unfold dropN; simp; omega
theorem dropN_may {now mx : Int} {ls : List Lk} (h : mayL now mx ls = true) (who : Int) (i : Nat) (hi : i ≤ ls.length) : mayL now mx (dropN ls who i) = true := by
  have hd := drop_may h who
  rw [may_iff] at h hd ⊢
  have hl := dropN_len ls who i hi
  refine ⟨h.1, h.2.1, h.2.2.1, by rw [hl]; exact h.2.2.2.1, by rw [hl]; exact h.2.2.2.2.1, fun x hx => ?_⟩
  unfold dropN at hx
  rw [List.mem_append] at hx
  rcases hx with hx | hx
  · refine hd.2.2.2.2.2 x ?_
    obtain ⟨y, hy, rfl⟩ := List.mem_map.1 hx
    exact List.mem_map.2 ⟨y, List.mem_of_mem_take hy, rfl⟩
  · exact h.2.2.2.2.2 x (List.mem_of_mem_drop hx)
theorem dropN_succ (ls : List Lk) (who : Int) (i : Nat) (hi : i < ls.length) : dropN ls who (i + 1) = (dropN ls who i).set i (dropO who ls[i]) := by
  unfold dropN
  rw [List.take_succ_eq_append_getElem hi, List.map_append, List.map_cons, List.map_nil, List.append_assoc, List.set_append_right _ _ (by simp; omega)]
  simp
  rw [Nat.min_eq_left (by omega), Nat.sub_self, List.drop_eq_getElem_cons hi]
  rfl
theorem dropN_at (ls : List Lk) (who : Int) (i : Nat) (hi : i < ls.length) : (dropN ls who i)[i]? = some ls[i] := by
  unfold dropN
  rw [List.getElem?_append_right (by simp; omega)]
  simp
  rw [Nat.min_eq_left (by omega), Nat.sub_self, Nat.add_zero, List.getElem?_eq_getElem hi]
theorem give_drop {now mx : Int} {ls : List Lk} (hm : mayL now mx ls = true) (k : Nat) (hk4 : k < 4) (i : Nat) (hi : i < ls.length) (ho : ls[i].o = (k : Int)) : giveL now mx ls (i : Int) (k : Int) (-1) = (0, ls.set i (dropO (k : Int) ls[i])) := by
  have hb := may_at hm i hi
  have hd := may_iff.1 hm
  unfold giveL doL
  have hsb : someB (k : Int) = true := by unfold someB; simp; omega
  rw [hsb, hm, if_pos (by simp; omega), dif_pos ⟨by omega, by omega⟩]
  have e : giveF (k : Int) (-1) ls[i] = (0, dropO (k : Int) ls[i]) := by
    unfold giveF dropO
    rw [if_neg (by simp [ho]), if_neg (by simp), if_pos ho]
    rw [show max ls[i].v (-1) = ls[i].v from by omega]
  simp only [Int.toNat_natCast]
  rw [e]

end
end Go.Proofs.Ytmcbnpeihedcaaa
