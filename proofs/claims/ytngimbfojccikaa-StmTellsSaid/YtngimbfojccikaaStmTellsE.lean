/- Several texts in one: LkLaws, StHold. -/
import Derived.Test.YtngimbfojccikaaLkTickm
import Derived.Test.YtngimbfojccikaaStTellm
import Derived.Deep.DeepCutAuto
import Derived.Deep.LoopGhost
namespace Go.Proofs.Ytngimbfojccikaa
set_option linter.unusedSimpArgs false
open Go

theorem odd_iff {now : Int} {x : Lk} : oddL now x = false ↔ 0 ≤ x.v ∧ x.v ≤ now ∧ -1 ≤ x.o ∧ x.o < 4 := by
  simp [oddL]
theorem may_iff {now mx : Int} {ls : List Lk} : mayL now mx ls = true ↔ mx ≤ 1000 ∧ 0 ≤ now ∧ now ≤ mx ∧ 0 < ls.length ∧ ls.length ≤ 8 ∧ ∀ x ∈ ls, 0 ≤ x.v ∧ x.v ≤ now ∧ -1 ≤ x.o ∧ x.o < 4 := by
  have h : (∀ x ∈ ls, 0 ≤ x.v ∧ x.v ≤ now ∧ -1 ≤ x.o ∧ x.o < 4) ↔ ls.any (oddL now) = false := by
    rw [List.any_eq_false]
    exact forall_congr' fun x => forall_congr' fun hx => by rw [Bool.not_eq_true, odd_iff]
  rw [h]
  unfold mayL
  rw [Bool.and_eq_true, Bool.and_eq_true, Bool.and_eq_true, Bool.and_eq_true, Bool.and_eq_true, decide_eq_true_eq, decide_eq_true_eq, decide_eq_true_eq, decide_eq_true_eq, decide_eq_true_eq, Bool.not_eq_true']
theorem may_at {now mx : Int} {ls : List Lk} (h : mayL now mx ls = true) (k : Nat) (hk : k < ls.length) : 0 ≤ ls[k].v ∧ ls[k].v ≤ now ∧ -1 ≤ ls[k].o ∧ ls[k].o < 4 :=
  (may_iff.1 h).2.2.2.2.2 _ (List.getElem_mem hk)
theorem may_set {now mx : Int} {ls : List Lk} (h : mayL now mx ls = true) (k : Nat) (y : Lk) (hy : 0 ≤ y.v ∧ y.v ≤ now ∧ -1 ≤ y.o ∧ y.o < 4) : mayL now mx (ls.set k y) = true := by
  rw [may_iff] at *
  refine ⟨h.1, h.2.1, h.2.2.1, by simpa using h.2.2.2.1, by simpa using h.2.2.2.2.1, fun x hx => ?_⟩
  rcases List.mem_or_eq_of_mem_set hx with hx | rfl
  · exact h.2.2.2.2.2 x hx
  · exact hy
theorem may_tick {now mx : Int} {ls : List Lk} (h : mayL now mx ls = true) (hlt : now < mx) : mayL (now + 1) mx ls = true := by
  rw [may_iff] at *
  exact ⟨h.1, by omega, by omega, h.2.2.2.1, h.2.2.2.2.1, fun x hx => by have := h.2.2.2.2.2 x hx; omega⟩

theorem eqL_refl {α : Type} {eq : α → α → Bool} (hr : ∀ x, eq x x = true) : ∀ xs : List α, eqL eq xs xs = true
  | [] => rfl
  | x :: xs => by simp [eqL, hr, eqL_refl hr xs]
theorem sameL_refl (n m : Int) (ls : List Lk) : sameL n m ls n m ls = true := by simp [sameL, eqL_refl lkEq_refl]

theorem doL_in {f : Lk → Int × Lk} {now mx : Int} {ls : List Lk} {k : Nat} {b : Bool} (hb : b = true) (hm : mayL now mx ls = true) (hk : k < ls.length) : doL f now mx ls k b = ((f ls[k]).1, ls.set k (f ls[k]).2) := by
  unfold doL
  rw [hb, hm, if_pos (by rfl), dif_pos (by omega)]
  rfl
theorem doL_cases (f : Lk → Int × Lk) (now mx : Int) (ls : List Lk) (i : Int) (b : Bool) :
    (doL f now mx ls i b = (1, ls)) ∨ (doL f now mx ls i b = (11, ls)) ∨ ∃ k : Nat, i = k ∧ b = true ∧ mayL now mx ls = true ∧ ∃ hk : k < ls.length, doL f now mx ls i b = ((f ls[k]).1, ls.set k (f ls[k]).2) := by
  by_cases h1 : (b && mayL now mx ls) = true
  · by_cases h2 : 0 ≤ i ∧ i < ls.length
    · obtain ⟨k, rfl⟩ := Int.eq_ofNat_of_zero_le h2.1
      rw [Bool.and_eq_true] at h1
      exact .inr (.inr ⟨k, rfl, h1.1, h1.2, by omega, doL_in h1.1 h1.2 (by omega)⟩)
    · exact .inr (.inl (by unfold doL; rw [if_pos h1, dif_neg h2]))
  · exact .inl (by unfold doL; rw [if_neg h1])

theorem take_ok {now mx : Int} {ls : List Lk} {i who : Int} (h : (takeL now mx ls i who).1 = 0) :
    ∃ k : Nat, i = k ∧ mayL now mx ls = true ∧ 0 ≤ who ∧ who < 4 ∧ ∃ hk : k < ls.length, freeH who ls[k] = true ∧ takeL now mx ls i who = (0, ls.set k ⟨ls[k].v, who⟩) := by
  unfold takeL at *
  rcases doL_cases (takeF who) now mx ls i (someB who) with h1 | h1 | ⟨k, rfl, hb, hm, hk, h1⟩
  · rw [h1] at h; cases h
  · rw [h1] at h; cases h
  · rw [h1] at h ⊢
    simp [someB] at hb
    refine ⟨k, rfl, hm, hb.1, hb.2, hk, ?_⟩
    unfold takeF at h ⊢
    split at h
    · rename_i hf
      exact ⟨hf, by rw [if_pos hf]⟩
    · cases h
theorem take_err {now mx : Int} {ls : List Lk} {i who : Int} (h : (takeL now mx ls i who).1 ≠ 0) : (takeL now mx ls i who).2 = ls := by
  unfold takeL at *
  rcases doL_cases (takeF who) now mx ls i (someB who) with h1 | h1 | ⟨k, rfl, hb, hm, hk, h1⟩
  · rw [h1]
  · rw [h1]
  · rw [h1] at h ⊢
    unfold takeF at h ⊢
    split at h
    · exact absurd rfl h
    · rename_i hf
      rw [if_neg hf]
      exact List.set_getElem_self hk
theorem take_in {now mx : Int} {ls : List Lk} {k : Nat} {who : Int} (hm : mayL now mx ls = true) (hk : k < ls.length) (h0 : 0 ≤ who) (h4 : who < 4) :
    takeL now mx ls k who = if freeH who ls[k] = true then (0, ls.set k ⟨ls[k].v, who⟩) else (10, ls) := by
  unfold takeL
  rw [doL_in (by simp [someB, h0, h4]) hm hk]
  unfold takeF
  split
  · rfl
  · simp
theorem give_in {now mx : Int} {ls : List Lk} {k : Nat} {who ver : Int} (hm : mayL now mx ls = true) (hk : k < ls.length) (h0 : 0 ≤ who) (h4 : who < 4) (h1 : -1 ≤ ver) (h2 : ver ≤ now) :
    giveL now mx ls k who ver = if ls[k].o = who then (if ver ≠ -1 ∧ ver ≤ ls[k].v then (1, ls) else (0, ls.set k ⟨max ls[k].v ver, -1⟩)) else (11, ls) := by
  unfold giveL
  rw [doL_in (by simp [someB, h0, h4, h1, h2]) hm hk]
  unfold giveF
  by_cases a : ls[k].o = who
  · by_cases b : ver ≠ -1 ∧ ver ≤ ls[k].v
    · rw [if_neg (by simp [a]), if_pos (by simp [b.1, b.2]), if_pos a, if_pos b]; simp
    · rw [if_neg (by simp [a]), if_neg (by simp; omega), if_pos a, if_neg b]
  · rw [if_pos (by simp [a]), if_neg a]; simp
theorem give_err {now mx : Int} {ls : List Lk} {i who ver : Int} (h : (giveL now mx ls i who ver).1 ≠ 0) : (giveL now mx ls i who ver).2 = ls := by
  unfold giveL at *
  rcases doL_cases (giveF who ver) now mx ls i (someB who && (decide (-1 ≤ ver) && decide (ver ≤ now))) with h1 | h1 | ⟨k, rfl, hb, hm, hk, h1⟩
  · rw [h1]
  · rw [h1]
  · rw [h1] at h ⊢
    unfold giveF at h ⊢
    split at h
    · rename_i a
      rw [if_pos a]; simp
    · rename_i a
      rw [if_neg a]
      split at h
      · rename_i b
        rw [if_pos b]; simp
      · exact absurd rfl h
theorem give_ok {now mx : Int} {ls : List Lk} {i who ver : Int} (h : (giveL now mx ls i who ver).1 = 0) :
    ∃ k : Nat, i = k ∧ mayL now mx ls = true ∧ 0 ≤ who ∧ who < 4 ∧ -1 ≤ ver ∧ ver ≤ now ∧ ∃ hk : k < ls.length, ls[k].o = who ∧ ¬ (ver ≠ -1 ∧ ver ≤ ls[k].v) ∧ giveL now mx ls i who ver = (0, ls.set k ⟨max ls[k].v ver, -1⟩) := by
  have h' := h
  unfold giveL at h
  rcases doL_cases (giveF who ver) now mx ls i (someB who && (decide (-1 ≤ ver) && decide (ver ≤ now))) with h1 | h1 | ⟨k, rfl, hb, hm, hk, h1⟩
  · rw [h1] at h; cases h
  · rw [h1] at h; cases h
  · simp [someB] at hb
    have hg := give_in hm hk hb.1.1 hb.1.2 hb.2.1 hb.2.2
    rw [hg] at h'
    refine ⟨k, rfl, hm, hb.1.1, hb.1.2, hb.2.1, hb.2.2, hk, ?_⟩
    by_cases a : ls[k].o = who
    · by_cases b : ver ≠ -1 ∧ ver ≤ ls[k].v
      · rw [if_pos a, if_pos b] at h'; cases h'
      · rw [if_pos a, if_neg b] at hg
        exact ⟨a, b, hg⟩
    · rw [if_neg a] at h'; cases h'
theorem sees_in {now mx : Int} {ls : List Lk} {k : Nat} {ver who : Int} (hm : mayL now mx ls = true) (hk : k < ls.length) : seesL now mx ls k ver who = (freeH who ls[k] && decide (ls[k].v ≤ ver)) := by
  unfold seesL
  rw [dif_pos ⟨hm, by omega, by omega⟩]
  rfl
end Go.Proofs.Ytngimbfojccikaa
namespace Go.Proofs.Ytngimbfojccikaa
set_option linter.unusedSimpArgs false
open Go Go.RowKit
set_option linter.unusedVariables false
set_option maxRecDepth 100000

section
variable {w0 w w' : World} {r : Nat} {φ : Nat → Nat} {a : Ad} {m : Mm} {pw pm : Int} {pv : Value}

theorem RunW.locks {who : Int} (h : RunW w0 w r φ a m pw pm pv who) : LkV w (.agg #[.int .i64 m.now, .int .i64 m.mx, .slice a.lA m.L.length a.lc]) m.now m.mx m.L := ⟨_, rfl, Sl.of_own h.lrow⟩
/-- A pair of a thread's row, cell by cell. -/
theorem PRow.pairs {w : World} {base : Nat} {A : Option Addr} {c : Nat} {l : List Pr} (h : PRow w base A c l) (h0 : 0 < l.length) : ∃ b, A = some ⟨b, 0, none⟩ ∧ b < w.heap.size ∧ l.length ≤ c ∧ c ≤ maxLen ∧ (∃ cur, Blk w b 55 cur) ∧ ∀ j x, l[j]? = some x → w.cell? ⟨b, j * 2, none⟩ = some (.int .i64 x.at_) ∧ w.cell? ⟨b, j * 2 + 1, none⟩ = some (.int .i64 x.v) := by
  obtain ⟨b, c', cur, e, h1, h2, h3, h4, h5, h6⟩ := own_form h h0
  injection e with e1 _ e3
  subst e1 e3
  refine ⟨b, rfl, h2.lt, h3, h4, ⟨cur, h2⟩, fun j x hx => ?_⟩
  obtain ⟨hj, hx'⟩ := List.getElem?_eq_some_iff.1 hx
  have h' : w.ownsRow base 55 2 (.slice (some ⟨b, 0, none⟩) l.length c) l.length (l.flatMap encPr) := h
  have k0 := h'.cells (g := b) rfl _ _ (flat_get encPr encPr_len l j hj 0 (.int .i64 x.at_) (by rw [hx']; rfl))
  have k1 := h'.cells (g := b) rfl _ _ (flat_get encPr encPr_len l j hj 1 (.int .i64 x.v) (by rw [hx']; rfl))
  rw [add_none, Nat.zero_add] at k0 k1
  exact ⟨by simpa using k0, k1⟩

theorem drop_may {now mx : Int} {ls : List Lk} (h : mayL now mx ls = true) (who : Int) : mayL now mx (ls.map (dropO who)) = true := by
  rw [may_iff] at h ⊢
  refine ⟨h.1, h.2.1, h.2.2.1, by simpa using h.2.2.2.1, by simpa using h.2.2.2.2.1, fun x hx => ?_⟩
  obtain ⟨y, hy, rfl⟩ := List.mem_map.1 hx
  have := h.2.2.2.2.2 y hy
  unfold dropO
  split
  · exact ⟨this.1, this.2.1, by simp, by simp⟩
  · exact this
/-- The locks behind so many rounds. -/
def dropN (ls : List Lk) (who : Int) (i : Nat) : List Lk := (ls.take i).map (dropO who) ++ ls.drop i
theorem dropN_len (ls : List Lk) (who : Int) (i : Nat) (hi : i ≤ ls.length) : (dropN ls who i).length = ls.length := by
  unfold dropN; simp; omega
theorem dropN_may {now mx : Int} {ls : List Lk} (h : mayL now mx ls = true) (who : Int) (i : Nat) (hi : i ≤ ls.length) : mayL now mx (dropN ls who i) = true := by
  have hd := drop_may h who
  rw [may_iff] at h hd ⊢
  have hl := dropN_len ls who i hi
  refine ⟨h.1, h.2.1, h.2.2.1, by rw [hl]; exact h.2.2.2.1, by rw [hl]; exact h.2.2.2.2.1, fun x hx => ?_⟩
  unfold dropN at hx
  rw [List.mem_append] at hx
  rcases hx with hx | hx
  · refine hd.2.2.2.2.2 x ?_
    obtain ⟨y, hy, rfl⟩ := List.mem_map.1 hx
    exact List.mem_map.2 ⟨y, List.mem_of_mem_take hy, rfl⟩
  · exact h.2.2.2.2.2 x (List.mem_of_mem_drop hx)
theorem dropN_succ (ls : List Lk) (who : Int) (i : Nat) (hi : i < ls.length) : dropN ls who (i + 1) = (dropN ls who i).set i (dropO who ls[i]) := by
  unfold dropN
  rw [List.take_succ_eq_append_getElem hi, List.map_append, List.map_cons, List.map_nil, List.append_assoc, List.set_append_right _ _ (by simp; omega)]
  simp
  rw [Nat.min_eq_left (by omega), Nat.sub_self, List.drop_eq_getElem_cons hi]
  rfl
theorem dropN_at (ls : List Lk) (who : Int) (i : Nat) (hi : i < ls.length) : (dropN ls who i)[i]? = some ls[i] := by
  unfold dropN
  rw [List.getElem?_append_right (by simp; omega)]
  simp
  rw [Nat.min_eq_left (by omega), Nat.sub_self, Nat.add_zero, List.getElem?_eq_getElem hi]
theorem give_drop {now mx : Int} {ls : List Lk} (hm : mayL now mx ls = true) (k : Nat) (hk4 : k < 4) (i : Nat) (hi : i < ls.length) (ho : ls[i].o = (k : Int)) : giveL now mx ls (i : Int) (k : Int) (-1) = (0, ls.set i (dropO (k : Int) ls[i])) := by
  have hb := may_at hm i hi
  have hd := may_iff.1 hm
  unfold giveL doL
  have hsb : someB (k : Int) = true := by unfold someB; simp; omega
  rw [hsb, hm, if_pos (by simp; omega), dif_pos ⟨by omega, by omega⟩]
  have e : giveF (k : Int) (-1) ls[i] = (0, dropO (k : Int) ls[i]) := by
    unfold giveF dropO
    rw [if_neg (by simp [ho]), if_neg (by simp), if_pos ho]
    rw [show max ls[i].v (-1) = ls[i].v from by omega]
  simp only [Int.toNat_natCast]
  rw [e]

end
end Go.Proofs.Ytngimbfojccikaa
