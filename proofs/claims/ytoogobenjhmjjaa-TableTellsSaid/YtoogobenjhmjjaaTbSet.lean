/- A heap at work: its pages turned, one place of one table turned. -/
import Derived.Test.YtoogobenjhmjjaaTbReadW
namespace Go.Proofs.Ytoogobenjhmjjaa
open Go Go.RowKit
set_option linter.unusedVariables false

/-- A heap at work, its values named. -/
def OwnHx (w : World) (base b : Nat) (cap : Int) (pv tv : Value) (tvs : List Value) (ps : List Pg) (ts : List (List Int)) : Prop :=
  base ≤ b ∧ Blk w b 64 #[.int .i64 cap, pv, tv] ∧ w.ownsRow base 54 5 pv ps.length (ps.flatMap encP) ∧ TbO w base b tv tvs ts

section
variable {w w' : World} {base b gT cT gk ck k j : Nat} {cap : Int} {pv tv : Value} {tvs : List Value} {ps ps' : List Pg} {ts : List (List Int)}
theorem OwnHx.keep (h : OwnHx w base b cap pv tv tvs ps ts) (hb : Below w.heap.size w w') : OwnHx w' base b cap pv tv tvs ps ts := ⟨h.1, h.2.1.keep hb, own_below h.2.2.1 hb, h.2.2.2.keep hb⟩
theorem OwnHx.to (h : OwnHx w base b cap pv tv tvs ps ts) : OwnHp w base b cap ps ts := ⟨pv, tv, tvs, h⟩
theorem OwnHx.drew (h : OwnHx w base b cap pv tv tvs ps ts) : OwnHx w.drew base b cap pv tv tvs ps ts := h.keep (Below.refl w.heap.size w).drew
/-- Its pages are others. -/
theorem OwnHx.pages (h : OwnHx w base b cap pv tv tvs ps ts) (hb : Below w.heap.size w w') {sv : Value} (hr : w'.ownsRow w.heap.size 54 5 sv ps'.length (ps'.flatMap encP)) :
    OwnHx ((w'.setCell ⟨b, 0, none⟩ (.int .i64 cap)).setCell ⟨b, 1, none⟩ sv) base b cap sv tv tvs ps' ts := by
  obtain ⟨h1, h2, h3, h4⟩ := h
  have hlt := h2.lt
  have k := h2.keep hb
  have hr' := ownsRow_mono hr (show base ≤ w.heap.size by omega)
  have hr2 := own_far hr' (p := ⟨b, 0, none⟩) (own_ne hr' k (by decide)) (.int .i64 cap)
  have k2 := k.set_ 0 (.int .i64 cap)
  refine ⟨h1, k2.set_ 1 sv, own_far hr2 (own_ne hr2 k2 (by decide)) _, ?_⟩
  exact ((h4.keep hb).other k (by decide) (by decide) 0 _).other (k.set_ 0 _) (by decide) (by decide) 1 _
/-- Where a place of a table lies. -/
theorem OwnHx.place (h : OwnHx w base b cap pv tv tvs ps ts) (hk : k < ts.length) (hj : j < ts[k].length) :
    ∃ gT cT gk ck, tv = .slice (some ⟨gT, 0, none⟩) ts.length cT ∧ tvs[k]? = some (.slice (some ⟨gk, 0, none⟩) ts[k].length ck) ∧ gT < b ∧ gk < b ∧ base ≤ gk ∧ b < w.heap.size ∧
      w.cell? ⟨gT, k, none⟩ = some (.slice (some ⟨gk, 0, none⟩) ts[k].length ck) ∧ w.cell? ⟨gk, j, none⟩ = some (.int .i64 ts[k][j]) ∧ w.frozen? ⟨gk, j, none⟩ = false := by
  obtain ⟨h1, h2, h3, h4⟩ := h
  obtain ⟨gT, cT, A, c, rfl, e1, e2, e3, e4⟩ := h4.table hk
  obtain ⟨ho, hlt⟩ := h4.2.2.2.1 k _ ts[k] e2 (List.getElem?_eq_getElem hk)
  obtain ⟨g, cap', cur, hv, hg, hb, _⟩ := own_form ho (by omega)
  injection hv with a1 a2 a3
  subst a1 a3
  refine ⟨gT, cT, g, c, rfl, e2, e1, hlt g rfl, hg, h2.lt, e3, ?_, hb.free j⟩
  have := ho.cells (g := g) rfl j _ (encI_get _ j hj)
  rwa [add_none, Nat.zero_add] at this
/-- One place of one table is another page. -/
theorem OwnHx.setPl (h : OwnHx w base b cap pv tv tvs ps ts) (hk : k < ts.length) (hj : j < ts[k].length) (htk : tvs[k]? = some (.slice (some ⟨gk, 0, none⟩) ts[k].length ck)) (hgb : gk < b) (p : Int) :
    OwnHx (w.setCell ⟨gk, j, none⟩ (.int .i64 p)) base b cap pv tv tvs ps (ts.set k (ts[k].set j p)) := by
  obtain ⟨h1, h2, h3, h4, h5, h6, h7, h8⟩ := h
  obtain ⟨ho, hlt⟩ := h7 k _ ts[k] htk (List.getElem?_eq_getElem hk)
  obtain ⟨g, cap', cur, hv, hg, hb, hc1, hc2, hc3, hc4⟩ := own_form ho (by omega)
  injection hv with a1 a2 a3
  injection a1 with a1
  injection a1 with a1 _ _
  subst a1 a3
  refine ⟨h1, h2.far (by simp; omega) _, own_far h3 (own_ne h3 hb (by decide)) _, ?_, h5, by rw [List.length_set]; exact h6, ?_, h8⟩
  · rw [List.length_set]
    exact own_far h4 (own_ne h4 hb (by decide)) _
  · intro i v t e1 e2
    by_cases e : i = k
    · subst e
      rw [List.getElem?_set_self (by omega)] at e2
      obtain rfl := Option.some.inj e2
      rw [htk] at e1
      obtain rfl := Option.some.inj e1
      refine ⟨?_, hlt⟩
      have hs : (ts[i].set j p).flatMap encI = (ts[i].flatMap encI).set j (.int .i64 p) := by
        have := flat_set1 encI encI_len ts[i] j hj 0 (by omega) (.int .i64 p) p rfl
        simpa using this.symm
      rw [List.length_set, hs]
      refine own_of (by have := ho.1; simpa using this) hg (hb.set_ j _) hc1 hc2 (by simp [hc3]) ?_
      rw [take_set, hc4]
    · rw [List.getElem?_set_ne (by omega)] at e2
      obtain ⟨ho2, hlt2⟩ := h7 i v t e1 e2
      refine ⟨own_far ho2 ?_ _, hlt2⟩
      intro e3
      rcases Nat.lt_or_ge i k with hik | hik
      · exact h8 i k v _ _ hik e1 htk e3 rfl
      · exact h8 k i _ v _ (by omega) htk e1 rfl e3
theorem OwnHx.store (h : OwnHx w base b cap pv tv tvs ps ts) : ∃ A c, pv = .slice A ps.length c ∧ StV w (.agg #[.int .i64 cap, .slice A ps.length c]) cap ps := by
  obtain ⟨A, c, rfl, _, _⟩ := (Sl.of_own h.2.2.1).form
  exact ⟨A, c, rfl, _, rfl, Sl.of_own h.2.2.1⟩
end
end Go.Proofs.Ytoogobenjhmjjaa
