/- A row of tries of one's own: loads and stores of a whole one. -/
import Derived.Test.YtmcbnpeihedcaaaSrCmp
import Derived.Test.YtmcbnpeihedcaaaSrSort
import Derived.Deep.MidRow
import Derived.Deep.RegionHeld3
import Derived.Deep.DeepCutAuto
import Derived.Deep.CutBlock
namespace Go.Proofs.Ytmcbnpeihedcaaa
set_option linter.unusedSimpArgs false
open Go Go.RowKit
set_option linter.unusedVariables false

section
variable {P : Program}
theorem step_load_mid {ops : Array Oper} {o : Oper} {a : Act} {w : World} {K : Act → World → Prop} {Q : Exit → Act → World → Prop} {E : Prop} (hw : Region.wanted o (yielded ops a.tmps) = true) (ty : TypeId) (x : Operand) (ho : o.op = .load ty x)
    (b f : Nat) (hx : a.eval x = .pointer (some ⟨b, f, none⟩)) (cs : List Value) (d : TypeDesc) (hc : w.rangeAt b f cs)
    (hu : P.underlying ty = some d) (hd : d.isRow = true) (hi : (P.info? ty).map (·.size) = some cs.length) (h : K (a.put o.dst (.agg cs.toArray)) w) :
    if Region.wanted o (yielded ops a.tmps) = true then Oper.wp P o a w K Q else E := by
  rw [if_pos hw]
  exact wp_load_mid ty x ho b f hx cs d hc hu hd hi h
theorem exec_load_mid {o : Oper} {a : Act} {w : World} {ty : TypeId} {x : Operand} (ho : o.op = .load ty x) {b f : Nat} (hx : a.eval x = .pointer (some ⟨b, f, none⟩)) {cs : List Value} {d : TypeDesc} (hc : w.rangeAt b f cs)
    (hu : P.underlying ty = some d) (hd : d.isRow = true) (hi : (P.info? ty).map (·.size) = some cs.length) : (execOp a.eval o).run P w = .ok (.value (.agg cs.toArray)) w := by
  unfold execOp
  simp only [ho, hx, Instr.loadAt, Instr.sureAddr, Sem.run_bind, Sem.run_pure, Result.andThen_ok, run_loadVar_mid w b f ty cs d hc hu hd hi]
theorem step_store_mid {ops : Array Oper} {o : Oper} {a : Act} {w : World} {K : Act → World → Prop} {Q : Exit → Act → World → Prop} {E : Prop} (hw : Region.wanted o (yielded ops a.tmps) = true) (ty : TypeId) (x y : Operand) (ho : o.op = .store ty x y)
    (b f : Nat) (cells : Array Value) (hx : a.eval x = .pointer (some ⟨b, f, none⟩)) (hy : a.eval y = .agg cells)
    (ht : w.there b f cells.size) (hi : (P.info? ty).map (·.size) = some cells.size) (h1 : cells.all (·.oneCell') = true)
    (h : K (a.put o.dst undef) (w.setCells b f cells.toList)) : if Region.wanted o (yielded ops a.tmps) = true then Oper.wp P o a w K Q else E := by
  rw [if_pos hw]
  exact wp_store_mid ty x y ho b f cells hx hy ht hi h1 h
end

theorem rec_size : (Try.prog.info? 27).map (·.size) = some 10 := by kernel_rfl

/-- A row of tries of one's own. -/
def OwnR (w : World) (base g c : Nat) (l : List Rx) : Prop := w.ownsRow base 27 10 (.slice (some ⟨g, 0, none⟩) l.length c) l.length (l.flatMap encRx)
section
variable {w w' : World} {base g c : Nat} {l : List Rx}
theorem OwnR.range (h : OwnR w base g c l) {i : Nat} (hi : i < l.length) : w.rangeAt g (i * 10) (encRx l[i]) := fun j v hv => by
  have := h.cells (g := g) rfl _ _ (flat_get encRx encRx_len l i hi j v hv)
  rwa [add_none, Nat.zero_add] at this
theorem OwnR.form (h : OwnR w base g c l) (hn : 0 < l.length) : base ≤ g ∧ (∃ cur, Blk w g 27 cur) ∧ l.length ≤ c ∧ c ≤ maxLen := by
  obtain ⟨g', c', cur, he, h1, h2, h3, h4, _⟩ := own_form h hn
  injection he with e1 _ e3
  injection e1 with e1
  injection e1 with e1
  subst e1 e3
  exact ⟨h1, ⟨cur, h2⟩, h3, h4⟩
theorem OwnR.there (h : OwnR w base g c l) {i : Nat} (hi : i < l.length) : w.there g (i * 10) 10 := fun j hj => by
  obtain ⟨_, ⟨cur, hb⟩, _⟩ := h.form (by omega)
  refine ⟨?_, hb.free _⟩
  have hj2 : j < (encRx l[i]).length := by rw [encRx_len]; exact hj
  rw [h.range hi j _ (List.getElem?_eq_getElem hj2)]
  rfl
theorem setCells_own {k n : Nat} {e : TypeId} : ∀ (us : List Value) (o : Nat) (w : World) (xs : List Value), w.ownsRow base e k (.slice (some ⟨g, 0, none⟩) n c) n xs → (w.setCells g o us).ownsRow base e k (.slice (some ⟨g, 0, none⟩) n c) n ((us.zipIdx 0).foldl (fun l p => l.set (o + p.2) p.1) xs)
  | [], o, w, xs, h => h
  | u :: us, o, w, xs, h => by
    have h1 := setCells_own us (o + 1) (w.setCell ⟨g, o, none⟩ u) (xs.set o u) (own_set h o u)
    rw [World.setCells]
    have : ∀ (us : List Value) (i : Nat) (ys : List Value), (us.zipIdx i).foldl (fun l p => l.set (o + 1 + p.2) p.1) ys = (us.zipIdx (i + 1)).foldl (fun l p => l.set (o + p.2) p.1) ys := by
      intro us
      induction us with
      | nil => intro i ys; rfl
      | cons v us ih =>
        intro i ys
        simp only [List.zipIdx_cons, List.foldl_cons]
        rw [ih (i + 1), show o + 1 + i = o + (i + 1) from by omega]
    rw [this] at h1
    simpa using h1
theorem OwnR.store (h : OwnR w base g c l) {i : Nat} (hi : i < l.length) (x : Rx) : OwnR (w.setCells g (i * 10) (encRx x)) base g c (l.set i x) := by
  have := setCells_own (encRx x) (i * 10) w _ h
  rw [flat_set encRx encRx_len l i hi x] at this
  unfold OwnR
  rw [List.length_set]
  exact this
theorem OwnR.keep (h : OwnR w base g c l) (hb : Below w.heap.size w w') : OwnR w' base g c l := own_below h hb
theorem OwnR.drew (h : OwnR w base g c l) : OwnR w.drew base g c l := h
theorem OwnR.swap (h : OwnR w base g c l) {i j : Nat} (hi : i < l.length) (hj : j < l.length) : OwnR ((w.setCells g (i * 10) (encRx l[j])).setCells g (j * 10) (encRx l[i])) base g c (swp l i j) := by
  rw [swp_eq hi hj]
  exact (h.store hi l[j]).store (by rw [List.length_set]; exact hj) l[i]
theorem below_setCells {B : Nat} {w0 : World} (hg : B ≤ g) : ∀ (us : List Value) (o : Nat) (w : World), Below B w0 w → Below B w0 (w.setCells g o us)
  | [], _, _, h => h
  | u :: us, o, w, h => by rw [World.setCells]; exact below_setCells hg us (o + 1) _ (h.setCell hg u)
theorem rec_one' (x : Rx) : (encRx x).toArray.all (·.oneCell') = true := by simp [encRx, Value.oneCell']
theorem OwnR.at_ (h : OwnR w base g c l) {i : Nat} {x : Rx} (hx : l[i]? = some x) : w.rangeAt g (i * 10) (encRx x) := by
  have hi := (List.getElem?_eq_some_iff.1 hx).1
  rw [List.getElem?_eq_getElem hi] at hx
  have := h.range hi
  rw [Option.some.inj hx] at this
  exact this
/-- A whole try is stored into the row, in a region that draws its order. -/
theorem step_store_own {ops : Array Oper} {o : Oper} {a : Act} {K : Act → World → Prop} {Q : Exit → Act → World → Prop} {E : Prop} (h : OwnR w base g c l) {i : Nat} (hi : i < l.length) (z : Rx) (x y : Operand) (hw : Region.wanted o (yielded ops a.tmps) = true) (ho : o.op = .store 27 x y)
    (hx : a.eval x = .pointer (some ⟨g, i * 10, none⟩)) (hy : a.eval y = .agg (encRx z).toArray) (k : ∀ w', OwnR w' base g c (l.set i z) → Below base w w' → K (a.put o.dst undef) w') :
    if Region.wanted o (yielded ops a.tmps) = true then Oper.wp Try.prog o a w K Q else E :=
  step_store_mid hw _ _ _ ho g (i * 10) (encRx z).toArray hx hy (h.there hi) rec_size (rec_one' z) (k _ (h.store hi z) (below_setCells (h.form (by omega)).1 _ _ _ (Below.refl _ _)))
theorem step_load_own {ops : Array Oper} {o : Oper} {a : Act} {K : Act → World → Prop} {Q : Exit → Act → World → Prop} {E : Prop} (h : OwnR w base g c l) {i : Nat} {z : Rx} (hz : l[i]? = some z) (x : Operand) (hw : Region.wanted o (yielded ops a.tmps) = true) (ho : o.op = .load 27 x)
    (hx : a.eval x = .pointer (some ⟨g, i * 10, none⟩)) (k : K (a.put o.dst (.agg (encRx z).toArray)) w) :
    if Region.wanted o (yielded ops a.tmps) = true then Oper.wp Try.prog o a w K Q else E :=
  step_load_mid hw _ _ ho g (i * 10) hx (encRx z) _ (h.at_ hz) Try.underlying27 rfl rec_size k
theorem rec_one (x : Rx) : (encRx x).toArray.all (·.oneCell') = true := by simp [encRx, Value.oneCell']
end
end Go.Proofs.Ytmcbnpeihedcaaa
