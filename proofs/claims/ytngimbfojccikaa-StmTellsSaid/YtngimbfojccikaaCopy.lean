/- copy, at elements of k cells, into a block that is known whole; make of a length. -/
import Derived.Test.YtngimbfojccikaaWords
import Derived.Laws.CopyRow
import Derived.Laws.MakeOwn
import Derived.Laws.OwnMore
import Derived.Laws.AppendOwnNone
namespace Go.Proofs.Ytngimbfojccikaa
set_option linter.unusedSimpArgs false
open Go Go.RowKit
section
variable {P : Program}

theorem run_copy_k (w : World) (dT sT ty elem : TypeId) (g o dLen dCap : Nat) (a : Addr) (sLen sCap : Nat) (cur : Array Value) (t : TypeId) (cs : List Value) (k m : Nat)
    (hu : P.underlying dT = some (.slice elem)) (hs : (P.info? elem).map (·.size) = some k)
    (hg : Blk w g t cur) (hm : Nat.min sLen dLen = m) (hn : cs.length = m * k)
    (hsrc : ∀ j v, cs[j]? = some v → w.cell? (a.add j) = some v) (hfit : o + cs.length ≤ cur.size) (h1 : ∀ v ∈ cs, v.oneCell' = true) :
    (Builtin.copy_ #[dT, sT] ty #[.slice (some ⟨g, o, none⟩) dLen dCap, .slice (some a) sLen sCap]).run P w =
      .ok (.int .i64 m) (w.setRow g (cur.toList.take o ++ cs ++ cur.toList.drop (o + cs.length)).toArray) := by
  have hl := run_loadCells_list (P := P) w a cs hsrc
  have hst := run_storeCells_at P g o t cs 0 cur w hg (by simpa using hfit) h1
  cases hq : P.info? elem with
  | none => simp [hq] at hs
  | some i =>
    have hi : i.size = k := by simpa [hq] using hs
    subst hm hi
    rw [hn] at hl
    simp [Builtin.copy_, run_underlying hu, Builtin.lenOf, Builtin.firstCells, sizeOf, typeInfo, hq, hl, hst, goInt]

theorem Blk.setRow {w : World} {g : Nat} {t : TypeId} {cs : Array Value} (h : Blk w g t cs) (cur : Array Value) : Blk (w.setRow g cur) g t cur := setRow_heap w g cs cur t _ h

theorem wp_copy_eqn (w : World) {o : Oper} {a : Act} {K : Act → World → Prop} {Q : Exit → Act → World → Prop} (d s : Operand) (t t' : TypeId)
    (ho : o.op = .call { callee := .builtin .copy, args := #[d, s], argTypes := #[t, t'] }) (v u : Value) (hd : a.eval d = v) (hs : a.eval s = u) {v' : Value} {w' : World}
    (hr : (Builtin.copy_ #[t, t'] o.type #[v, u]).run P w = .ok v' w') (h : K (a.put o.dst v') w') : o.wp P a w K Q := by
  unfold Oper.wp execOp
  simp only [ho, resolve, invoke, builtin, Sem.run_bind, Sem.run_pure, Result.andThen_ok, List.map_toArray, List.map_cons, List.map_nil, hd, hs, hr]
  exact h

theorem wpList_copy_eqn (w : World) {ops : Array Oper} {rest : List Oper} {o : Oper} {a : Act} {Q : Exit → Act → World → Prop} (hgd : o.guard = none) (d s : Operand) (t t' : TypeId)
    (ho : o.op = .call { callee := .builtin .copy, args := #[d, s], argTypes := #[t, t'] }) (v u : Value) (hd : a.eval d = v) (hs : a.eval s = u) {v' : Value} {w' : World}
    (hr : (Builtin.copy_ #[t, t'] o.type #[v, u]).run P w = .ok v' w') (h : wpList P ops Q rest (a.put o.dst v') w') : wpList P ops Q (o :: rest) a w :=
  wpList_plain hgd fun _ hK => wp_copy_eqn w d s t t' ho v u hd hs hr (hK _ _ h)

theorem step_copy_eqn {ops : Array Oper} {o : Oper} {a : Act} {w : World} {K : Act → World → Prop} {Q : Exit → Act → World → Prop} {E : Prop}
    (hg : o.guard = none) (d x : Operand) (dT sT : TypeId) (hop : o.op = Op.call { callee := Callee.builtin Builtin.copy, args := #[d, x], argTypes := #[dT, sT] })
    (v u : Value) (hd : a.eval d = v) (hx : a.eval x = u) {v' : Value} {w' : World} (hr : (Builtin.copy_ #[dT, sT] o.type #[v, u]).run P w = .ok v' w') (hK : K (a.put o.dst v') w') :
    if Region.wanted o (yielded ops a.tmps) = true then Oper.wp P o a w K Q else E := by
  have hw : Region.wanted o (yielded ops a.tmps) = true := by simp [Region.wanted, hg]
  rw [if_pos hw]
  exact wp_copy_eqn w d x dT sT hop v u hd hx hr hK

end

theorem below_setRow' {B : Nat} {a w : World} (h : Below B a w) {g : Nat} (hg : B ≤ g) (cur : Array Value) : Below B a (w.setRow g cur) :=
  ⟨h.os, h.tape, h.output, by simpa [World.setRow] using h.size, fun i hi => by
    have : (w.setRow g cur).heap[i]? = w.heap[i]? := by
      simp only [World.setRow]
      rw [Array.getElem?_modify, if_neg (by omega)]
    rw [this]; exact h.block i hi⟩

/-- m copies of a row. -/
def reps (vs : List Value) (m : Nat) : List Value := (List.replicate m vs).flatten
theorem reps_len (vs : List Value) (m : Nat) : (reps vs m).length = m * vs.length := by simp [reps, List.length_flatten]
theorem reps_add (vs : List Value) (m c : Nat) : reps vs (m + c) = reps vs m ++ reps vs c := by unfold reps; rw [← List.replicate_append_replicate, List.flatten_append]
theorem reps_take (vs : List Value) (m c : Nat) (h : c ≤ m) : (reps vs m).take (c * vs.length) = reps vs c := by
  obtain ⟨d, rfl⟩ : ∃ d, m = c + d := ⟨m - c, by omega⟩
  rw [reps_add, List.take_append_of_le_length (by rw [reps_len]; exact Nat.le_refl _), List.take_of_length_le (by rw [reps_len]; exact Nat.le_refl _)]

/-- A slice value that is not empty: where its cells lie, now and later. -/
theorem Sl.pos {α : Type} {k : Nat} (enc : α → List Value) (hk : ∀ x, (enc x).length = k) {w : World} {xs : List α} {A : Option Addr} {c : Nat} (h : Sl w k (.slice A xs.length c) xs.length (xs.flatMap enc)) (h0 : 0 < xs.length) :
    ∃ b o, A = some ⟨b, o, none⟩ ∧ b < w.heap.size ∧ ∀ (W : World), Below w.heap.size w W → ∀ j (hj : j < xs.length) i u, (enc xs[j])[i]? = some u → W.cell? ⟨b, o + j * k + i, none⟩ = some u := by
  have hA : ∃ a, A = some a := by
    rcases h.2 with ⟨h, h'⟩ | ⟨a, c, h, _⟩
    · omega
    · injection h with h; exact ⟨a, h⟩
  obtain ⟨⟨b, o, s⟩, rfl⟩ := hA
  have h2 := Sl.elem enc hk h
  obtain ⟨hs, hb, _⟩ := h2 w (Below.refl _ _) 0 h0
  simp only at hs hb
  subst hs
  exact ⟨b, o, rfl, hb, fun W hW j hj i u hu => (h2 W hW j hj).2.2 i u hu⟩

/-- append onto a row of one's own, of a slice that reads as a list, nil or not. -/
theorem wpList_append_sl {P : Program} {w : World} {ops : Array Oper} {rest : List Oper} {o : Oper} {a : Act} {Q : Exit → Act → World → Prop} (hgd : o.guard = none) (s x : Operand) (t : TypeId)
    (ho : o.op = .call { callee := .builtin .append, args := #[s, x], argTypes := #[t, t] })
    (base : Nat) (e : TypeId) (i : TypeInfo) (z : Value) (size bytes : Nat) (ht : P.underlying t = some (.slice e)) (hi : P.info? e = some i) (hz : i.zero = some z)
    (hsize : i.size = size) (hby : i.bytes = bytes) (hzs : z.cells.size = size) (hsz : 0 < size)
    (v : Value) (n : Nat) (xs : List Value) (hs : a.eval s = v) (hown : w.ownsRow base e size v n xs)
    (A : Option Addr) (m c : Nat) (news : List Value) (hx : a.eval x = .slice A m c) (hsl : Sl w size (.slice A m c) m news) (h1 : ∀ u ∈ news, u.oneCell' = true)
    (h63 : n + m ≤ maxLen) (hbytes : (n + m) * bytes ≤ 140737488355328) (hbase : base ≤ w.heap.size)
    (h : ∀ v' w', w'.ownsRow base e size v' (n + m) (xs ++ news) → w.grownBy w' v.ownBlock → wpList P ops Q rest (a.put o.dst v') w') : wpList P ops Q (o :: rest) a w := by
  obtain ⟨hl, ⟨he, h0⟩ | ⟨ad, c', he, _, _, hr⟩⟩ := hsl
  · injection he with hA _ hc
    subst hA hc h0
    have hn : news = [] := List.eq_nil_of_length_eq_zero (by omega)
    subst hn
    exact wpList_append_own_none hgd s x t ho base e i size ht hi v n xs hs hown hx (h v w (by simpa using hown) (World.grownBy.refl w _))
  · injection he with hA _ _
    subst hA
    refine wpList_append_own_at w hgd s x t ho base e i z size bytes ht hi hz hsize hby hzs hsz v n xs hs hown ad m c news hx hl (fun j u hu => ?_) h1 h63 hbytes hbase fun v' w' h2 h3 _ _ => h v' w' h2 h3
    have hm : 0 < m := by
      rcases Nat.eq_zero_or_pos m with h0 | h0
      · subst h0
        have hn : news = [] := List.eq_nil_of_length_eq_zero (by omega)
        rw [hn] at hu
        simp at hu
      · exact h0
    obtain ⟨hs', hC⟩ := hr hm
    obtain ⟨b, off, sp⟩ := ad
    simp only at hs'
    subst hs'
    rw [add_none]
    exact hC.2 j u hu
end Go.Proofs.Ytngimbfojccikaa
