/- Steps of a region that draws its order: append of a slice that reads as a list; a struct's store into a block known whole. -/
import Derived.Test.YtngimbfojccikaaStLawOrder
import Derived.Test.YtngimbfojccikaaStLib
import Derived.Laws.AppendOwnNone
namespace Go.Proofs.Ytngimbfojccikaa
set_option linter.unusedSimpArgs false
open Go Go.RowKit
set_option linter.unusedVariables false

section
variable {P : Program} {w : World}
theorem below_grown_none {w' : World} (h : w.grownBy w' none) : Below w.heap.size w w' := (Below.refl _ w).grown h (Nat.le_refl _) (fun _ hg => by cases hg)
theorem wp_append_sl {o : Oper} {a : Act} {K : Act → World → Prop} {Q : Exit → Act → World → Prop} (s x : Operand) (t : TypeId)
    (ho : o.op = .call { callee := .builtin .append, args := #[s, x], argTypes := #[t, t] })
    (base : Nat) (e : TypeId) (i : TypeInfo) (z : Value) (size bytes : Nat) (ht : P.underlying t = some (.slice e)) (hi : P.info? e = some i) (hz : i.zero = some z)
    (hsize : i.size = size) (hby : i.bytes = bytes) (hzs : z.cells.size = size) (hsz : 0 < size)
    (v : Value) (n : Nat) (xs : List Value) (hs : a.eval s = v) (hown : w.ownsRow base e size v n xs)
    (u : Value) (m : Nat) (news : List Value) (hx : a.eval x = u) (hnews : Sl w size u m news) (h1 : ∀ u ∈ news, u.oneCell' = true)
    (h63 : n + m ≤ maxLen) (hbytes : (n + m) * bytes ≤ 140737488355328) (hbase : base ≤ w.heap.size)
    (h : ∀ v' w', w'.ownsRow base e size v' (n + m) (xs ++ news) → w.grownBy w' v.ownBlock → (v'.ownBlock = v.ownBlock ∨ v'.ownBlock = some w.heap.size) → K (a.put o.dst v') w') : o.wp P a w K Q := by
  obtain ⟨hl, ⟨rfl, rfl⟩ | ⟨ad, c, rfl, hc, hm, hr⟩⟩ := hnews
  · obtain rfl : news = [] := List.eq_nil_of_length_eq_zero (by omega)
    have hr := run_append_owned_none (P := P) (w := w) base t o.type e i size ht hi v n xs hown
    unfold Oper.wp execOp
    simp only [ho, resolve, invoke, builtin, Sem.run_bind, Sem.run_pure, Result.andThen_ok, List.map_toArray, List.map_cons, List.map_nil, hs, hx, hr]
    exact h v w (by simpa using hown) ⟨rfl, rfl, rfl, Nat.le_refl _, fun _ _ _ => rfl⟩ (.inl rfl)
  · have hnews : ∀ j u, news[j]? = some u → w.cell? (ad.add j) = some u := by
      intro j u hu
      have hn0 : 0 < m := by
        rcases Nat.eq_zero_or_pos m with h | h
        · subst h; have := (List.getElem?_eq_some_iff.1 hu).1; omega
        · exact h
      obtain ⟨hs, hC⟩ := hr hn0
      obtain ⟨b, o, s⟩ := ad
      simp only at hs hC; subst hs
      rw [add_none]
      exact hC.2 j u hu
    obtain ⟨v', w', hr, h2, h3, _, h5⟩ := run_append_own_at (P := P) w base t o.type e i z size bytes ht hi hz hsize hby hzs hsz v n xs hown ad m c news hl hnews h1 h63 hbytes hbase
    unfold Oper.wp execOp
    simp only [ho, resolve, invoke, builtin, Sem.run_bind, Sem.run_pure, Result.andThen_ok, List.map_toArray, List.map_cons, List.map_nil, hs, hx, hr]
    exact h v' w' h2 h3 h5
theorem step_append_sl {ops : Array Oper} {o : Oper} {a : Act} {K : Act → World → Prop} {Q : Exit → Act → World → Prop} {E : Prop} (hgd : o.guard = none) (s x : Operand) (t : TypeId)
    (ho : o.op = .call { callee := .builtin .append, args := #[s, x], argTypes := #[t, t] })
    (base : Nat) (e : TypeId) (i : TypeInfo) (z : Value) (size bytes : Nat) (ht : P.underlying t = some (.slice e)) (hi : P.info? e = some i) (hz : i.zero = some z)
    (hsize : i.size = size) (hby : i.bytes = bytes) (hzs : z.cells.size = size) (hsz : 0 < size)
    (v : Value) (n : Nat) (xs : List Value) (hs : a.eval s = v) (hown : w.ownsRow base e size v n xs)
    (u : Value) (m : Nat) (news : List Value) (hx : a.eval x = u) (hnews : Sl w size u m news) (h1 : ∀ u ∈ news, u.oneCell' = true)
    (h63 : n + m ≤ maxLen) (hbytes : (n + m) * bytes ≤ 140737488355328) (hbase : base ≤ w.heap.size)
    (h : ∀ v' w', w'.ownsRow base e size v' (n + m) (xs ++ news) → w.grownBy w' v.ownBlock → (v'.ownBlock = v.ownBlock ∨ v'.ownBlock = some w.heap.size) → K (a.put o.dst v') w') :
    if Region.wanted o (yielded ops a.tmps) = true then Oper.wp P o a w K Q else E := by
  have hw : Region.wanted o (yielded ops a.tmps) = true := by simp [Region.wanted, hgd]
  rw [if_pos hw]
  exact wp_append_sl s x t ho base e i z size bytes ht hi hz hsize hby hzs hsz v n xs hs hown u m news hx hnews h1 h63 hbytes hbase h
theorem below_own {base : Nat} {e : TypeId} {k n : Nat} {v : Value} {xs : List Value} {w' : World} {B : Nat} (hown : w.ownsRow base e k v n xs) (hg : w.grownBy w' v.ownBlock) (hB : B ≤ base) (hW : B ≤ w.heap.size) : Below B w w' :=
  (Below.refl B w).grown hg hW (fun g h => Nat.le_trans hB (hown.lt g h).1)
end

theorem mem_size : (Try.prog.info? 34).map (·.size) = some 7 := by kernel_rfl
theorem step_store_mem {ops : Array Oper} {o : Oper} {ac : Act} {w : World} {K : Act → World → Prop} {Q : Exit → Act → World → Prop} {E : Prop} (g : Nat) (cs : Array Value) (hg : Blk w g 34 cs) (hcs : cs.size = 7)
    (vs : List Value) (hvs : vs.length = 7) (h1 : ∀ u ∈ vs, u.oneCell' = true)
    (x y : Operand) (hw : Region.wanted o (yielded ops ac.tmps) = true) (ho : o.op = .store 34 x y) (hx : ac.eval x = .pointer (some ⟨g, 0, none⟩)) (hy : ac.eval y = .agg vs.toArray)
    (kk : ∀ w', Blk w' g 34 vs.toArray → w.grownBy w' (some g) → K (ac.put o.dst undef) w') : if Region.wanted o (yielded ops ac.tmps) = true then Oper.wp Try.prog o ac w K Q else E := by
  rw [if_pos hw]
  refine wp_store_mid 34 x y ho g 0 vs.toArray hx hy (fun j hj => ?_) (by rw [mem_size]; simp [hvs]) (by rw [List.all_toArray]; exact List.all_eq_true.2 h1) ?_
  · have hj7 : j < 7 := by simpa [hvs] using hj
    refine ⟨?_, hg.free _⟩
    rw [hg.cell, Nat.zero_add, Array.getElem?_eq_getElem (by omega)]
    rfl
  · obtain ⟨a0, a1, a2, a3, a4, a5, a6, rfl⟩ : ∃ a0 a1 a2 a3 a4 a5 a6, vs = [a0, a1, a2, a3, a4, a5, a6] := by
      match vs, hvs with
      | [a0, a1, a2, a3, a4, a5, a6], _ => exact ⟨_, _, _, _, _, _, _, rfl⟩
    obtain ⟨c0, c1, c2, c3, c4, c5, c6, rfl⟩ : ∃ a0 a1 a2 a3 a4 a5 a6, cs = #[a0, a1, a2, a3, a4, a5, a6] := by
      obtain ⟨l⟩ := cs
      match l, hcs with
      | [a0, a1, a2, a3, a4, a5, a6], _ => exact ⟨_, _, _, _, _, _, _, rfl⟩
    refine kk _ ?_ ?_
    · have h2 := ((((((hg.set_ 0 a0).set_ 1 a1).set_ 2 a2).set_ 3 a3).set_ 4 a4).set_ 5 a5).set_ 6 a6
      simp only [List.setIfInBounds_toArray, List.set_cons_zero, List.set_cons_succ] at h2
      show Blk (w.setCells g 0 [a0, a1, a2, a3, a4, a5, a6]) g 34 #[a0, a1, a2, a3, a4, a5, a6]
      simp only [World.setCells, Nat.reduceAdd]
      exact h2
    · show w.grownBy (w.setCells g 0 [a0, a1, a2, a3, a4, a5, a6]) (some g)
      simp only [World.setCells, Nat.reduceAdd]
      show w.grownBy ((((((w.setCell ⟨g, 0, none⟩ a0).setCell ⟨g, 1, none⟩ a1).setCell ⟨g, 2, none⟩ a2).setCell ⟨g, 3, none⟩ a3).setCell ⟨g, 4, none⟩ a4).setCell ⟨g, 5, none⟩ a5 |>.setCell ⟨g, 6, none⟩ a6) (some g)
      have s := fun (W : World) j u => grown_setCell W ⟨g, j, none⟩ u
      exact grown_trans (grown_trans (grown_trans (grown_trans (grown_trans (grown_trans (s _ 0 a0) (s _ 1 a1)) (s _ 2 a2)) (s _ 3 a3)) (s _ 4 a4)) (s _ 5 a5)) (s _ 6 a6)
theorem slI_one {w : World} {g : Nat} {x : Int} (h : Blk w g 3 #[.int .i64 x]) : Sl w 1 (.slice (some ⟨g, 0, none⟩) 1 1) 1 [.int .i64 x] :=
  ⟨rfl, .inr ⟨_, 1, rfl, Nat.le_refl _, by unfold maxLen; omega, fun _ => ⟨rfl, h.lt, fun j u hu => by rw [h.cell, List.getElem?_toArray, Nat.zero_add]; exact hu⟩⟩⟩
/-- What the second run hands back. -/
def PickP (b : Bool) (s : Mm) (vs : List Value) (w : World) : Prop := vs.length = 7 ∧ (∀ u ∈ vs, u.oneCell' = true) ∧ (b = true → ∃ a m, vs = memCells a m ∧ MemO w 0 a m ∧ m.er = s.er)
theorem PickP.below {b : Bool} {s : Mm} {vs : List Value} {w w' : World} (h : PickP b s vs w) (hb : Below w.heap.size w w') : PickP b s vs w' :=
  ⟨h.1, h.2.1, fun e => by obtain ⟨a, m, h1, h2, h3⟩ := h.2.2 e; exact ⟨a, m, h1, h2.below hb, h3⟩⟩
theorem PickP.box {b : Bool} {s : Mm} {vs : List Value} {w w' : World} {g : Nat} {cs : Array Value} (h : PickP b s vs w) (hg : w.grownBy w' (some g)) (hb : Blk w g 34 cs) : PickP b s vs w' :=
  ⟨h.1, h.2.1, fun e => by obtain ⟨a, m, h1, h2, h3⟩ := h.2.2 e; exact ⟨a, m, h1, h2.box hg hb, h3⟩⟩
theorem memCells_one (a : Ad) (m : Mm) : ∀ u ∈ memCells a m, u.oneCell' = true := by
  intro u hu
  simp only [memCells, List.mem_cons, List.not_mem_nil, or_false] at hu
  rcases hu with rfl | rfl | rfl | rfl | rfl | rfl | rfl <;> rfl
/-- Run, whatever the plan. -/
theorem run_pick (words mx : Int) (pl : List (List (List Ac))) (pv kv : Value) (picks : List Int) (w : World) (hpl : PlV w pv pl) (hkv : Sl w 1 kv picks.length (picks.flatMap encI)) (hpk : picks.length ≤ 900) :
    Calls Try.prog 12 #[planV words mx pv, kv] w fun e w' => ∃ vs, e = .returned (.tuple #[.agg vs.toArray, .bool (mayP words mx pl)]) ∧ PickP (mayP words mx pl) (runM words.toNat mx pl picks) vs w' ∧ Below w.heap.size w w' := by
  cases hm : mayP words mx pl with
  | false =>
    refine (run_no words mx pl pv kv w hpl hm).mono ?_
    rintro e w' ⟨rfl, hb⟩
    refine ⟨[.slice none 0 0, .int .i64 0, .int .i64 0, .slice none 0 0, .slice none 0 0, .slice none 0 0, .int .i64 0], rfl, ⟨rfl, ?_, fun h => by cases h⟩, hb⟩
    intro u hu
    simp only [List.mem_cons, List.not_mem_nil, or_false] at hu
    rcases hu with rfl | rfl | rfl | rfl | rfl | rfl | rfl <;> rfl
  | true =>
    obtain ⟨n, rfl, _⟩ := planOk_of hm
    refine (run_own n mx pl pv kv picks w hpl hkv hm hpk).mono ?_
    rintro e w' ⟨a, m, rfl, h1, h2, h3⟩
    exact ⟨_, rfl, ⟨rfl, memCells_one a m, fun _ => ⟨a, m, rfl, h1.mono (Nat.zero_le _), h2⟩⟩, h3⟩
end Go.Proofs.Ytngimbfojccikaa
