/- Several texts in one: SrDel, SrWriters, RfKit, SrVals, RfRegion. -/
import Derived.Test.YtmcbnpeihedcaaaSrStable
import Derived.Test.YtmcbnpeihedcaaaSrSrtK
import Derived.Test.YtmcbnpeihedcaaaWords
import Derived.RangeFuncNested
import Derived.RangeFuncBound
import Derived.RangeFuncCalls
import Derived.RangeFuncLeaves
import Derived.Shelf.Abstract
import Derived.Shelf.RegionOpen
import Derived.WalkKit
import Derived.OwnWalkIn
import Derived.TacticsInMore
import Derived.LoopNIn
import Derived.LoopIn
import Derived.Deep.RegionHeld3
namespace Go.Proofs.Ytmcbnpeihedcaaa
set_option linter.unusedSimpArgs false
open Go Go.RowKit
set_option linter.unusedVariables false
attribute [local go_sem ↓] Go.wp_at_zero Go.wp_at_succ

section
variable {P : Program}
/-- clear, of elements of k cells. -/
theorem run_clear_k (w : World) (t e ty : TypeId) (z : Value) (k : Nat) (ht : P.underlying t = some (.slice e)) (hv : ∀ w, (zeroValue e).run P w = .ok z w) (hz : z.cells.size = k) (h1 : ∀ v ∈ z.cells, v.oneCell' = true) (b o n c : Nat) (hn : 0 < n) (hk : 0 < k)
    (hc : ∀ j, j < n * k → (w.cell? ⟨b, o + j, none⟩).isSome = true) (hf : ∀ j, j < n * k → w.frozen? ⟨b, o + j, none⟩ = false) :
    (Builtin.clear_ #[t] ty #[.slice (some ⟨b, o, none⟩) n c]).run P w = .ok (.tuple #[]) (w.setCells b o (Builtin.zeroCells z.cells n).toList) := by
  have hl : (Builtin.zeroCells z.cells n).toList.length = n * k := by simp [Builtin.zeroCells, hz]
  have hst := run_storeCells_cells (P := P) b o (Builtin.zeroCells z.cells n).toList 0 w (by rw [hl]; simpa using hc) (by rw [hl]; simpa using hf) (by
    intro v hv'
    simp only [Builtin.zeroCells, Array.toList_map, List.mem_map] at hv'
    obtain ⟨i, _, rfl⟩ := hv'
    have hlt : i % z.cells.size < z.cells.size := Nat.mod_lt _ (by omega)
    rw [getElem!_pos z.cells _ hlt]
    exact h1 _ (Array.getElem_mem hlt))
  simp only [Nat.add_zero] at hst
  obtain ⟨m, rfl⟩ : ∃ m, n = m + 1 := ⟨n - 1, by omega⟩
  simp [Builtin.clear_, run_underlying ht, hv, hst]
theorem wpList_clear_eqn (w : World) {ops : Array Oper} {rest : List Oper} {o : Oper} {a : Act} {Q : Exit → Act → World → Prop} (hgd : o.guard = none) (s : Operand) (t : TypeId)
    (ho : o.op = .call { callee := .builtin .clear, args := #[s], argTypes := #[t] }) (u : Value) (hs : a.eval s = u) {v' : Value} {w' : World}
    (hr : (Builtin.clear_ #[t] o.type #[u]).run P w = .ok v' w') (h : wpList P ops Q rest (a.put o.dst v') w') : wpList P ops Q (o :: rest) a w :=
  wpList_plain hgd fun _ hK => by
    unfold Oper.wp execOp
    simp only [ho, resolve, invoke, builtin, Sem.run_bind, Sem.run_pure, Result.andThen_ok, List.map_toArray, List.map_cons, List.map_nil, hs, hr]
    exact hK _ _ h
end

theorem zero_rec (w : World) : (zeroValue 27).run Try.prog w = .ok (.agg #[.int .i64 0, .int .i64 0, .int .i64 0, .int .i64 0, .int .i64 0, .int .i64 0, .slice none 0 0, .slice none 0 0, .int .i64 0, .int .i64 0]) w := by kernel_rfl

section
variable {w w' : World} {base g c : Nat} {l : List Rx}
theorem wpList_store_own {ops : Array Oper} {rest : List Oper} {o : Oper} {a : Act} {Q : Exit → Act → World → Prop} (h : OwnR w base g c l) {i : Nat} (hi : i < l.length) (z : Rx) (x y : Operand) (hgd : o.guard = none) (ho : o.op = .store 27 x y)
    (hx : a.eval x = .pointer (some ⟨g, i * 10, none⟩)) (hy : a.eval y = .agg (encRx z).toArray) (k : ∀ w', OwnR w' base g c (l.set i z) → Below base w w' → wpList Try.prog ops Q rest (a.put o.dst undef) w') : wpList Try.prog ops Q (o :: rest) a w :=
  wpList_store_mid hgd _ _ _ ho g (i * 10) (encRx z).toArray hx hy (h.there hi) rec_size (rec_one' z) (k _ (h.store hi z) (below_setCells (h.form (by omega)).1 _ _ _ (Below.refl _ _)))
/-- The first part of a row. -/
theorem own_take {e : TypeId} {k n : Nat} {xs : List Value} (h : w.ownsRow base e k (.slice (some ⟨g, 0, none⟩) n c) n xs) {i : Nat} (hi : i ≤ n) : w.ownsRow base e k (.slice (some ⟨g, 0, none⟩) i c) i (xs.take (i * k)) := by
  rcases h.2 with ⟨he, _⟩ | ⟨g', c', cur, he, hg, hrow, hn, hm, hs, ht⟩
  · cases he
  · injection he with h1 _ h3
    injection h1 with h1
    injection h1 with h1 _
    subst h1 h3
    have hle : i * k ≤ n * k := Nat.mul_le_mul_right _ hi
    refine own_of (by rw [List.length_take, h.1]; omega) hg hrow (by omega) hm hs ?_
    rw [← ht, List.take_take, Nat.min_eq_left hle]
theorem foldl_set_take : ∀ (us : List Value) (i o : Nat) (ys : List Value) (m : Nat), m ≤ o + i → ((us.zipIdx i).foldl (fun l p => l.set (o + p.2) p.1) ys).take m = ys.take m
  | [], _, _, _, _, _ => rfl
  | u :: us, i, o, ys, m, h => by
    simp only [List.zipIdx_cons, List.foldl_cons]
    rw [foldl_set_take us (i + 1) o _ m (by omega), List.take_set, List.set_eq_of_length_le]
    rw [List.length_take]; omega
theorem OwnR.cut (h : OwnR w base g c l) {i : Nat} (hi : i ≤ l.length) (us : List Value) : OwnR (w.setCells g (i * 10) us) base g c (l.take i) := by
  have h1 := own_take (setCells_own us (i * 10) w _ h) hi
  rw [foldl_set_take us 0 (i * 10) _ (i * 10) (by omega)] at h1
  have h2 : (l.flatMap encRx).take (i * 10) = (l.take i).flatMap encRx := by
    conv => lhs; rw [← List.take_append_drop i l]
    rw [List.flatMap_append, List.take_append_of_le_length (by rw [flat_len encRx encRx_len, List.length_take]; omega), List.take_of_length_le (by rw [flat_len encRx encRx_len, List.length_take]; omega)]
  rw [h2] at h1
  unfold OwnR
  rw [List.length_take, Nat.min_eq_left hi]
  exact h1
theorem OwnR.clear (h : OwnR w base g c l) {i : Nat} (hi : i < l.length) (ty : TypeId) (cc : Nat) : ∃ us, (Builtin.clear_ #[22] ty #[.slice (some ⟨g, i * 10, none⟩) (l.length - i) cc]).run Try.prog w = .ok (.tuple #[]) (w.setCells g (i * 10) us) := by
  have hcell : ∀ j, j < (l.length - i) * 10 → (w.cell? ⟨g, i * 10 + j, none⟩).isSome = true ∧ w.frozen? ⟨g, i * 10 + j, none⟩ = false := by
    intro j hj
    have h1 : i + j / 10 < l.length := by omega
    have h2 := h.there h1 (j % 10) (Nat.mod_lt _ (by omega))
    rw [show (i + j / 10) * 10 + j % 10 = i * 10 + j from by omega] at h2
    exact h2
  exact ⟨_, run_clear_k w _ _ ty _ 10 Try.underlying22 zero_rec rfl (by simp [Value.cells, Value.oneCell']) g (i * 10) (l.length - i) cc (by omega) (by omega) (fun j hj => (hcell j hj).1) (fun j hj => (hcell j hj).2)⟩

/-- What DeleteFunc hands back: the row of those that are left. -/
def DelPost (base : Nat) (l : List Rx) (w : World) (e : Ending) (w' : World) : Prop :=
  ∃ v', e = .returned v' ∧ w'.ownsRow base 27 10 v' l.length (l.flatMap encRx) ∧ Below base w w'
/-- How the row stands as DeleteFunc has looked at j of it: i are left. -/
def DelI (p : Rx → Bool) (l m : List Rx) (i j : Nat) : Prop := m.length = l.length ∧ i < j ∧ m.take i = (l.take j).filter (fun x => !p x) ∧ ∀ q, j ≤ q → m[q]? = l[q]?
theorem DelI.start {p : Rx → Bool} {l : List Rx} {k : Nat} (hk : k < l.length) (h : p l[k] = true) (ha : ∀ j (h : j < k), p (l[j]'(Nat.lt_trans h hk)) = false) : DelI p l l k (k + 1) := by
  refine ⟨rfl, Nat.lt_succ_self _, ?_, fun _ _ => rfl⟩
  rw [List.take_succ_eq_append_getElem hk, List.filter_append]
  have h1 : (l.take k).filter (fun x => !p x) = l.take k := by
    rw [List.filter_eq_self]
    intro x hx
    obtain ⟨j, hj, rfl⟩ := List.getElem_of_mem hx
    rw [List.length_take] at hj
    rw [List.getElem_take, ha j (by omega)]; rfl
  rw [h1]
  simp [h]
theorem DelI.skip {p : Rx → Bool} {l m : List Rx} {i j : Nat} (h : DelI p l m i j) (hj : j < l.length) (hp : p l[j] = true) : DelI p l m i (j + 1) := by
  obtain ⟨h1, h2, h3, h4⟩ := h
  refine ⟨h1, by omega, ?_, fun q hq => h4 q (by omega)⟩
  rw [List.take_succ_eq_append_getElem hj, List.filter_append, h3]
  simp [hp]
theorem DelI.put {p : Rx → Bool} {l m : List Rx} {i j : Nat} (h : DelI p l m i j) (hj : j < l.length) (hp : p l[j] = false) : DelI p l (m.set i l[j]) (i + 1) (j + 1) := by
  obtain ⟨h1, h2, h3, h4⟩ := h
  refine ⟨by simp [h1], by omega, ?_, fun q hq => by rw [List.getElem?_set_ne (by omega)]; exact h4 q (by omega)⟩
  rw [List.take_succ_eq_append_getElem hj, List.filter_append, ← h3, List.take_succ_eq_append_getElem (by simp; omega), List.getElem_set_self, List.take_set, List.set_eq_of_length_le (by rw [List.length_take]; omega)]
  simp [hp]
theorem DelI.done {p : Rx → Bool} {l m : List Rx} {i : Nat} (h : DelI p l m i l.length) : m.take i = l.filter (fun x => !p x) := by
  have := h.2.2.1
  rwa [List.take_length] at this
end

theorem idxF_cases {α : Type} (p : α → Bool) (l : List α) : (idxF p l = -1 ∧ ∀ x ∈ l, p x = false) ∨ ∃ (k : Nat) (hk : k < l.length), idxF p l = (k : Int) ∧ p l[k] = true ∧ ∀ j (h : j < k), p (l[j]'(Nat.lt_trans h hk)) = false := by
  unfold idxF
  by_cases h : l.findIdx p < l.length
  · rw [if_pos h]
    refine .inr ⟨l.findIdx p, h, rfl, List.findIdx_getElem, fun j hj => ?_⟩
    have := List.not_of_lt_findIdx hj
    cases h : p l[j] with
    | false => rfl
    | true => rw [h] at this; cases this
  · rw [if_neg h]
    refine .inl ⟨rfl, fun x hx => ?_⟩
    cases hp : p x with
    | false => rfl
    | true => exact absurd (List.findIdx_lt_length.2 ⟨x, hx, hp⟩) h

set_option maxRecDepth 100000 in
set_option maxHeartbeats 4000000 in
theorem del_rec (p : Rx → Bool) (gf : Nat) (lb : Array Value) (eg : ∀ args w, (callFunc gf args).run Try.prog w = .ok (.enter gf args) w) (base : Nat) (v : Value) (l : List Rx) (w : World) (hbase : base ≤ w.heap.size) (hn : l.length ≤ 100000)
    (hp : ∀ (W : World) (x : Rx), Calls Try.prog gf (#[Value.agg (encRx x).toArray] ++ lb) W fun e w' => e = .returned (.bool (p x)) ∧ Below W.heap.size W w') (hr : w.ownsRow base 27 10 v l.length (l.flatMap encRx)) :
    Calls Try.prog 21 #[v, .func (.func gf) #[] lb] w (DelPost base (l.filter (fun x => !p x)) w) := by
  have hcon := index_rec p gf lb eg v l w (fun W x _ => hp W x) (Sl.of_own hr)
  rcases idxF_cases p l with ⟨h0, hall⟩ | ⟨k, hk, h0, hpk, hall⟩
  · rw [h0] at hcon
    have hfl : l.filter (fun x => !p x) = l := by
      rw [List.filter_eq_self]
      intro x hx
      rw [hall x hx]; rfl
    rw [hfl]
    have HR := Lib.hid hr
    clear hr hfl hall h0 hp
    go_enter Try.func21, Try.ntmps21
    go_wp2_with fail
    refine hcon.mono ?_
    rintro e w1 ⟨rfl, hb1⟩
    have HB := Lib.hid hb1
    clear hb1
    go_wp2
    go_ret
    exact ⟨_, rfl, own_below HR.out HB.out, HB.out.mono hbase⟩
  · rw [h0] at hcon
    obtain ⟨g, cur, c', rfl, hg, _⟩ := own_form hr (by omega)
    have hO : OwnR w base g cur l := hr
    have HO := Lib.hid hO
    have hgl : base ≤ g := hg
    obtain ⟨n, hnn⟩ : ∃ n, n = l.length := ⟨_, rfl⟩
    have hcl := (hO.form (by omega)).2.2
    have hcl1 : (n : Int) ≤ (cur : Int) := by have := hcl.1; omega
    have hcl2 : cur ≤ 9223372036854775807 := by have := hcl.2; unfold maxLen at this; omega
    have HDS := Lib.hid (DelI.start hk hpk hall)
    have HL := Lib.hid hnn
    have HP := Lib.hid hp
    rw [← hnn] at hcon hn hk ⊢
    clear hr hO hpk hall h0 hnn hp hcl
    go_enter Try.func21, Try.ntmps21
    go_wp2_with fail
    refine hcon.mono ?_
    rintro e w1 ⟨rfl, hb1⟩
    have HB := Lib.hid hb1
    clear hb1 hcon
    have hk1 : ((k : Int) == -1) = false := by rw [beq_eq_false_iff_ne]; omega
    go_upto_block 0 with fail
    go_cut [5] (fun s5 wx => ∃ (i : Nat) (m : List Rx), s5 = .int .i64 i ∧ Hid (DelI p l m i l.length ∧ OwnR wx base g cur m ∧ Below base w wx))
    case first =>
      as_aux_lemma =>
      go_wp2_with fail
      go_loopg [5, 6] n (fun gg s5 s6 wr => ∃ (i j : Nat) (m : List Rx), s5 = .int .i64 i ∧ s6 = .int .i64 j ∧ i < j ∧ j ≤ n ∧ n - j ≤ gg ∧ Hid (DelI p l m i j ∧ OwnR wr base g cur m ∧ Below base w wr))
      case atStart => exact ⟨k, k + 1, l, rfl, by go_num, by omega, by omega, by omega, ⟨HDS.out, HO.out.keep HB.out, HB.out.mono hbase⟩⟩
      case round =>
        obtain ⟨i, j, m, rfl, rfl, hij, hjn, hg, HM⟩ := hrel
        by_cases hlt : j < n
        · have hltz : (j : Int) < (n : Int) := by omega
          have hjl : j < l.length := by have := HL.out; omega
          have hil : i < m.length := by have h1 := HM.out.1.1; omega
          have HX0 := Lib.hid (show m[j]? = some l[j] from by rw [HM.out.1.2.2.2 j (Nat.le_refl _)]; exact List.getElem?_eq_getElem hjl)
          have HSK := Lib.hid (fun h : p l[j] = true => HM.out.1.skip hjl h)
          have HPT := Lib.hid (fun h : p l[j] = false => HM.out.1.put hjl h)
          generalize l[j] = x at *
          have r1 := HM.out.2.1.at_ HX0.out
          have c0 := r1 0 _ rfl
          have c1 := r1 1 _ rfl
          have c2 := r1 2 _ rfl
          have c3 := r1 3 _ rfl
          have c4 := r1 4 _ rfl
          have c5 := r1 5 _ rfl
          have c6 := r1 6 _ rfl
          have c7 := r1 7 _ rfl
          have c8 := r1 8 _ rfl
          have c9 := r1 9 _ rfl
          simp only [Nat.add_zero] at c0
          have hj0 : (0 : Int) ≤ (j : Int) := by omega
          have hi0 : (0 : Int) ≤ (i : Int) := by omega
          have hi1 : (i : Int) < (n : Int) := by omega
          have hgw := (HM.out.2.1.form (by omega)).2.1
          obtain ⟨cu, hgw⟩ := hgw
          have hglt := hgw.lt
          have hcall := fun W => HP.out W x
          have HA := Lib.hid ((Below.refl wr.heap.size wr).alloc (Nat.le_refl _) (.cells (encRx x).toArray 27))
          have HBW := Lib.hid (show base ≤ wr.heap.size from by have := HM.out.2.2.size; omega)
          clear r1 hgw
          cases hq : p x with
          | true =>
            rw [hq] at hcall
            have HQ := Lib.hid hq
            clear hq
            simp only [encRx] at hcall
            go_wp2_with (go_at_fn gf; refine (hcall _).mono ?_; rintro e w3 ⟨rfl, hb3⟩)
            have HB3 := Lib.hid (HA.out.trans (hb3.mono HA.out.size))
            go_roundg (n - (j + 1))
            case measure => omega
            case rel => exact ⟨i, j + 1, m, rfl, by go_num, by omega, by omega, by omega, (show Hid _ from ⟨HSK.out HQ.out, HM.out.2.1.keep HB3.out, HM.out.2.2.trans (HB3.out.mono HBW.out)⟩)⟩
          | false =>
            rw [hq] at hcall
            have HQ := Lib.hid hq
            clear hq
            simp only [encRx] at hcall
            go_upto_region 9 with (go_at_fn gf; refine (hcall _).mono ?_; rintro e w3 ⟨rfl, hb3⟩)
            have HB3 := Lib.hid (HA.out.trans (hb3.mono HA.out.size))
            obtain ⟨hc3, hf3⟩ := bcell hb3
            have hz3 := hb3.size
            simp at hz3
            have hw3 : wr.heap.size < w3.heap.size := by omega
            have HO3 := Lib.hid (HM.out.2.1.keep HB3.out)
            clear hb3 c0 c1 c2 c3 c4 c5 c6 c7 c8 c9
            go_wp2_with (refine wpList_store_own HO3.out hil x _ _ rfl rfl rfl rfl ?_; intro w4 hO4 hB4)
            have HO4 := Lib.hid hO4
            have HB4 := Lib.hid hB4
            clear hO4 hB4
            go_roundg (n - (j + 1))
            case measure => omega
            case rel => exact ⟨i + 1, j + 1, m.set i x, by go_num, by go_num, by omega, by omega, by omega, (show Hid _ from ⟨HPT.out HQ.out, HO4.out, (HM.out.2.2.trans (HB3.out.mono HBW.out)).trans HB4.out⟩)⟩
        · have hltz : ¬ (j : Int) < (n : Int) := by omega
          obtain rfl : j = n := by omega
          have HF := Lib.hid (show DelI p l m i l.length ∧ OwnR wr base g cur m ∧ Below base w wr from by have := HM.out; rw [HL.out] at this; exact this)
          go_wp2
          go_meet
          exact ⟨i, m, rfl, HF.out⟩
    case rest =>
      obtain ⟨i, m, rfl, HM⟩ := hcut
      obtain ⟨w2, rfl⟩ : ∃ x : World, x = wc := ⟨_, rfl⟩
      have hin : i < n := by have h1 := HM.out.1.2.1; have := HL.out; omega
      have hin1 : (0 : Int) ≤ (i : Int) := by omega
      have hin2 : (i : Int) ≤ (n : Int) := by omega
      have hin3 : (i : Int) < (n : Int) := by omega
      have hin4 : (i : Int) ≤ (cur : Int) := by omega
      have hml : m.length = n := by have h1 := HM.out.1.1; have := HL.out; omega
      have hil : i < m.length := by omega
      have hus := fun ty => HM.out.2.1.clear hil ty (cur - i)
      rw [hml] at hus
      have HUS := Lib.hid hus
      have HCUT := Lib.hid (fun us => (show (w2.setCells g (i * 10) us).ownsRow base 27 10 (.slice (some ⟨g, 0, none⟩) i cur) (l.filter (fun x => !p x)).length ((l.filter (fun x => !p x)).flatMap encRx) from by
        have h1 := HM.out.2.1.cut (Nat.le_of_lt hil) us
        have h2 := HM.out.1.done
        have h3 : (m.take i).length = i := by rw [List.length_take]; omega
        unfold OwnR at h1
        rw [h3, h2] at h1
        rw [← h2, h3, h2]
        exact h1))
      clear hus hml
      go_upto_region 12 with (obtain ⟨us, hus⟩ := HUS.out _; refine wpList_clear_eqn _ rfl _ _ rfl _ rfl hus ?_; clear hus)
      go_wp2
      go_ret
      exact ⟨_, rfl, HCUT.out _, below_setCells hgl _ _ _ HM.out.2.2⟩
end Go.Proofs.Ytmcbnpeihedcaaa
namespace Go.Proofs.Ytmcbnpeihedcaaa
set_option linter.unusedSimpArgs false
open Go Go.RowKit
set_option linter.unusedVariables false
attribute [local go_sem ↓] Go.wp_at_zero Go.wp_at_succ

/-- The tries that write, by rising versions. -/
def wsOf (h : List Rx) : List Rx := srtK Rx.wv (h.filter writesX)
/-- The function that hands on tries. -/
def WrV (w : World) (base : Nat) (v : Value) (ws : List Rx) : Prop :=
  ∃ bx sv, v = .func (.func 50) #[] #[.pointer (some ⟨bx, 0, none⟩)] ∧ base ≤ bx ∧ Blk w bx 22 #[sv] ∧ w.ownsRow base 27 10 sv ws.length (ws.flatMap encRx)
def WrPost (base : Nat) (ws : List Rx) (w : World) (e : Ending) (w' : World) : Prop := ∃ v', e = .returned v' ∧ WrV w' base v' ws ∧ Below w.heap.size w w'

set_option maxHeartbeats 1000000 in
theorem sortst_nil (f : Value) (w : World) :
    Calls Try.prog 30 #[.slice none 0 0, f] w fun e w' => e = .returned (.tuple #[]) ∧ w = w' := by
  have h1 : ∀ w, Calls Try.prog 64 #[.slice none 0 0, .int .i64 0, .int .i64 0, f] w fun e w' => e = .returned (.tuple #[]) ∧ w = w' := fun w => by
    go_enter Try.func64, Try.ntmps64
    go_wp2_with fail
    refine wp_loop_rounds 1 ?_
    rw [rounds_succ]
    go_wp2
    go_end0
    exact ⟨rfl, rfl⟩
  have h2 : ∀ w, Calls Try.prog 48 #[.slice none 0 0, .int .i64 0, f] w fun e w' => e = .returned (.tuple #[]) ∧ w = w' := fun w => by
    go_enter Try.func48, Try.ntmps48
    go_wp2_with fail
    refine wp_loop_rounds 1 ?_
    rw [rounds_succ]
    go_wp2_with fail
    refine (h1 _).mono ?_
    rintro e w' ⟨rfl, rfl⟩
    go_wp2_with fail
    refine wp_loop_rounds 1 ?_
    rw [rounds_succ]
    go_wp2
    go_end0
    exact ⟨rfl, rfl⟩
  go_enter Try.func30, Try.ntmps30
  go_wp2_with fail
  refine (h2 _).mono ?_
  rintro e w' ⟨rfl, rfl⟩
  go_wp2
  go_end0
  exact ⟨rfl, rfl⟩

/-- Whatever row of tries of one's own. -/
theorem sortst_own (base : Nat) (v : Value) (l : List Rx) (w : World) (hr : w.ownsRow base 27 10 v l.length (l.flatMap encRx)) (hn : l.length ≤ 100000) (hbase : base ≤ w.heap.size) :
    Calls Try.prog 30 #[v, .func (.func 31) #[] #[]] w fun e w' => e = .returned (.tuple #[]) ∧ w'.ownsRow base 27 10 v (srtK Rx.wv l).length ((srtK Rx.wv l).flatMap encRx) ∧ Below base w w' := by
  rcases hr.2 with ⟨rfl, h0⟩ | ⟨g, c, cur, rfl, _⟩
  · obtain rfl : l = [] := List.eq_nil_of_length_eq_zero h0
    refine (sortst_nil _ w).mono ?_
    rintro e w' ⟨rfl, rfl⟩
    exact ⟨rfl, hr, Below.refl _ _⟩
  · refine (sortst_any base g c l w hr hn hbase).mono ?_
    rintro e w' ⟨rfl, l', hl', hO, hS, hT, hB⟩
    have := srtK_uniq hS hT
    subst this
    refine ⟨rfl, ?_, hB⟩
    unfold OwnR at hO
    rw [hl'] at hO ⊢
    exact hO

set_option maxRecDepth 100000 in
set_option maxHeartbeats 1000000 in
theorem values_any (base : Nat) (v : Value) (ws : List Rx) (w : World) (hbase : base ≤ w.heap.size) (hv : w.ownsRow base 27 10 v ws.length (ws.flatMap encRx)) :
    Calls Try.prog 33 #[v] w (WrPost base ws w) := by
  have hb := (Below.refl w.heap.size w).alloc (Nat.le_refl _) (.cells #[v] 22)
  have hb2 := (Below.refl w.heap.size w).alloc (Nat.le_refl _) (.cells #[v] 22)
  obtain ⟨A, c, rfl, _, _⟩ := (Sl.of_own hv).form
  have HV := Lib.hid hv
  clear hv
  go_enter Try.func33, Try.ntmps33
  go_wp2
  go_ret
  exact ⟨_, rfl, ⟨_, _, rfl, hbase, Blk.new _ _ _, own_below HV.out hb⟩, hb⟩

set_option maxRecDepth 100000 in
set_option maxHeartbeats 2000000 in
theorem writers_any (v : Value) (h : List Rx) (w : World) (hv : RecsV w v h) (hn : h.length ≤ 100000) :
    Calls Try.prog 17 #[v] w (WrPost w.heap.size (wsOf h) w) := by
  have e1 : ∀ args w, (callFunc 29 args).run Try.prog w = .ok (.enter 29 args) w := enters_of Try.func29 (by kernel_rfl) rfl
  have HC := Lib.hid (clone_rec v h.length _ w hv.1 (encRx_one h) (by omega))
  have HD := Lib.hid (fun base v l w h1 h2 h3 => del_rec (fun x => !writesX x) 29 #[] e1 base v l w h1 h2 (fun W x => wr1_any x W) h3)
  clear hv e1
  go_enter Try.func17, Try.ntmps17
  go_wp2_with fail
  refine HC.out.mono ?_
  rintro e w1 ⟨v1, rfl, hO1, hB1⟩
  have HO1 := Lib.hid hO1
  have HB1 := Lib.hid hB1
  clear hO1 hB1
  go_wp2_with fail
  refine (HD.out w.heap.size v1 h _ HB1.out.size hn HO1.out).mono ?_
  rintro e w2 ⟨v2, rfl, hO2, hB2⟩
  have hO2 : w2.ownsRow w.heap.size 27 10 v2 (h.filter writesX).length ((h.filter writesX).flatMap encRx) := by simpa using hO2
  have HO2 := Lib.hid hO2
  have HB2 := Lib.hid (HB1.out.trans hB2)
  clear hO2 hB2
  have hfl := List.length_filter_le writesX h
  go_wp2_with fail
  refine (sortst_own w.heap.size v2 (h.filter writesX) _ HO2.out (by omega) HB2.out.size).mono ?_
  rintro e w3 ⟨rfl, hO3, hB3⟩
  have HO3 := Lib.hid hO3
  have HB3 := Lib.hid (HB2.out.trans hB3)
  clear hO3 hB3
  go_wp2_with fail
  refine (values_any w.heap.size v2 (wsOf h) _ HB3.out.size HO3.out).mono ?_
  rintro e w4 ⟨v4, rfl, hW, hB4⟩
  have HW := Lib.hid hW
  have HB4 := Lib.hid hB4
  clear hW hB4
  go_wp2
  go_ret
  exact ⟨_, rfl, HW.out, HB3.out.trans (HB4.out.mono HB3.out.size)⟩
end Go.Proofs.Ytmcbnpeihedcaaa
namespace Go.Proofs.Ytmcbnpeihedcaaa
set_option linter.unusedSimpArgs false
open Go Go.RowKit Go.Shelf
set_option linter.unusedVariables false

section
variable {F : Fence} {n : Nat} {P : Program}

/-- A loop inside a fence; the round's way back is kept out of the walk's sight. -/
theorem wpIn_loop_k {c : Code} {Q : Exit → Act → World → Prop} {a : Act} {w : World} (I : Act → World → Prop) (μ : Act → World → Nat) (h₀ : I a w)
    (round : ∀ a w, I a w → ∀ K : Act → World → Prop, Hid (∀ a' w', I a' w' → μ a' w' < μ a w → K a' w') → c.wpIn F n P (Exit.then K Q) a w) : (Code.loop c).wpIn F n P Q a w :=
  wpIn_loop I μ h₀ fun a w h => round a w h _ fun _ _ h1 h2 => ⟨h1, h2⟩

/-- The mark of a loop over a function. -/
def markD (D : Nat) : Deferred := { target := .collected D, args := #[] }

/-- Nothing has turned but blocks from B on that are no cells, none of them a block of cells. -/
def QuietD (B : Nat) (W W' : World) : Prop := (∀ g t cs, Blk W g t cs → Blk W' g t cs) ∧ Below B W W'
theorem QuietD.refl (B : Nat) (W : World) : QuietD B W W := ⟨fun _ _ _ h => h, Below.refl _ _⟩
theorem QuietD.trans {B : Nat} {W W' W2 : World} (h : QuietD B W W') (h2 : QuietD B W' W2) : QuietD B W W2 := ⟨fun g t cs h3 => h2.1 g t cs (h.1 g t cs h3), h.2.trans h2.2⟩
theorem QuietD.putObj {B : Nat} {W : World} {D : Nat} {o : Obj} (o' : Obj) (h : W.heap[D]? = some o) (ho : o.isCells = false) (hB : B ≤ D) : QuietD B W (W.putObj D o') := by
  refine ⟨fun g t cs hb => ?_, ?_⟩
  · have hne : g ≠ D := by
      intro e
      subst e
      unfold Blk at hb
      rw [h] at hb
      injection hb with hb
      subst hb
      simp [Obj.isCells] at ho
    exact (World.putObj_heap_other hne).trans hb
  · exact (Below.refl B W).grown (grownBy_putObj' W D o') (by have := (Array.getElem?_eq_some_iff.1 h).1; omega) (fun k e => by cases e; exact hB)

theorem QuietD.own {B : Nat} {W W' : World} (h : QuietD B W W') {base : Nat} {e : TypeId} {k n : Nat} {v : Value} {xs : List Value} (hr : W.ownsRow base e k v n xs) : W'.ownsRow base e k v n xs := by
  refine ⟨hr.1, ?_⟩
  rcases hr.2 with h1 | ⟨g, cap, cur, rfl, h1, h2, h3⟩
  · exact .inl h1
  · exact .inr ⟨g, cap, cur, rfl, h1, h.1 g _ _ h2, h3⟩

/-- A function leaves, with marks of loops that nothing was deferred in. -/
theorem leaves_marks {fn : Func} {tmps : Array Value} {R : Ending → World → Prop} {B : Nat} : ∀ (Ds : List Nat) (W : World), Ds.Nodup → (∀ D ∈ Ds, B ≤ D ∧ W.heap[D]? = some (.deferred (some []))) →
    (∀ W', QuietD B W W' → ∃ v, (results fn tmps).run P W' = .ok v W' ∧ R (.returned v) W') → LeavesInM F n P fn tmps R (Ds.map markD) .returning W
  | [], W, _, _, h => h W (QuietD.refl B W)
  | D :: Ds, W, hn, hD, h => by
    rw [List.nodup_cons] at hn
    refine ⟨by simp, .inl ⟨D, W.putObj D (.deferred none), rfl, run_takeDeferred (hD D (by simp)).2, ?_⟩⟩
    have hq := QuietD.putObj (B := B) (.deferred none) (hD D (by simp)).2 rfl (hD D (by simp)).1
    refine leaves_marks Ds _ hn.2 (fun D' hD' => ⟨(hD D' (by simp [hD'])).1, ?_⟩) fun W' h' => h W' (hq.trans h')
    have hne : D' ≠ D := fun e => hn.1 (by rw [← e]; exact hD')
    exact (World.putObj_heap_other hne).trans (hD D' (by simp [hD'])).2

/-- Blocks of cells abide what a loop over a function keeps its books with. -/
theorem blk_own {β : Type} (f : β → Nat) (t : β → TypeId) (cs : β → Array Value) : Own (fun s W => Blk W (f s) (t s) (cs s)) := by
  intro s W W' row hs hg hr
  refine hs.grown hg ?_
  intro e
  obtain ⟨o, ho, hc⟩ := hr _ e.symm
  have hs : W.heap[f s]? = some (.cells (cs s) (t s) (0, 0)) := hs
  rw [hs] at ho
  injection ho with ho
  subst ho
  simp [Obj.isCells] at hc
theorem mark_own {β : Type} {B : Nat} (D : β → Nat → Prop) (hB : ∀ s d, D s d → d < B) : OwnFrom B (fun s W => ∀ d, D s d → W.heap[d]? = some (.deferred (some []))) := by
  intro s W W' row hs hg hr d hd
  have h1 := hs d hd
  refine (hg.block d (Array.getElem?_eq_some_iff.1 h1).1 ?_).trans h1
  intro e
  have := (hr _ e.symm).1
  have := hB s d hd
  omega
theorem mark_far {W : World} {d g o : Nat} {u : Value} (h : W.heap[d]? = some (.deferred (some []))) (hne : d ≠ g) : (W.setCell ⟨g, o, none⟩ u).heap[d]? = some (.deferred (some [])) :=
  (Below.heap_setCell W ⟨g, o, none⟩ u d hne).trans h
theorem keeps_below {B : Nat} {W W' : World} (_h : B ≤ W.heap.size) (hb : Below W.heap.size W W') : KeepsFrom B W W' :=
  ⟨hb.size, fun k o _ hk _ => (hb.block k (Array.getElem?_eq_some_iff.1 hk).1).trans hk⟩
theorem keeps_setCell (B : Nat) (W : World) (a : Addr) (v : Value) : KeepsFrom B W (W.setCell a v) := (KeepsOthers.setCell W a v).from B
end
end Go.Proofs.Ytmcbnpeihedcaaa
namespace Go.Proofs.Ytmcbnpeihedcaaa
set_option linter.unusedSimpArgs false
open Go Go.RowKit Go.Shelf
set_option linter.unusedVariables false
attribute [local go_sem] Oper.semAt_some

theorem abides_alloc {β : Type} {B : Nat} {J : β → World → Prop} (h : AbidesFrom B J) {s : β} {W : World} (hs : J s W) (o : Obj) : J s (W.alloc o) :=
  h s W _ none hs (World.grownBy_alloc W o none) (fun r e => by cases e)

/-- Blocks from lo on below hi are as they were. -/
def KpM (lo hi : Nat) (W W' : World) : Prop := W.heap.size ≤ W'.heap.size ∧ ∀ k, lo ≤ k → k < hi → W'.heap[k]? = W.heap[k]?
theorem KpM.refl (lo hi : Nat) (W : World) : KpM lo hi W W := ⟨Nat.le_refl _, fun _ _ _ => rfl⟩
theorem KpM.trans {lo hi : Nat} {A B C : World} (h : KpM lo hi A B) (h2 : KpM lo hi B C) : KpM lo hi A C := ⟨Nat.le_trans h.1 h2.1, fun k a b => (h2.2 k a b).trans (h.2 k a b)⟩
theorem KpM.below {lo hi B : Nat} {A C : World} (h : Below B A C) (hb : hi ≤ B) : KpM lo hi A C := ⟨h.size, fun k _ b => h.block k (by omega)⟩
theorem KpM.alloc {lo hi : Nat} {A : World} (h : hi ≤ A.heap.size) (o : Obj) : KpM lo hi A (A.alloc o) := KpM.below ((Below.refl A.heap.size A).alloc (Nat.le_refl _) o) h
theorem KpM.setCell {lo hi : Nat} {A : World} {p : Addr} (h : p.block < lo ∨ hi ≤ p.block) (u : Value) : KpM lo hi A (A.setCell p u) :=
  ⟨by simp, fun k a b => Below.heap_setCell A p u k (by omega)⟩
theorem KpM.putObj {lo hi B : Nat} {A : World} {l : Nat} {o : Obj} (hl : A.heap[l]? = some o) (hB : hi ≤ B) (h : B ≤ l) (o' : Obj) : KpM lo hi A (A.putObj l o') :=
  ⟨(grownBy_putObj' A l o').size, fun k a b => World.putObj_heap_other (by omega)⟩
theorem KpM.cell {lo hi : Nat} {A C : World} (h : KpM lo hi A C) {p : Addr} (h1 : lo ≤ p.block) (h2 : p.block < hi) : C.cell? p = A.cell? p := World.cell?_of_block (h.2 _ h1 h2)

set_option maxRecDepth 100000 in
set_option maxHeartbeats 2000000 in
theorem values1_in {α : Type} (f : α → Rx) (F : Fence) (n : Nat) (hF : F.fn 50) (hro : F.round = none) (hn : 1 ≤ n) (l Bs lo hi b off cap B0 : Nat) (xs : List α) (hlen : xs.length ≤ 100000) (hb : lo ≤ b) (hb2 : b < hi) (J Jx : List α → World → Prop) (hJ : AbidesFrom B0 J)
    (hY : ∀ pre x W, J pre W → pre.length < xs.length → YieldAt F (n - 1) Try.prog l #[.agg (encRx (f x)).toArray] W fun e W' =>
      (e = .returned (.bool true) ∧ J (pre ++ [x]) W' ∧ KpM lo hi W W') ∨ (e = .returned (.bool false) ∧ Jx (pre ++ [x]) W'))
    (W : World) (hn₀ : hi ≤ W.heap.size) (hBs : W.cell? ⟨Bs, 0, none⟩ = some (.slice (some ⟨b, off, none⟩) xs.length cap)) (hc : ∀ j (hj : j < xs.length) i u, (encRx (f xs[j]))[i]? = some u → W.cell? ⟨b, off + j * 10 + i, none⟩ = some u) (h0 : J [] W) :
    CallsIn F n Try.prog 50 #[.func (.yield l) #[] #[], .pointer (some ⟨Bs, 0, none⟩)] W fun e W' => (∃ v, e = .returned v) ∧
      ((∃ ys, ys = xs ∧ J ys W') ∨ (∃ pre, (∃ k, k < xs.length ∧ pre = xs.take (k + 1)) ∧ Jx pre W')) := by
  obtain ⟨len, hlen'⟩ : ∃ len, xs.length = len := ⟨_, rfl⟩
  have HLEN := Lib.hid hlen'
  have HC := Lib.hid hc
  rw [hlen'] at hBs hY hlen
  clear hlen' hc
  refine callsIn_of_wp Try.func50 rfl hF ?_ hro
  simp only [Try.ntmps50, List.size_toArray, List.length_cons, List.length_nil, Nat.reduceAdd, Nat.reduceSub, Array.replicate_succ, Array.replicate_zero, List.push_toArray, List.append_toArray, List.nil_append, List.cons_append]
  gi_wp2
  gi_loopw [7] (fun i wr => ∃ k : Nat, k ≤ len ∧ i = .int .i64 k ∧ J (xs.take k) wr ∧ KpM lo hi W wr)
    (fun i _ => len - (intOf i).toNat)
  case atStart => exact ⟨0, Nat.zero_le _, rfl, h0, KpM.refl _ _ _⟩
  case round =>
    obtain ⟨k, hk, rfl, hJs, hnx⟩ := hrel
    by_cases hlt : k < len
    · have hkx : k < xs.length := by rw [HLEN.out]; exact hlt
      have hel := fun i u hu => (hnx.cell (p := ⟨b, off + k * 10 + i, none⟩) hb hb2).trans (HC.out k hkx i u hu)
      obtain ⟨x, hx⟩ : ∃ x, x = xs[k] := ⟨_, rfl⟩
      rw [← hx] at hel
      have HT := Lib.hid (show xs.take (k + 1) = xs.take k ++ [x] from by rw [List.take_succ_eq_append_getElem hkx, hx])
      have c0 := hel 0 _ rfl
      have c1 := hel 1 _ rfl
      have c2 := hel 2 _ rfl
      have c3 := hel 3 _ rfl
      have c4 := hel 4 _ rfl
      have c5 := hel 5 _ rfl
      have c6 := hel 6 _ rfl
      have c7 := hel 7 _ rfl
      have c8 := hel 8 _ rfl
      have c9 := hel 9 _ rfl
      simp only [Nat.add_zero] at c0
      have hz : hi ≤ wr.heap.size := by have := hnx.1; omega
      obtain ⟨fn, tmps, assign, body, hy, hR⟩ := hY _ x (wr.alloc (.cells (encRx (f x)).toArray 27)) (abides_alloc hJ hJs _) (by rw [List.length_take, HLEN.out]; omega)
      simp only [encRx] at hy hR
      have HB := Lib.hid (hnx.trans (KpM.alloc hz (.cells (encRx (f x)).toArray 27)))
      clear hY hx hel
      gi_wp2
      refine hR.mono ?_
      rintro e W3 (⟨rfl, hJ3, hk3⟩ | ⟨rfl, hJx3⟩)
      · gi_wp2
        go_roundw
        case rel => exact ⟨k + 1, by omega, by simp, by rw [HT.out]; exact hJ3, HB.out.trans hk3⟩
        case measure => simp [intOf]; omega
      · gi_wp2
        refine bodyPost_ret (results_none rfl _ _ _) rfl ?_
        exact ⟨⟨_, rfl⟩, .inr ⟨_, ⟨k, hkx, HT.out.symm⟩, hJx3⟩⟩
    · obtain rfl : k = len := by omega
      gi_wp2
      go_end0
      exact ⟨⟨_, rfl⟩, .inl ⟨_, List.take_of_length_le (by rw [HLEN.out]; exact Nat.le_refl _), hJs⟩⟩

set_option maxRecDepth 100000 in
set_option maxHeartbeats 1000000 in
theorem values1_nil_in {α : Type} (F : Fence) (n : Nat) (hF : F.fn 50) (hro : F.round = none) (l Bs : Nat) (A : Option Addr) (c : Nat) (J : List α → World → Prop) (W : World) (hBs : W.cell? ⟨Bs, 0, none⟩ = some (.slice A 0 c)) (h0 : J [] W) :
    CallsIn F n Try.prog 50 #[.func (.yield l) #[] #[], .pointer (some ⟨Bs, 0, none⟩)] W fun e W' => (∃ v, e = .returned v) ∧ J [] W' := by
  refine callsIn_of_wp Try.func50 rfl hF ?_ hro
  simp only [Try.ntmps50, List.size_toArray, List.length_cons, List.length_nil, Nat.reduceAdd, Nat.reduceSub, Array.replicate_succ, Array.replicate_zero, List.push_toArray, List.append_toArray, List.nil_append, List.cons_append]
  gi_wp2
  gi_loopw [7] (fun i wr => i = .int .i64 0 ∧ J [] wr) (fun _ _ => 0)
  case atStart => exact ⟨rfl, h0⟩
  case round =>
    obtain ⟨rfl, hJs⟩ := hrel
    gi_wp2
    go_end0
    exact ⟨⟨_, rfl⟩, hJs⟩

/-- Tries in a row of one's own, from lo on below hi, behind a box: to range over. -/
theorem values_stops {α : Type} (f : α → Rx) (F : Fence) (n : Nat) (hF : F.fn 50) (hro : F.round = none) (hn : 1 ≤ n) (Bs lo hi : Nat) (sv : Value) (xs : List α) (hlen : xs.length ≤ 100000) (w : World) (hw : w.heap.size = hi)
    (hc : Blk w Bs 22 #[sv]) (hv : w.ownsRow lo 27 10 sv xs.length ((xs.map f).flatMap encRx)) :
    SeqStopsK F n Try.prog 50 #[.pointer (some ⟨Bs, 0, none⟩)] (fun x : α => #[.agg (encRx (f x)).toArray]) (KpM lo hi) (fun ys => ys = xs) (fun pre => ∃ k, k < xs.length ∧ pre = xs.take (k + 1)) xs.length w := by
  intro l J Jx W hW hJ _ hY h0
  have hc' := ((hW.cell (p := ⟨Bs, 0, none⟩) hc.lt).trans (hc.cell 0) : W.cell? ⟨Bs, 0, none⟩ = some sv)
  rcases Nat.eq_zero_or_pos xs.length with h | h
  · obtain rfl : xs = [] := List.eq_nil_of_length_eq_zero h
    obtain ⟨A, c, rfl, _, _⟩ := (Sl.of_own hv).form
    refine (values1_nil_in F n hF hro l Bs A c J W hc' h0).mono ?_
    rintro e W' ⟨h1, h2⟩
    exact ⟨h1, .inl ⟨_, rfl, h2⟩⟩
  · obtain ⟨g, c, cur, rfl, hg, hrow, _⟩ := own_form hv h
    refine values1_in f F n hF hro hn l Bs lo hi g 0 c W.heap.size xs hlen hg (by have := hrow.lt; omega) J Jx hJ hY W (by have := hW.size; omega) hc' (fun j hj i u hu => ?_) h0
    have hj2 : j < (xs.map f).length := by rw [List.length_map]; exact hj
    have hu2 : (encRx (xs.map f)[j])[i]? = some u := by rw [List.getElem_map]; exact hu
    have := hv.cells (g := g) rfl _ _ (flat_get encRx encRx_len (xs.map f) j hj2 i u hu2)
    rw [add_none, Nat.zero_add] at this
    rw [Nat.zero_add]
    exact (hW.cell (p := ⟨g, j * 10 + i, none⟩) hrow.lt).trans this
end Go.Proofs.Ytmcbnpeihedcaaa
namespace Go.Proofs.Ytmcbnpeihedcaaa
set_option linter.unusedSimpArgs false
open Go Go.RowKit Go.Shelf
set_option linter.unusedVariables false

/-- Q where all goes on, and nowhere else. -/
def NormOnly (Q : Exit → Act → World → Prop) : Exit → Act → World → Prop
  | .normal, a, w => Q .normal a w
  | _, _, _ => False
theorem NormOnly.imp {Q : Exit → Act → World → Prop} : ∀ (e : Exit) (a : Act) (w : World), NormOnly Q e a w → Q e a w := fun e a w h => by
  cases e <;> first | exact h | exact (h : False).elim

def noDefer (ops : Array Oper) : Bool := ops.all fun o => match o.op with | .defer _ => false | _ => true

theorem rowsIn_round {l n : Nat} {P : Program} {row : String} {args : Array Value} {w : World} {R : Value → World → Prop} (h : Rows P row args w R) : RowsIn (Fence.wide.inRound l) n P row args w R :=
  fun c cs _ => let ⟨v, w', r, s⟩ := h c cs; ⟨v, w', r, stepsIn_wide.2 s⟩

theorem wpOpsIn_round {l n : Nat} {P : Program} {ops : Array Oper} {Q : Exit → Act → World → Prop} (hnd : ∀ (i : Nat) (o : Oper), ops[i]? = some o → ∀ c, o.op ≠ .defer c) :
    ∀ (sched : List Nat) (a : Act) (w : World), wpOps P ops (NormOnly Q) sched a w → wpOpsIn (Fence.wide.inRound l) n P ops (NormOnly Q) sched a w
  | [], a, w, h => h
  | i :: rest, a, w, h => by
    have ih := wpOpsIn_round (l := l) (n := n) (P := P) (Q := Q) hnd rest
    unfold wpOps at h
    unfold wpOpsIn
    cases ho : ops[i]? with
    | none => rw [ho] at h; exact ih _ _ h
    | some o =>
      rw [ho] at h
      simp only at h ⊢
      split
      · rename_i hw
        rw [if_pos hw] at h
        rcases h with h | ⟨_, a', w', h⟩
        · refine ⟨fun _ _ => trivial, ?_⟩
          rw [show (Fence.wide.inRound l).round = some l from rfl, Oper.semAt_some l _ o (hnd i o ho)]
          unfold Oper.wp at h
          generalize (execOp a.eval o).run P w = r at h ⊢
          cases r with
          | ok x w2 =>
            cases x with
            | value v => exact ih _ _ h
            | skip => exact ih _ _ h
            | defer d => exact ih _ _ h
            | enter f args =>
              refine ⟨fun hd => by simp [Fence.wide, Fence.inRound] at hd, ?_⟩
              refine ((callsIn_wide (n := n - 1)).2 h).inRound l |>.mono fun e w3 he => ?_
              cases e with
              | returned v => exact ih _ _ he
              | panicked c => exact he
              | outgrown => exact he
            | row row args =>
              refine ⟨fun hd => by simp [Fence.wide, Fence.inRound] at hd, rowsIn_round (h.mono fun v w3 he => ih _ _ he)⟩
            | _ => exact (h : False).elim
          | halt x w2 =>
            cases x <;> exact (h : False).elim
        · exact (h : False).elim
      · rename_i hw
        rw [if_neg hw] at h
        exact ⟨fun _ _ => trivial, ih _ _ h⟩

theorem wpIn_region_held_round {l n : Nat} {P : Program} {ops : Array Oper} {Q : Exit → Act → World → Prop} {S : World → Prop} {id : Nat} {a : Act} {w : World} (hm : P.follows .mixedOrders = true) (hnd : noDefer ops = true) (hS : S w.drew)
    (h : S w.drew → wpAnyH P .any ops (NormOnly Q) S ops.size (Array.replicate ops.size false) a w.drew) : (Code.region id ops true).wpIn (Fence.wide.inRound l) n P Q a w := by
  refine Code.wpIn_mono NormOnly.imp (wpIn_region_draw fun t => ?_)
  simp only [Region.schedule, hm, Bool.true_or, if_true]
  refine wpOpsIn_round ?_ _ _ _ (wpAny_sound ops.size t _ a _ (wpAny_of_held _ _ _ _ (h hS)))
  intro i o ho c hc
  unfold noDefer at hnd
  rw [Array.all_eq_true] at hnd
  obtain ⟨hi, e⟩ := Array.getElem?_eq_some_iff.1 ho
  have := hnd i hi
  rw [e, hc] at this
  simp at this
end Go.Proofs.Ytmcbnpeihedcaaa
