/- slices.DeleteFunc at []api.Rec. -/
import Derived.Test.YtmcbnpeihedcaaaSrStable
import Derived.Test.YtmcbnpeihedcaaaSrSrtK
namespace Go.Proofs.Ytmcbnpeihedcaaa
open Go Go.RowKit
set_option linter.unusedVariables false
attribute [local go_sem ↓] Go.wp_at_zero Go.wp_at_succ

section
variable {P : Program}
/-- clear, of elements of k cells. -/
theorem run_clear_k (w : World) (t e ty : TypeId) (z : Value) (k : Nat) (ht : P.underlying t = some (.slice e)) (hv : ∀ w, (zeroValue e).run P w = .ok z w) (hz : z.cells.size = k) (h1 : ∀ v ∈ z.cells, v.oneCell' = true) (b o n c : Nat) (hn : 0 < n) (hk : 0 < k)
    (hc : ∀ j, j < n * k → (w.cell? ⟨b, o + j, none⟩).isSome = true) (hf : ∀ j, j < n * k → w.frozen? ⟨b, o + j, none⟩ = false) :
    (Builtin.clear_ #[t] ty #[.slice (some ⟨b, o, none⟩) n c]).run P w = .ok (.tuple #[]) (w.setCells b o (Builtin.zeroCells z.cells n).toList) := by
  have hl : (Builtin.zeroCells z.cells n).toList.length = n * k := by simp [Builtin.zeroCells, hz]
  have hst := run_storeCells_cells (P := P) b o (Builtin.zeroCells z.cells n).toList 0 w (by rw [hl]; simpa using hc) (by rw [hl]; simpa using hf) (by
    intro v hv'
    simp only [Builtin.zeroCells, Array.toList_map, List.mem_map] at hv'
    obtain ⟨i, _, rfl⟩ := hv'
    have hlt : i % z.cells.size < z.cells.size := Nat.mod_lt _ (by omega)
    rw [getElem!_pos z.cells _ hlt]
    exact h1 _ (Array.getElem_mem hlt))
  simp only [Nat.add_zero] at hst
  obtain ⟨m, rfl⟩ : ∃ m, n = m + 1 := ⟨n - 1, by omega⟩
  simp [Builtin.clear_, run_underlying ht, hv, hst]
theorem wpList_clear_eqn (w : World) {ops : Array Oper} {rest : List Oper} {o : Oper} {a : Act} {Q : Exit → Act → World → Prop} (hgd : o.guard = none) (s : Operand) (t : TypeId)
    (ho : o.op = .call { callee := .builtin .clear, args := #[s], argTypes := #[t] }) (u : Value) (hs : a.eval s = u) {v' : Value} {w' : World}
    (hr : (Builtin.clear_ #[t] o.type #[u]).run P w = .ok v' w') (h : wpList P ops Q rest (a.put o.dst v') w') : wpList P ops Q (o :: rest) a w :=
  wpList_plain hgd fun _ hK => by
    unfold Oper.wp execOp
    simp only [ho, resolve, invoke, builtin, Sem.run_bind, Sem.run_pure, Result.andThen_ok, List.map_toArray, List.map_cons, List.map_nil, hs, hr]
    exact hK _ _ h
end

theorem zero_rec (w : World) : (zeroValue 27).run Try.prog w = .ok (.agg #[.int .i64 0, .int .i64 0, .int .i64 0, .int .i64 0, .int .i64 0, .int .i64 0, .slice none 0 0, .slice none 0 0, .int .i64 0, .int .i64 0]) w := by kernel_rfl

section
variable {w w' : World} {base g c : Nat} {l : List Rx}
theorem wpList_store_own {ops : Array Oper} {rest : List Oper} {o : Oper} {a : Act} {Q : Exit → Act → World → Prop} (h : OwnR w base g c l) {i : Nat} (hi : i < l.length) (z : Rx) (x y : Operand) (hgd : o.guard = none) (ho : o.op = .store 27 x y)
    (hx : a.eval x = .pointer (some ⟨g, i * 10, none⟩)) (hy : a.eval y = .agg (encRx z).toArray) (k : ∀ w', OwnR w' base g c (l.set i z) → Below base w w' → wpList Try.prog ops Q rest (a.put o.dst undef) w') : wpList Try.prog ops Q (o :: rest) a w :=
  wpList_store_mid hgd _ _ _ ho g (i * 10) (encRx z).toArray hx hy (h.there hi) rec_size (rec_one' z) (k _ (h.store hi z) (below_setCells (h.form (by omega)).1 _ _ _ (Below.refl _ _)))
/-- The first part of a row. -/
theorem own_take {e : TypeId} {k n : Nat} {xs : List Value} (h : w.ownsRow base e k (.slice (some ⟨g, 0, none⟩) n c) n xs) {i : Nat} (hi : i ≤ n) : w.ownsRow base e k (.slice (some ⟨g, 0, none⟩) i c) i (xs.take (i * k)) := by
  rcases h.2 with ⟨he, _⟩ | ⟨g', c', cur, he, hg, hrow, hn, hm, hs, ht⟩
  · cases he
  · injection he with h1 _ h3
    injection h1 with h1
    injection h1 with h1 _
    subst h1 h3
    have hle : i * k ≤ n * k := Nat.mul_le_mul_right _ hi
    refine own_of (by rw [List.length_take, h.1]; omega) hg hrow (by omega) hm hs ?_
    rw [← ht, List.take_take, Nat.min_eq_left hle]
theorem foldl_set_take : ∀ (us : List Value) (i o : Nat) (ys : List Value) (m : Nat), m ≤ o + i → ((us.zipIdx i).foldl (fun l p => l.set (o + p.2) p.1) ys).take m = ys.take m
  | [], _, _, _, _, _ => rfl
  | u :: us, i, o, ys, m, h => by
    simp only [List.zipIdx_cons, List.foldl_cons]
    rw [foldl_set_take us (i + 1) o _ m (by omega), List.take_set, List.set_eq_of_length_le]
    rw [List.length_take]; omega
theorem OwnR.cut (h : OwnR w base g c l) {i : Nat} (hi : i ≤ l.length) (us : List Value) : OwnR (w.setCells g (i * 10) us) base g c (l.take i) := by
  have h1 := own_take (setCells_own us (i * 10) w _ h) hi
  rw [foldl_set_take us 0 (i * 10) _ (i * 10) (by omega)] at h1
  have h2 : (l.flatMap encRx).take (i * 10) = (l.take i).flatMap encRx := by
    conv => lhs; rw [← List.take_append_drop i l]
    rw [List.flatMap_append, List.take_append_of_le_length (by rw [flat_len encRx encRx_len, List.length_take]; omega), List.take_of_length_le (by rw [flat_len encRx encRx_len, List.length_take]; omega)]
  rw [h2] at h1
  unfold OwnR
  rw [List.length_take, Nat.min_eq_left hi]
  exact h1
theorem OwnR.clear (h : OwnR w base g c l) {i : Nat} (hi : i < l.length) (ty : TypeId) (cc : Nat) : ∃ us, (Builtin.clear_ #[22] ty #[.slice (some ⟨g, i * 10, none⟩) (l.length - i) cc]).run Try.prog w = .ok (.tuple #[]) (w.setCells g (i * 10) us) := by
  have hcell : ∀ j, j < (l.length - i) * 10 → (w.cell? ⟨g, i * 10 + j, none⟩).isSome = true ∧ w.frozen? ⟨g, i * 10 + j, none⟩ = false := by
    intro j hj
    have h1 : i + j / 10 < l.length := by omega
    have h2 := h.there h1 (j % 10) (Nat.mod_lt _ (by omega))
    rw [show (i + j / 10) * 10 + j % 10 = i * 10 + j from by omega] at h2
    exact h2
  exact ⟨_, run_clear_k w _ _ ty _ 10 Try.underlying22 zero_rec rfl (by simp [Value.cells, Value.oneCell']) g (i * 10) (l.length - i) cc (by omega) (by omega) (fun j hj => (hcell j hj).1) (fun j hj => (hcell j hj).2)⟩

/-- What DeleteFunc hands back: the row of those that are left. -/
def DelPost (base : Nat) (l : List Rx) (w : World) (e : Ending) (w' : World) : Prop :=
  ∃ v', e = .returned v' ∧ w'.ownsRow base 27 10 v' l.length (l.flatMap encRx) ∧ Below base w w'
/-- How the row stands as DeleteFunc has looked at j of it: i are left. -/
def DelI (p : Rx → Bool) (l m : List Rx) (i j : Nat) : Prop := m.length = l.length ∧ i < j ∧ m.take i = (l.take j).filter (fun x => !p x) ∧ ∀ q, j ≤ q → m[q]? = l[q]?
theorem DelI.start {p : Rx → Bool} {l : List Rx} {k : Nat} (hk : k < l.length) (h : p l[k] = true) (ha : ∀ j (h : j < k), p (l[j]'(Nat.lt_trans h hk)) = false) : DelI p l l k (k + 1) := by
  refine ⟨rfl, Nat.lt_succ_self _, ?_, fun _ _ => rfl⟩
  rw [List.take_succ_eq_append_getElem hk, List.filter_append]
  have h1 : (l.take k).filter (fun x => !p x) = l.take k := by
    rw [List.filter_eq_self]
    intro x hx
    obtain ⟨j, hj, rfl⟩ := List.getElem_of_mem hx
    rw [List.length_take] at hj
    rw [List.getElem_take, ha j (by omega)]; rfl
  rw [h1]
  simp [h]
theorem DelI.skip {p : Rx → Bool} {l m : List Rx} {i j : Nat} (h : DelI p l m i j) (hj : j < l.length) (hp : p l[j] = true) : DelI p l m i (j + 1) := by
  obtain ⟨h1, h2, h3, h4⟩ := h
  refine ⟨h1, by omega, ?_, fun q hq => h4 q (by omega)⟩
  rw [List.take_succ_eq_append_getElem hj, List.filter_append, h3]
  simp [hp]
theorem DelI.put {p : Rx → Bool} {l m : List Rx} {i j : Nat} (h : DelI p l m i j) (hj : j < l.length) (hp : p l[j] = false) : DelI p l (m.set i l[j]) (i + 1) (j + 1) := by
  obtain ⟨h1, h2, h3, h4⟩ := h
  refine ⟨by simp [h1], by omega, ?_, fun q hq => by rw [List.getElem?_set_ne (by omega)]; exact h4 q (by omega)⟩
  rw [List.take_succ_eq_append_getElem hj, List.filter_append, ← h3, List.take_succ_eq_append_getElem (by simp; omega), List.getElem_set_self, List.take_set, List.set_eq_of_length_le (by rw [List.length_take]; omega)]
  simp [hp]
theorem DelI.done {p : Rx → Bool} {l m : List Rx} {i : Nat} (h : DelI p l m i l.length) : m.take i = l.filter (fun x => !p x) := by
  have := h.2.2.1
  rwa [List.take_length] at this
end

theorem idxF_cases {α : Type} (p : α → Bool) (l : List α) : (idxF p l = -1 ∧ ∀ x ∈ l, p x = false) ∨ ∃ (k : Nat) (hk : k < l.length), idxF p l = (k : Int) ∧ p l[k] = true ∧ ∀ j (h : j < k), p (l[j]'(Nat.lt_trans h hk)) = false := by
  unfold idxF
  by_cases h : l.findIdx p < l.length
  · rw [if_pos h]
    refine .inr ⟨l.findIdx p, h, rfl, List.findIdx_getElem, fun j hj => ?_⟩
    have := List.not_of_lt_findIdx hj
    cases h : p l[j] with
    | false => rfl
    | true => rw [h] at this; cases this
  · rw [if_neg h]
    refine .inl ⟨rfl, fun x hx => ?_⟩
    cases hp : p x with
    | false => rfl
    | true => exact absurd (List.findIdx_lt_length.2 ⟨x, hx, hp⟩) h

set_option maxRecDepth 100000 in
set_option maxHeartbeats 4000000 in
theorem del_rec (p : Rx → Bool) (gf : Nat) (lb : Array Value) (eg : ∀ args w, (callFunc gf args).run Try.prog w = .ok (.enter gf args) w) (base : Nat) (v : Value) (l : List Rx) (w : World) (hbase : base ≤ w.heap.size) (hn : l.length ≤ 100000)
    (hp : ∀ (W : World) (x : Rx), Calls Try.prog gf (#[Value.agg (encRx x).toArray] ++ lb) W fun e w' => e = .returned (.bool (p x)) ∧ Below W.heap.size W w') (hr : w.ownsRow base 27 10 v l.length (l.flatMap encRx)) :
    Calls Try.prog 21 #[v, .func (.func gf) #[] lb] w (DelPost base (l.filter (fun x => !p x)) w) := by
  have hcon := index_rec p gf lb eg v l w (fun W x _ => hp W x) (Sl.of_own hr)
  rcases idxF_cases p l with ⟨h0, hall⟩ | ⟨k, hk, h0, hpk, hall⟩
  · rw [h0] at hcon
    have hfl : l.filter (fun x => !p x) = l := by
      rw [List.filter_eq_self]
      intro x hx
      rw [hall x hx]; rfl
    rw [hfl]
    have HR := Lib.hid hr
    clear hr hfl hall h0 hp
    go_enter Try.func21, Try.ntmps21
    go_wp2_with fail
    refine hcon.mono ?_
    rintro e w1 ⟨rfl, hb1⟩
    have HB := Lib.hid hb1
    clear hb1
    go_wp2
    go_ret
    exact ⟨_, rfl, own_below HR.out HB.out, HB.out.mono hbase⟩
  · rw [h0] at hcon
    obtain ⟨g, cur, c', rfl, hg, _⟩ := own_form hr (by omega)
    have hO : OwnR w base g cur l := hr
    have HO := Lib.hid hO
    have hgl : base ≤ g := hg
    obtain ⟨n, hnn⟩ : ∃ n, n = l.length := ⟨_, rfl⟩
    have hcl := (hO.form (by omega)).2.2
    have hcl1 : (n : Int) ≤ (cur : Int) := by have := hcl.1; omega
    have hcl2 : cur ≤ 9223372036854775807 := by have := hcl.2; unfold maxLen at this; omega
    have HDS := Lib.hid (DelI.start hk hpk hall)
    have HL := Lib.hid hnn
    have HP := Lib.hid hp
    rw [← hnn] at hcon hn hk ⊢
    clear hr hO hpk hall h0 hnn hp hcl
    go_enter Try.func21, Try.ntmps21
    go_wp2_with fail
    refine hcon.mono ?_
    rintro e w1 ⟨rfl, hb1⟩
    have HB := Lib.hid hb1
    clear hb1 hcon
    have hk1 : ((k : Int) == -1) = false := by rw [beq_eq_false_iff_ne]; omega
    go_upto_block 0 with fail
    go_cut [5] (fun s5 wx => ∃ (i : Nat) (m : List Rx), s5 = .int .i64 i ∧ Hid (DelI p l m i l.length ∧ OwnR wx base g cur m ∧ Below base w wx))
    case first =>
      as_aux_lemma =>
      go_wp2_with fail
      go_loopg [5, 6] n (fun gg s5 s6 wr => ∃ (i j : Nat) (m : List Rx), s5 = .int .i64 i ∧ s6 = .int .i64 j ∧ i < j ∧ j ≤ n ∧ n - j ≤ gg ∧ Hid (DelI p l m i j ∧ OwnR wr base g cur m ∧ Below base w wr))
      case atStart => exact ⟨k, k + 1, l, rfl, by go_num, by omega, by omega, by omega, ⟨HDS.out, HO.out.keep HB.out, HB.out.mono hbase⟩⟩
      case round =>
        obtain ⟨i, j, m, rfl, rfl, hij, hjn, hg, HM⟩ := hrel
        by_cases hlt : j < n
        · have hltz : (j : Int) < (n : Int) := by omega
          have hjl : j < l.length := by have := HL.out; omega
          have hil : i < m.length := by have h1 := HM.out.1.1; omega
          have HX0 := Lib.hid (show m[j]? = some l[j] from by rw [HM.out.1.2.2.2 j (Nat.le_refl _)]; exact List.getElem?_eq_getElem hjl)
          have HSK := Lib.hid (fun h : p l[j] = true => HM.out.1.skip hjl h)
          have HPT := Lib.hid (fun h : p l[j] = false => HM.out.1.put hjl h)
          generalize l[j] = x at *
          have r1 := HM.out.2.1.at_ HX0.out
          have c0 := r1 0 _ rfl
          have c1 := r1 1 _ rfl
          have c2 := r1 2 _ rfl
          have c3 := r1 3 _ rfl
          have c4 := r1 4 _ rfl
          have c5 := r1 5 _ rfl
          have c6 := r1 6 _ rfl
          have c7 := r1 7 _ rfl
          have c8 := r1 8 _ rfl
          have c9 := r1 9 _ rfl
          simp only [Nat.add_zero] at c0
          have hj0 : (0 : Int) ≤ (j : Int) := by omega
          have hi0 : (0 : Int) ≤ (i : Int) := by omega
          have hi1 : (i : Int) < (n : Int) := by omega
          have hgw := (HM.out.2.1.form (by omega)).2.1
          obtain ⟨cu, hgw⟩ := hgw
          have hglt := hgw.lt
          have hcall := fun W => HP.out W x
          have HA := Lib.hid ((Below.refl wr.heap.size wr).alloc (Nat.le_refl _) (.cells (encRx x).toArray 27))
          have HBW := Lib.hid (show base ≤ wr.heap.size from by have := HM.out.2.2.size; omega)
          clear r1 hgw
          cases hq : p x with
          | true =>
            rw [hq] at hcall
            have HQ := Lib.hid hq
            clear hq
            simp only [encRx] at hcall
            go_wp2_with (go_at_fn gf; refine (hcall _).mono ?_; rintro e w3 ⟨rfl, hb3⟩)
            have HB3 := Lib.hid (HA.out.trans (hb3.mono HA.out.size))
            go_roundg (n - (j + 1))
            case measure => omega
            case rel => exact ⟨i, j + 1, m, rfl, by go_num, by omega, by omega, by omega, (show Hid _ from ⟨HSK.out HQ.out, HM.out.2.1.keep HB3.out, HM.out.2.2.trans (HB3.out.mono HBW.out)⟩)⟩
          | false =>
            rw [hq] at hcall
            have HQ := Lib.hid hq
            clear hq
            simp only [encRx] at hcall
            go_upto_region 9 with (go_at_fn gf; refine (hcall _).mono ?_; rintro e w3 ⟨rfl, hb3⟩)
            have HB3 := Lib.hid (HA.out.trans (hb3.mono HA.out.size))
            obtain ⟨hc3, hf3⟩ := bcell hb3
            have hz3 := hb3.size
            simp at hz3
            have hw3 : wr.heap.size < w3.heap.size := by omega
            have HO3 := Lib.hid (HM.out.2.1.keep HB3.out)
            clear hb3 c0 c1 c2 c3 c4 c5 c6 c7 c8 c9
            go_wp2_with (refine wpList_store_own HO3.out hil x _ _ rfl rfl rfl rfl ?_; intro w4 hO4 hB4)
            have HO4 := Lib.hid hO4
            have HB4 := Lib.hid hB4
            clear hO4 hB4
            go_roundg (n - (j + 1))
            case measure => omega
            case rel => exact ⟨i + 1, j + 1, m.set i x, by go_num, by go_num, by omega, by omega, by omega, (show Hid _ from ⟨HPT.out HQ.out, HO4.out, (HM.out.2.2.trans (HB3.out.mono HBW.out)).trans HB4.out⟩)⟩
        · have hltz : ¬ (j : Int) < (n : Int) := by omega
          obtain rfl : j = n := by omega
          have HF := Lib.hid (show DelI p l m i l.length ∧ OwnR wr base g cur m ∧ Below base w wr from by have := HM.out; rw [HL.out] at this; exact this)
          go_wp2
          go_meet
          exact ⟨i, m, rfl, HF.out⟩
    case rest =>
      obtain ⟨i, m, rfl, HM⟩ := hcut
      obtain ⟨w2, rfl⟩ : ∃ x : World, x = wc := ⟨_, rfl⟩
      have hin : i < n := by have h1 := HM.out.1.2.1; have := HL.out; omega
      have hin1 : (0 : Int) ≤ (i : Int) := by omega
      have hin2 : (i : Int) ≤ (n : Int) := by omega
      have hin3 : (i : Int) < (n : Int) := by omega
      have hin4 : (i : Int) ≤ (cur : Int) := by omega
      have hml : m.length = n := by have h1 := HM.out.1.1; have := HL.out; omega
      have hil : i < m.length := by omega
      have hus := fun ty => HM.out.2.1.clear hil ty (cur - i)
      rw [hml] at hus
      have HUS := Lib.hid hus
      have HCUT := Lib.hid (fun us => (show (w2.setCells g (i * 10) us).ownsRow base 27 10 (.slice (some ⟨g, 0, none⟩) i cur) (l.filter (fun x => !p x)).length ((l.filter (fun x => !p x)).flatMap encRx) from by
        have h1 := HM.out.2.1.cut (Nat.le_of_lt hil) us
        have h2 := HM.out.1.done
        have h3 : (m.take i).length = i := by rw [List.length_take]; omega
        unfold OwnR at h1
        rw [h3, h2] at h1
        rw [← h2, h3, h2]
        exact h1))
      clear hus hml
      go_upto_region 12 with (obtain ⟨us, hus⟩ := HUS.out _; refine wpList_clear_eqn _ rfl _ _ rfl _ rfl hus ?_; clear hus)
      go_wp2
      go_ret
      exact ⟨_, rfl, HCUT.out _, below_setCells hgl _ _ _ HM.out.2.2⟩
end Go.Proofs.Ytmcbnpeihedcaaa
