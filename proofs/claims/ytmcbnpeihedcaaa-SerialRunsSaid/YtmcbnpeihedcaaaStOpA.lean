/- Several texts in one: StFew, Open, StOpen. -/
import Derived.Test.YtmcbnpeihedcaaaStRunA
import Derived.Test.YtmcbnpeihedcaaaLawKit
import Derived.Deep.Slices
import Derived.Lib.SmallJoins
import Derived.Test.YtmcbnpeihedcaaaStWork
namespace Go.Proofs.Ytmcbnpeihedcaaa
set_option linter.unusedSimpArgs false
open Go Go.RowKit
set_option linter.unusedVariables false

def FewPost (n np : Nat) (w : World) (e : Ending) (w' : World) : Prop := ∃ b, e = .returned (.bool b) ∧ (b = true → n ≤ 8 ∧ np ≤ 150) ∧ Below w.heap.size w w'
set_option maxRecDepth 100000 in
set_option maxHeartbeats 4000000 in
theorem few19_any (words mx : Int) (pl : List (List (List Ac))) (pv : Value) (kA : Option Addr) (np kc : Nat) (w : World) (hpl : PlV w pv pl) :
    Calls Try.prog 15 #[planV words mx pv, .slice kA np kc] w (FewPost pl.length np w) := by
  obtain ⟨A, c, rfl, hc1, hmx⟩ := hpl.form
  have hA0 := (Below.refl w.heap.size w).alloc (Nat.le_refl _) (.cells #[.int .i64 words, .int .i64 mx, .slice A pl.length c] 39)
  have k0 := Blk.new w 39 #[.int .i64 words, .int .i64 mx, .slice A pl.length c]
  obtain ⟨w1, hw1⟩ : ∃ x, w.alloc (.cells #[.int .i64 words, .int .i64 mx, .slice A pl.length c] 39) = x := ⟨_, rfl⟩
  rw [hw1] at hA0 k0
  have HEL := Lib.hid (fun (i : Nat) (txs : List (List Ac)) (h : pl[i]? = some txs) => (hpl.below hA0).at_ h)
  obtain ⟨n, hn⟩ : ∃ n, n = pl.length := ⟨_, rfl⟩
  rw [← hn] at hc1 k0 hw1 HEL ⊢
  unfold maxLen at hmx
  have HN := Lib.hid hn
  have HB := Lib.hid hA0
  have HW := Lib.hid hw1
  have p2 : w1.cell? ⟨w.heap.size, 2, none⟩ = some (.slice A n c) := by rw [k0.cell]; rfl
  have hn9 : n ≤ 9223372036854775807 := by omega
  clear hn hA0 hw1 k0 hc1 hmx hpl
  unfold planV
  go_enter Try.func15, Try.ntmps15
  go_wp2_with fail
  rw [HW.out]
  go_loopg [5, 6] n (fun gg s5 s6 wr => ∃ kk : Nat, kk ≤ n ∧ n - kk ≤ gg ∧ s5 = .int .i64 kk ∧ w1 = wr)
  case atStart => exact ⟨0, by omega, by omega, rfl, rfl⟩
  case round =>
    obtain ⟨k, hk, hg, rfl, rfl⟩ := hrel
    by_cases hlt : k < n
    · have hltz : (k : Int) < (n : Int) := by omega
      have hk0 : (0 : Int) ≤ (k : Int) := by omega
      obtain ⟨txs, htx⟩ : ∃ txs, pl[k]? = some txs := ⟨_, List.getElem?_eq_getElem (by rw [← HN.out]; exact hlt)⟩
      obtain ⟨b1, o1, c1, A1, d1, e1, hb1, _, hc1, hT⟩ := HEL.out k txs htx
      injection e1 with e1 _ e1c
      subst e1 e1c
      obtain ⟨m, hm⟩ : ∃ m, m = txs.length := ⟨_, rfl⟩
      have HM := Lib.hid hm
      have HE2 := Lib.hid (fun (i : Nat) (l : List Ac) (h : txs[i]? = some l) => hT.at_ h)
      have hmb : m ≤ 9223372036854775807 := by obtain ⟨avs, h5, _⟩ := hT; obtain ⟨_, _, _, h6, h7⟩ := h5.form; unfold maxLen at h7; omega
      rw [← hm] at hc1 HE2
      clear hT htx hm
      by_cases h8 : (8 : Int) < (m : Int)
      · go_wp2
        go_ret
        exact ⟨false, rfl, (fun h => by cases h), HB.out⟩
      · have hm8 : m ≤ 8 := by omega
        go_wp2_with fail
        go_loopg [6] m (fun gg s6 wr => ∃ jj : Nat, jj ≤ m ∧ m - jj ≤ gg ∧ s6 = .int .i64 jj ∧ w1 = wr)
        case atStart => exact ⟨0, by omega, by omega, by go_num, rfl⟩
        case round =>
          obtain ⟨j, hj, hg2, rfl, rfl⟩ := hrel
          by_cases hlt2 : j < m
          · have hltz2 : (j : Int) < (m : Int) := by omega
            have hj0 : (0 : Int) ≤ (j : Int) := by omega
            obtain ⟨l, hl⟩ : ∃ l, txs[j]? = some l := ⟨_, List.getElem?_eq_getElem (by rw [← HM.out]; exact hlt2)⟩
            obtain ⟨b3, o3, c3, A4, d4, e3, hb3, _, hc3, hL⟩ := HE2.out j l hl
            injection e3 with e3 _ e3c
            subst e3 e3c
            generalize l.length = p at *
            clear hL hl
            by_cases h10 : (10 : Int) < (p : Int)
            · go_wp2_with fail
              go_ret
              exact ⟨false, rfl, (fun h => by cases h), HB.out⟩
            · go_wp2_with fail
              go_roundg (m - (j + 1))
              case measure => omega
              case rel => exact ⟨j + 1, by omega, by omega, by go_num, rfl⟩
          · obtain rfl : j = m := by omega
            have hltz2 : ¬ (j : Int) < (j : Int) := by omega
            go_wp2_with fail
            go_roundg (n - (k + 1))
            case measure => omega
            case rel => exact ⟨k + 1, by omega, by omega, by go_num, rfl⟩
    · obtain rfl : n = k := by omega
      have hltz : ¬ (n : Int) < (n : Int) := by omega
      by_cases q1 : (n : Int) ≤ 8
      · by_cases q2 : (np : Int) ≤ 150
        · go_wp2
          go_ret
          exact ⟨_, rfl, (fun h => ⟨by omega, by omega⟩), HB.out⟩
        · go_wp2
          go_ret
          exact ⟨_, rfl, (fun h => by first | cases h | (simp at h; omega)), HB.out⟩
      · go_wp2
        go_ret
        exact ⟨_, rfl, (fun h => by first | cases h | (simp at h; omega)), HB.out⟩
end Go.Proofs.Ytmcbnpeihedcaaa
namespace Go.Proofs.Ytmcbnpeihedcaaa
set_option linter.unusedSimpArgs false
open Go Go.ChangeShapes Go.WideShapes Go.ChangeAt Go.RowKit Go.Deep Go.Joins

theorem list_of {α : Type} {Q : Nat → α → Prop} : ∀ (n : Nat), (∀ i, i < n → ∃ a, Q i a) → ∃ xs : List α, xs.length = n ∧ ∀ i (h : i < xs.length), Q i xs[i]
  | 0, _ => ⟨[], rfl, fun i h => absurd h (by simp)⟩
  | n + 1, h => by
    obtain ⟨xs, hl, hx⟩ := list_of n fun i hi => h i (by omega)
    obtain ⟨a, ha⟩ := h n (by omega)
    refine ⟨xs ++ [a], by simp [hl], fun i hi => ?_⟩
    rcases Nat.lt_or_ge i xs.length with h1 | h1
    · rw [List.getElem_append_left h1]; exact hx i h1
    · have : i = n := by simp at hi; omega
      subst this
      rw [List.getElem_append_right h1]
      simpa [hl] using ha

theorem flat_at {α : Type} {k : Nat} (enc : α → List Value) (hk : ∀ x, (enc x).length = k) (xs : List α) (j : Nat) (u : Value) (hu : (xs.flatMap enc)[j]? = some u) :
    ∃ (i : Nat) (hi : i < xs.length) (r : Nat), j = i * k + r ∧ (enc xs[i])[r]? = some u := by
  induction xs generalizing j with
  | nil => simp at hu
  | cons x xs ih =>
    rw [List.flatMap_cons] at hu
    rcases Nat.lt_or_ge j k with h | h
    · rw [List.getElem?_append_left (by rw [hk]; exact h)] at hu
      exact ⟨0, by simp, j, by simp, by simpa using hu⟩
    · rw [List.getElem?_append_right (by rw [hk]; exact h), hk] at hu
      obtain ⟨i, hi, r, he, hr⟩ := ih _ hu
      exact ⟨i + 1, by simpa using hi, r, by rw [Nat.succ_mul]; omega, by simpa using hr⟩

section
variable {H : Type} {enc : TypeId × Value → H} {P : Program} {w : World} {base : Nat} {spare : Nat → Bool} {held : Bool}

theorem spot_of_cell {w : World} {a : Addr} {u : Value} (h : w.cell? a = some u) : a.spot = none ∧ a.block < w.heap.size := by
  refine ⟨?_, World.block_lt_of_cell? w a h⟩
  cases hs : a.spot with
  | none => rfl
  | some s =>
    unfold World.cell? at h
    split at h
    · simp [hs] at h
    · cases h

/-- A slice that was read as data: a list of elements, each with what its own reading tells. -/
theorem open_sl {α : Type} {k : Nat} (e' : α → List Value) (hk : ∀ x, (e' x).length = k) (hk0 : 0 < k) (Q : α → Prop) {t e : TypeId} {fuel : Nat} {v : Value} {x : DataW H × List MemPlace} (ht : P.underlying t = some (.slice e)) (hC : P.cellsOf e = k)
    (hel : ∀ n cs y, DataW.trod enc P w base spare held n e cs = some y → ∃ p : α, cs = e' p ∧ Q p) (h : DataW.trod enc P w base spare held fuel t [v] = some x) :
    ∃ xs : List α, Sl w k v xs.length (xs.flatMap e') ∧ ∀ p ∈ xs, Q p := by
  rcases open_slice ht h with ⟨h0, _⟩ | ⟨a, len, cap, m, n, D, Pl, hcs, _, hlc, hcm, hm, _, hi⟩
  · injection h0 with h0
    subst h0
    exact ⟨[], Sl.nil _ _, by simp⟩
  · injection hcs with hcs
    subst hcs
    have hlm : len ≤ m := by rw [hm]; split <;> omega
    rw [hC] at hi
    obtain ⟨xs, hxl, hx⟩ := list_of (Q := fun i (p : α) => Q p ∧ ∀ j u, (e' p)[j]? = some u → w.cell? (a.add (i * k + j)) = some u) len (fun i hil => by
      obtain ⟨cs, hc, htr⟩ := hi i (by omega)
      obtain ⟨p, rfl, hq⟩ := hel _ _ _ htr
      obtain ⟨_, hcl, hat⟩ := World.cells?_some hc
      refine ⟨p, hq, fun j u hu => ?_⟩
      have hj : j < k := by have := (List.getElem?_eq_some_iff.1 hu).1; rw [hk] at this; exact this
      rw [← Go.Deep.add_add, hat j hj, hu])
    refine ⟨xs, ⟨by rw [flat_len e' hk], .inr ⟨a, cap, by rw [hxl], by omega, hcm, fun hn => ?_⟩⟩, fun p hp => ?_⟩
    · have h0 : (e' xs[0])[0]? = some ((e' xs[0])[0]'(by rw [hk]; exact hk0)) := List.getElem?_eq_getElem _
      have h1 := (hx 0 hn).2 0 _ h0
      rw [show 0 * k + 0 = 0 from by simp, show a.add 0 = a from by simp [Addr.add]] at h1
      obtain ⟨hs, hb⟩ := spot_of_cell h1
      refine ⟨hs, hb, fun j u hu => ?_⟩
      obtain ⟨i, hi', r, rfl, hr⟩ := flat_at e' hk xs j u hu
      have := (hx i hi').2 r u hr
      obtain ⟨b, o, s⟩ := a
      simp only at hs
      subst hs
      rwa [add_none] at this
    · obtain ⟨i, hi', rfl⟩ := List.getElem_of_mem hp
      exact (hx i hi').1

end
end Go.Proofs.Ytmcbnpeihedcaaa
namespace Go.Proofs.Ytmcbnpeihedcaaa
set_option linter.unusedSimpArgs false
set_option maxRecDepth 100000
open Go Go.ChangeShapes Go.WideShapes Go.ChangeAt Go.RowKit Go.Deep Go.Joins

def okI (n : Int) : Prop := (Lit.int .i64 n).wf = true
theorem okI_bd {n : Int} (h : okI n) : -9223372036854775808 ≤ n ∧ n ≤ 9223372036854775807 := by
  unfold okI at h
  simp [Lit.wf, IntKind.min, IntKind.max, IntKind.signed, IntKind.bits] at h
  omega
theorem flat_fst {α : Type} (xs : List (Value × α)) : xs.flatMap (fun p : Value × α => [p.1]) = xs.map (·.1) := by
  induction xs with
  | nil => rfl
  | cons x xs ih => rw [List.flatMap_cons, ih]; rfl

section
variable {H : Type} {enc : TypeId × Value → H} {w : World} {base : Nat} {spare : Nat → Bool} {held : Bool}

theorem open_act {n : Nat} {cs : List Value} {y : DataW H × List MemPlace} (h : DataW.trod enc Try.prog w base spare held n 80 cs = some y) : ∃ p : Ac, cs = encAc p ∧ True := by
  obtain ⟨xs, m, rfl, _, hl, hxl, hi⟩ := DataW.trod_struct Try.underlying80 h
  have hC : Try.prog.cellsOf 80 = 3 := by kernel_rfl
  have hC1 : Try.prog.cellsOf 3 = 1 := by kernel_rfl
  rw [hC] at hl
  match cs, hl with
  | [c0, c1, c2], _ =>
    match xs, hxl with
    | [y0, y1, y2], _ =>
      have h0 : DataW.trod enc Try.prog w base spare held m 3 (([c0, c1, c2].drop 0).take (Try.prog.cellsOf 3)) = some y0 := hi 0 _ rfl
      have h1 : DataW.trod enc Try.prog w base spare held m 3 (([c0, c1, c2].drop 1).take (Try.prog.cellsOf 3)) = some y1 := hi 1 _ rfl
      have h2 : DataW.trod enc Try.prog w base spare held m 3 (([c0, c1, c2].drop 2).take (Try.prog.cellsOf 3)) = some y2 := hi 2 _ rfl
      rw [hC1] at h0 h1 h2
      simp at h0 h1 h2
      obtain ⟨a, e0, _, -⟩ := DataW.trod_int Try.underlying3 h0
      obtain ⟨b, e1, _, -⟩ := DataW.trod_int Try.underlying3 h1
      obtain ⟨c, e2, _, -⟩ := DataW.trod_int Try.underlying3 h2
      injection e0 with e0; injection e1 with e1; injection e2 with e2
      subst e0 e1 e2
      exact ⟨⟨a, b, c⟩, rfl, trivial⟩
theorem open_acts {n : Nat} {v : Value} {y : DataW H × List MemPlace} (h : DataW.trod enc Try.prog w base spare held n 64 [v] = some y) : ∃ l : List Ac, AcV w v l := by
  obtain ⟨l, h1, -⟩ := open_sl encAc encAc_len (by omega) (fun _ => True) Try.underlying64 (by kernel_rfl) (fun n cs y h => open_act h) h
  exact ⟨l, h1⟩
theorem open_txs {n : Nat} {v : Value} {y : DataW H × List MemPlace} (h : DataW.trod enc Try.prog w base spare held n 63 [v] = some y) : ∃ l : List (List Ac), TxV w v l := by
  obtain ⟨xs, hs, hq⟩ := open_sl (k := 1) (fun p : Value × List Ac => [p.1]) (fun _ => rfl) (by omega) (fun p => AcV w p.1 p.2) Try.underlying63 (by kernel_rfl) (fun n cs y h => by
    obtain ⟨x, rfl⟩ : ∃ x, cs = [x] := by
      have h2 := h
      rcases open_slice Try.underlying64 h2 with ⟨h0, _⟩ | ⟨a, len, cap, m, n, D, Pl, hcs, _⟩
      · exact ⟨_, h0⟩
      · exact ⟨_, hcs⟩
    obtain ⟨t, h1⟩ := open_acts h
    exact ⟨(x, t), rfl, h1⟩) h
  refine ⟨xs.map (·.2), xs.map (·.1), ?_, fun i v t e1 e2 => ?_⟩
  · rw [List.length_map]
    rwa [flat_fst] at hs
  · rw [List.getElem?_map] at e1 e2
    obtain ⟨x, hx, rfl⟩ := Option.map_eq_some_iff.1 e1
    rw [hx] at e2
    obtain rfl := Option.some.inj e2
    exact hq x (List.mem_of_getElem? hx)
theorem open_thrs {n : Nat} {v : Value} {y : DataW H × List MemPlace} (h : DataW.trod enc Try.prog w base spare held n 37 [v] = some y) : ∃ l : List (List (List Ac)), PlV w v l := by
  obtain ⟨xs, hs, hq⟩ := open_sl (k := 1) (fun p : Value × List (List Ac) => [p.1]) (fun _ => rfl) (by omega) (fun p => TxV w p.1 p.2) Try.underlying37 (by kernel_rfl) (fun n cs y h => by
    obtain ⟨x, rfl⟩ : ∃ x, cs = [x] := by
      have h2 := h
      rcases open_slice Try.underlying63 h2 with ⟨h0, _⟩ | ⟨a, len, cap, m, n, D, Pl, hcs, _⟩
      · exact ⟨_, h0⟩
      · exact ⟨_, hcs⟩
    obtain ⟨t, h1⟩ := open_txs h
    exact ⟨(x, t), rfl, h1⟩) h
  refine ⟨xs.map (·.2), xs.map (·.1), ?_, fun i v t e1 e2 => ?_⟩
  · rw [List.length_map]
    rwa [flat_fst] at hs
  · rw [List.getElem?_map] at e1 e2
    obtain ⟨x, hx, rfl⟩ := Option.map_eq_some_iff.1 e1
    rw [hx] at e2
    obtain rfl := Option.some.inj e2
    exact hq x (List.mem_of_getElem? hx)

theorem open_ints {n : Nat} {v : Value} {y : DataW H × List MemPlace} (h : DataW.trod enc Try.prog w base spare held n 29 [v] = some y) : ∃ t : List Int, Sl w 1 v t.length (t.flatMap encI) ∧ ∀ q ∈ t, okI q := by
  refine open_sl encI encI_len (by omega) okI Try.underlying29 (by kernel_rfl) (fun n cs y h => ?_) h
  match cs, DataW.trod_int Try.underlying3 h with
  | _, ⟨a, e0, _, w0⟩ => exact ⟨a, e0, w0⟩
theorem open_picks {r : Reach} {b0 : Nat} {v : Value} {d : DataW H} {p : List MemPlace} (hv : Value.okWide Try.prog w r b0 29 v) (h : DataW.Trod enc Try.prog w base spare held 29 v d p) :
    ∃ t : List Int, Sl w 1 v t.length (t.flatMap encI) ∧ ∀ q ∈ t, okI q := by
  obtain ⟨fuel, hf⟩ := h
  obtain ⟨a, len, cap, rfl⟩ := okWide_slice Try.underlying29 hv
  exact open_ints hf

theorem open_plan {r : Reach} {b0 : Nat} {v : Value} {d : DataW H} {p : List MemPlace} (hv : Value.okWide Try.prog w r b0 39 v) (h : DataW.Trod enc Try.prog w base spare held 39 v d p) :
    ∃ (words mx : Int) (pv : Value) (pl : List (List (List Ac))), v = planV words mx pv ∧ PlV w pv pl ∧ okI words ∧ okI mx := by
  obtain ⟨cs, rfl, hsz⟩ := okWide_struct Try.underlying39 hv
  have hC : Try.prog.cellsOf 39 = 3 := by kernel_rfl
  obtain ⟨c0, c1, c2, rfl⟩ := array3 (hsz.trans hC)
  obtain ⟨fuel, hf⟩ := h
  obtain ⟨xs, m, rfl, _, hl, hxl, hi⟩ := DataW.trod_struct Try.underlying39 hf
  have hC1 : Try.prog.cellsOf 3 = 1 := by kernel_rfl
  have hC2 : Try.prog.cellsOf 37 = 1 := by kernel_rfl
  match xs, hxl with
  | [y0, y1, y2], _ =>
    have h0 : DataW.trod enc Try.prog w base spare held m 3 ([c0, c1, c2].drop 0 |>.take (Try.prog.cellsOf 3)) = some y0 := hi 0 _ rfl
    have h1 : DataW.trod enc Try.prog w base spare held m 3 ([c0, c1, c2].drop 1 |>.take (Try.prog.cellsOf 3)) = some y1 := hi 1 _ rfl
    have h2 : DataW.trod enc Try.prog w base spare held m 37 ([c0, c1, c2].drop 2 |>.take (Try.prog.cellsOf 37)) = some y2 := hi 2 _ rfl
    rw [hC1] at h0 h1
    rw [hC2] at h2
    simp at h0 h1 h2
    obtain ⟨words, e0, _, w0⟩ := DataW.trod_int Try.underlying3 h0
    obtain ⟨mx, e1, _, w1⟩ := DataW.trod_int Try.underlying3 h1
    injection e0 with e0
    injection e1 with e1
    subst e0 e1
    obtain ⟨pl, hp⟩ := open_thrs h2
    exact ⟨words, mx, c2, pl, rfl, hp, w0, w1⟩
end
end Go.Proofs.Ytmcbnpeihedcaaa
