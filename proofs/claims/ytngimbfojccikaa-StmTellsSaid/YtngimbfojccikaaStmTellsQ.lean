/- Several texts in one: RsBound, Open, StOpen. -/
import Derived.Test.YtngimbfojccikaaStmTellsK
import Derived.Test.YtngimbfojccikaaRsMaym
import Derived.Test.YtngimbfojccikaaStmTellsA
import Derived.Deep.Slices
import Derived.Lib.SmallJoins
import Derived.Test.YtngimbfojccikaaStWorkm
import Derived.Test.YtngimbfojccikaaStmTellsJ
namespace Go.Proofs.Ytngimbfojccikaa
set_option linter.unusedSimpArgs false
open Go Go.RowKit
set_option linter.unusedVariables false
set_option maxRecDepth 100000

set_option maxHeartbeats 4000000 in
theorem rBound_any (words mx : Int) (pl : List (List (List Ac))) (pv : Value) (who : Int) (w : World) (hpl : PlV w pv pl) :
    Calls Try.prog 20 #[planV words mx pv, .int .i64 who] w fun e w' => e = .returned (.int .i64 (boundL words mx pl who)) ∧ Below w.heap.size w w' := by
  obtain ⟨A, c, rfl, _, _⟩ := hpl.form
  have kX := Blk.new w 24 #[.int .i64 words, .int .i64 mx, .slice A pl.length c]
  have bX : Below w.heap.size w (w.alloc (.cells #[.int .i64 words, .int .i64 mx, .slice A pl.length c] 24)) := (Below.refl _ w).alloc (Nat.le_refl _) _
  obtain ⟨w2, hw2⟩ : ∃ z, w.alloc (.cells #[.int .i64 words, .int .i64 mx, .slice A pl.length c] 24) = z := ⟨_, rfl⟩
  rw [hw2] at kX bX
  have HW := Lib.hid hw2
  have HB := Lib.hid bX
  have HMAY := Lib.hid (rpmay_any words mx pl _ w2 (hpl.below bX))
  have p0 : w2.cell? ⟨w.heap.size, 0, none⟩ = some (.int .i64 words) := by rw [kX.cell]; rfl
  have p1 : w2.cell? ⟨w.heap.size, 1, none⟩ = some (.int .i64 mx) := by rw [kX.cell]; rfl
  have p2 : w2.cell? ⟨w.heap.size, 2, none⟩ = some (.slice A pl.length c) := by rw [kX.cell]; rfl
  have HP2 := Lib.hid (fun W (hb : Below w2.heap.size w2 W) => (show W.cell? ⟨w.heap.size, 2, none⟩ = some (.slice A pl.length c) from by rw [(kX.keep hb).cell]; rfl))
  clear kX hw2 bX
  simp only [planV] at HMAY ⊢
  cases hm : mayP words mx pl with
  | false =>
    rw [show boundL words mx pl who = 0 from if_neg (by simp [hm])]
    rw [hm] at HMAY
    clear hpl HP2
    generalize pl.length = n at *
    go_enter Try.func20, Try.ntmps20
    go_wp2_with fail
    rw [HW.out]
    go_wp2_with fail
    refine HMAY.out.mono ?_
    rintro e w3 ⟨rfl, hb3⟩
    go_wp2_with fail
    go_ret
    exact ⟨rfl, HB.out.trans (hb3.mono HB.out.size)⟩
  | true =>
    rw [hm] at HMAY
    by_cases h0 : who < 0
    · rw [show boundL words mx pl who = 0 from if_neg (by omega)]
      clear hpl HP2
      generalize pl.length = n at *
      go_enter Try.func20, Try.ntmps20
      go_wp2_with fail
      rw [HW.out]
      go_wp2_with fail
      refine HMAY.out.mono ?_
      rintro e w3 ⟨rfl, hb3⟩
      go_wp2_with fail
      go_ret
      exact ⟨rfl, HB.out.trans (hb3.mono HB.out.size)⟩
    obtain ⟨k, rfl⟩ : ∃ k : Nat, who = (k : Int) := ⟨who.toNat, by omega⟩
    by_cases h1 : pl.length ≤ k
    · rw [show boundL words mx pl (k : Int) = 0 from if_neg (by omega)]
      clear hpl
      generalize pl.length = n at *
      have hz : (n : Int) ≤ (k : Int) := by omega
      go_enter Try.func20, Try.ntmps20
      go_wp2_with fail
      rw [HW.out]
      go_wp2_with fail
      refine HMAY.out.mono ?_
      rintro e w3 ⟨rfl, hb3⟩
      have p2' := HP2.out _ hb3
      go_wp2_with fail
      go_ret
      exact ⟨rfl, HB.out.trans (hb3.mono HB.out.size)⟩
    obtain ⟨wn, hwn, hP⟩ := planOk_of hm
    obtain ⟨txs, htxs⟩ : ∃ t, pl[k]? = some t := ⟨_, List.getElem?_eq_getElem (by omega)⟩
    have hmem := List.mem_of_getElem? htxs
    have h4 := hP.tx4 _ hmem
    have h6 := hP.ac6 _ hmem
    rw [show boundL words mx pl (k : Int) = bndL txs from by unfold boundL; rw [if_pos ⟨hm, by omega, by omega⟩, Int.toNat_natCast]; simp [List.getD, htxs]]
    have HPL := Lib.hid (fun W (hb : Below w.heap.size w W) => (hpl.below hb).at_ htxs)
    obtain ⟨b1, o1, c1, A1, d1, e1, hb1, hm1, hc1, hT1⟩ := hpl.at_ htxs
    injection e1 with e1 _ e1c
    subst e1 e1c
    have HC := Lib.hid (fun W (hb : Below w.heap.size w W) => (hb.cell (p := ⟨b1, o1 + k, none⟩) hb1).trans hc1)
    have HE := Lib.hid (fun W (hb : Below w.heap.size w W) (i : Nat) (l : List Ac) (hl : txs[i]? = some l) => (hT1.below hb).at_ hl)
    obtain ⟨n, hn⟩ : ∃ n, n = pl.length := ⟨_, rfl⟩
    obtain ⟨n2, hn2⟩ : ∃ n, n = txs.length := ⟨_, rfl⟩
    have hlt : (k : Int) < (n : Int) := by omega
    have hnk : ¬ n ≤ k := by omega
    have hnk2 : decide (n ≤ k) = false := decide_eq_false hnk
    have hge : (0 : Int) ≤ (k : Int) := by omega
    have hnlt : ¬ (n : Int) ≤ (k : Int) := by omega
    rw [← hn] at p2 HP2 HW HMAY
    rw [← hn]
    rw [← hn2] at HC HE
    have HN2 := Lib.hid hn2
    have H4 := Lib.hid h4
    have H6 := Lib.hid h6
    clear hpl hP hwn htxs hmem h4 h6 hT1 hc1 hm1 hb1 hn hn2 h1 h0 hm
    go_enter Try.func20, Try.ntmps20
    go_wp2_with fail
    rw [HW.out]
    go_wp2_with fail
    refine HMAY.out.mono ?_
    rintro e w3 ⟨rfl, hb3⟩
    have p2' := HP2.out _ hb3
    have HB3 := Lib.hid hb3
    have q3 := HC.out _ (HB.out.trans (hb3.mono HB.out.size))
    clear hb3 p0 p1 p2 HMAY
    go_wp2_with fail
    go_loopg [6, 7] n2 (fun gg s5 s28 wr => ∃ i : Nat, i ≤ n2 ∧ n2 - i ≤ gg ∧ s28 = .int .i64 i ∧ Hid (s5 = .int .i64 (bndL (txs.take i))) ∧ Hid (Below w2.heap.size w2 wr))
    case atStart => exact ⟨0, by omega, by omega, by go_num, (show Hid _ from by go_num), HB3⟩
    case round =>
      obtain ⟨i, hi, hg, rfl, h5, BW2⟩ := hrel
      have BW := Lib.hid (HB.out.trans (BW2.out.mono HB.out.size))
      have p2r := HP2.out _ BW2.out
      have q3r := HC.out _ BW.out
      clear p2' q3
      by_cases hlt2 : i < n2
      · have hz2 : (i : Int) < (n2 : Int) := by omega
        have hi0 : (0 : Int) ≤ (i : Int) := by omega
        obtain ⟨l, hl⟩ : ∃ l, txs[i]? = some l := ⟨_, List.getElem?_eq_getElem (by rw [← HN2.out]; exact hlt2)⟩
        obtain ⟨b3, o3, c3, A4, d4, e3, hb3, _, hc3, hL⟩ := HE.out _ BW.out i l hl
        injection e3 with e3 _ e3c
        subst e3 e3c
        have hi4 : n2 ≤ 4 := by rw [HN2.out]; exact H4.out
        have hls := H6.out l (List.mem_of_getElem? hl)
        have hstep := bndL_take hl
        have hbd := bndL_le (txs := txs.take i) (by simp; have := H4.out; omega) (fun x hx => H6.out x (List.mem_of_mem_take hx))
        have hln : (txs.take i).length ≤ 4 := by simp; have := H4.out; omega
        have HS := Lib.hid hstep
        obtain ⟨s, hs⟩ : ∃ s, s = bndL (txs.take i) := ⟨_, rfl⟩
        have e5 := h5.out
        rw [← hs] at e5 hbd
        subst e5
        obtain ⟨p, hp⟩ : ∃ p, p = l.length := ⟨_, rfl⟩
        have HPP := Lib.hid hp
        have HSS := Lib.hid hs
        rw [← hp] at hls hc3
        have hr0 : (-9223372036854775808 : Int) ≤ s + (6 + 4 * (p : Int)) := by omega
        have hr1 : s + (6 + 4 * (p : Int)) ≤ 9223372036854775807 := by omega
        clear hl hL hstep h5 hs hp
        go_wp2_with fail
        go_roundg (n2 - (i + 1))
        case measure => omega
        case rel => exact ⟨i + 1, by omega, by omega, by go_num, (show Hid _ from by rw [HS.out, ← HSS.out, ← HPP.out]; go_num), BW2⟩
      · obtain rfl : i = n2 := by omega
        have e5 := h5.out
        rw [show txs.take i = txs from List.take_of_length_le (by rw [HN2.out]; exact Nat.le_refl _)] at e5
        subst e5
        go_wp2_with fail
        go_ret
        exact ⟨rfl, BW.out⟩
end Go.Proofs.Ytngimbfojccikaa
namespace Go.Proofs.Ytngimbfojccikaa
set_option linter.unusedSimpArgs false
open Go Go.ChangeShapes Go.WideShapes Go.ChangeAt Go.RowKit Go.Deep Go.Joins

theorem list_of {α : Type} {Q : Nat → α → Prop} : ∀ (n : Nat), (∀ i, i < n → ∃ a, Q i a) → ∃ xs : List α, xs.length = n ∧ ∀ i (h : i < xs.length), Q i xs[i]
  | 0, _ => ⟨[], rfl, fun i h => absurd h (by simp)⟩
  | n + 1, h => by
    obtain ⟨xs, hl, hx⟩ := list_of n fun i hi => h i (by omega)
    obtain ⟨a, ha⟩ := h n (by omega)
    refine ⟨xs ++ [a], by simp [hl], fun i hi => ?_⟩
    rcases Nat.lt_or_ge i xs.length with h1 | h1
    · rw [List.getElem_append_left h1]; exact hx i h1
    · have : i = n := by simp at hi; omega
      subst this
      rw [List.getElem_append_right h1]
      simpa [hl] using ha

theorem flat_at {α : Type} {k : Nat} (enc : α → List Value) (hk : ∀ x, (enc x).length = k) (xs : List α) (j : Nat) (u : Value) (hu : (xs.flatMap enc)[j]? = some u) :
    ∃ (i : Nat) (hi : i < xs.length) (r : Nat), j = i * k + r ∧ (enc xs[i])[r]? = some u := by
  induction xs generalizing j with
  | nil => simp at hu
  | cons x xs ih =>
    rw [List.flatMap_cons] at hu
    rcases Nat.lt_or_ge j k with h | h
    · rw [List.getElem?_append_left (by rw [hk]; exact h)] at hu
      exact ⟨0, by simp, j, by simp, by simpa using hu⟩
    · rw [List.getElem?_append_right (by rw [hk]; exact h), hk] at hu
      obtain ⟨i, hi, r, he, hr⟩ := ih _ hu
      exact ⟨i + 1, by simpa using hi, r, by rw [Nat.succ_mul]; omega, by simpa using hr⟩

section
variable {H : Type} {enc : TypeId × Value → H} {P : Program} {w : World} {base : Nat} {spare : Nat → Bool} {held : Bool}

theorem spot_of_cell {w : World} {a : Addr} {u : Value} (h : w.cell? a = some u) : a.spot = none ∧ a.block < w.heap.size := by
  refine ⟨?_, World.block_lt_of_cell? w a h⟩
  cases hs : a.spot with
  | none => rfl
  | some s =>
    unfold World.cell? at h
    split at h
    · simp [hs] at h
    · cases h

/-- A slice that was read as data: a list of elements, each with what its own reading tells. -/
theorem open_sl {α : Type} {k : Nat} (e' : α → List Value) (hk : ∀ x, (e' x).length = k) (hk0 : 0 < k) (Q : α → Prop) {t e : TypeId} {fuel : Nat} {v : Value} {x : DataW H × List MemPlace} (ht : P.underlying t = some (.slice e)) (hC : P.cellsOf e = k)
    (hel : ∀ n cs y, DataW.trod enc P w base spare held n e cs = some y → ∃ p : α, cs = e' p ∧ Q p) (h : DataW.trod enc P w base spare held fuel t [v] = some x) :
    ∃ xs : List α, Sl w k v xs.length (xs.flatMap e') ∧ ∀ p ∈ xs, Q p := by
  rcases open_slice ht h with ⟨h0, _⟩ | ⟨a, len, cap, m, n, D, Pl, hcs, _, hlc, hcm, hm, _, hi⟩
  · injection h0 with h0
    subst h0
    exact ⟨[], Sl.nil _ _, by simp⟩
  · injection hcs with hcs
    subst hcs
    have hlm : len ≤ m := by rw [hm]; split <;> omega
    rw [hC] at hi
    obtain ⟨xs, hxl, hx⟩ := list_of (Q := fun i (p : α) => Q p ∧ ∀ j u, (e' p)[j]? = some u → w.cell? (a.add (i * k + j)) = some u) len (fun i hil => by
      obtain ⟨cs, hc, htr⟩ := hi i (by omega)
      obtain ⟨p, rfl, hq⟩ := hel _ _ _ htr
      obtain ⟨_, hcl, hat⟩ := World.cells?_some hc
      refine ⟨p, hq, fun j u hu => ?_⟩
      have hj : j < k := by have := (List.getElem?_eq_some_iff.1 hu).1; rw [hk] at this; exact this
      rw [← Go.Deep.add_add, hat j hj, hu])
    refine ⟨xs, ⟨by rw [flat_len e' hk], .inr ⟨a, cap, by rw [hxl], by omega, hcm, fun hn => ?_⟩⟩, fun p hp => ?_⟩
    · have h0 : (e' xs[0])[0]? = some ((e' xs[0])[0]'(by rw [hk]; exact hk0)) := List.getElem?_eq_getElem _
      have h1 := (hx 0 hn).2 0 _ h0
      rw [show 0 * k + 0 = 0 from by simp, show a.add 0 = a from by simp [Addr.add]] at h1
      obtain ⟨hs, hb⟩ := spot_of_cell h1
      refine ⟨hs, hb, fun j u hu => ?_⟩
      obtain ⟨i, hi', r, rfl, hr⟩ := flat_at e' hk xs j u hu
      have := (hx i hi').2 r u hr
      obtain ⟨b, o, s⟩ := a
      simp only at hs
      subst hs
      rwa [add_none] at this
    · obtain ⟨i, hi', rfl⟩ := List.getElem_of_mem hp
      exact (hx i hi').1

end
end Go.Proofs.Ytngimbfojccikaa
namespace Go.Proofs.Ytngimbfojccikaa
set_option linter.unusedSimpArgs false
set_option maxRecDepth 100000
open Go Go.ChangeShapes Go.WideShapes Go.ChangeAt Go.RowKit Go.Deep Go.Joins

def okI (n : Int) : Prop := (Lit.int .i64 n).wf = true
theorem okI_bd {n : Int} (h : okI n) : -9223372036854775808 ≤ n ∧ n ≤ 9223372036854775807 := by
  unfold okI at h
  simp [Lit.wf, IntKind.min, IntKind.max, IntKind.signed, IntKind.bits] at h
  omega
theorem flat_fst {α : Type} (xs : List (Value × α)) : xs.flatMap (fun p : Value × α => [p.1]) = xs.map (·.1) := by
  induction xs with
  | nil => rfl
  | cons x xs ih => rw [List.flatMap_cons, ih]; rfl

section
variable {H : Type} {enc : TypeId × Value → H} {w : World} {base : Nat} {spare : Nat → Bool} {held : Bool}

theorem open_act {n : Nat} {cs : List Value} {y : DataW H × List MemPlace} (h : DataW.trod enc Try.prog w base spare held n 53 cs = some y) : ∃ p : Ac, cs = encAc p ∧ True := by
  obtain ⟨xs, m, rfl, _, hl, hxl, hi⟩ := DataW.trod_struct Try.underlying53 h
  have hC : Try.prog.cellsOf 53 = 3 := by kernel_rfl
  have hC1 : Try.prog.cellsOf 3 = 1 := by kernel_rfl
  rw [hC] at hl
  match cs, hl with
  | [c0, c1, c2], _ =>
    match xs, hxl with
    | [y0, y1, y2], _ =>
      have h0 : DataW.trod enc Try.prog w base spare held m 3 (([c0, c1, c2].drop 0).take (Try.prog.cellsOf 3)) = some y0 := hi 0 _ rfl
      have h1 : DataW.trod enc Try.prog w base spare held m 3 (([c0, c1, c2].drop 1).take (Try.prog.cellsOf 3)) = some y1 := hi 1 _ rfl
      have h2 : DataW.trod enc Try.prog w base spare held m 3 (([c0, c1, c2].drop 2).take (Try.prog.cellsOf 3)) = some y2 := hi 2 _ rfl
      rw [hC1] at h0 h1 h2
      simp at h0 h1 h2
      obtain ⟨a, e0, _, -⟩ := DataW.trod_int Try.underlying3 h0
      obtain ⟨b, e1, _, -⟩ := DataW.trod_int Try.underlying3 h1
      obtain ⟨c, e2, _, -⟩ := DataW.trod_int Try.underlying3 h2
      injection e0 with e0; injection e1 with e1; injection e2 with e2
      subst e0 e1 e2
      exact ⟨⟨a, b, c⟩, rfl, trivial⟩
theorem open_acts {n : Nat} {v : Value} {y : DataW H × List MemPlace} (h : DataW.trod enc Try.prog w base spare held n 51 [v] = some y) : ∃ l : List Ac, AcV w v l := by
  obtain ⟨l, h1, -⟩ := open_sl encAc encAc_len (by omega) (fun _ => True) Try.underlying51 (by kernel_rfl) (fun n cs y h => open_act h) h
  exact ⟨l, h1⟩
theorem open_txs {n : Nat} {v : Value} {y : DataW H × List MemPlace} (h : DataW.trod enc Try.prog w base spare held n 47 [v] = some y) : ∃ l : List (List Ac), TxV w v l := by
  obtain ⟨xs, hs, hq⟩ := open_sl (k := 1) (fun p : Value × List Ac => [p.1]) (fun _ => rfl) (by omega) (fun p => AcV w p.1 p.2) Try.underlying47 (by kernel_rfl) (fun n cs y h => by
    obtain ⟨x, rfl⟩ : ∃ x, cs = [x] := by
      have h2 := h
      rcases open_slice Try.underlying51 h2 with ⟨h0, _⟩ | ⟨a, len, cap, m, n, D, Pl, hcs, _⟩
      · exact ⟨_, h0⟩
      · exact ⟨_, hcs⟩
    obtain ⟨t, h1⟩ := open_acts h
    exact ⟨(x, t), rfl, h1⟩) h
  refine ⟨xs.map (·.2), xs.map (·.1), ?_, fun i v t e1 e2 => ?_⟩
  · rw [List.length_map]
    rwa [flat_fst] at hs
  · rw [List.getElem?_map] at e1 e2
    obtain ⟨x, hx, rfl⟩ := Option.map_eq_some_iff.1 e1
    rw [hx] at e2
    obtain rfl := Option.some.inj e2
    exact hq x (List.mem_of_getElem? hx)
theorem open_thrs {n : Nat} {v : Value} {y : DataW H × List MemPlace} (h : DataW.trod enc Try.prog w base spare held n 22 [v] = some y) : ∃ l : List (List (List Ac)), PlV w v l := by
  obtain ⟨xs, hs, hq⟩ := open_sl (k := 1) (fun p : Value × List (List Ac) => [p.1]) (fun _ => rfl) (by omega) (fun p => TxV w p.1 p.2) Try.underlying22 (by kernel_rfl) (fun n cs y h => by
    obtain ⟨x, rfl⟩ : ∃ x, cs = [x] := by
      have h2 := h
      rcases open_slice Try.underlying47 h2 with ⟨h0, _⟩ | ⟨a, len, cap, m, n, D, Pl, hcs, _⟩
      · exact ⟨_, h0⟩
      · exact ⟨_, hcs⟩
    obtain ⟨t, h1⟩ := open_txs h
    exact ⟨(x, t), rfl, h1⟩) h
  refine ⟨xs.map (·.2), xs.map (·.1), ?_, fun i v t e1 e2 => ?_⟩
  · rw [List.length_map]
    rwa [flat_fst] at hs
  · rw [List.getElem?_map] at e1 e2
    obtain ⟨x, hx, rfl⟩ := Option.map_eq_some_iff.1 e1
    rw [hx] at e2
    obtain rfl := Option.some.inj e2
    exact hq x (List.mem_of_getElem? hx)

theorem open_ints {n : Nat} {v : Value} {y : DataW H × List MemPlace} (h : DataW.trod enc Try.prog w base spare held n 25 [v] = some y) : ∃ t : List Int, Sl w 1 v t.length (t.flatMap encI) ∧ ∀ q ∈ t, okI q := by
  refine open_sl encI encI_len (by omega) okI Try.underlying25 (by kernel_rfl) (fun n cs y h => ?_) h
  match cs, DataW.trod_int Try.underlying3 h with
  | _, ⟨a, e0, _, w0⟩ => exact ⟨a, e0, w0⟩
theorem open_picks {r : Reach} {b0 : Nat} {v : Value} {d : DataW H} {p : List MemPlace} (hv : Value.okWide Try.prog w r b0 25 v) (h : DataW.Trod enc Try.prog w base spare held 25 v d p) :
    ∃ t : List Int, Sl w 1 v t.length (t.flatMap encI) ∧ ∀ q ∈ t, okI q := by
  obtain ⟨fuel, hf⟩ := h
  obtain ⟨a, len, cap, rfl⟩ := okWide_slice Try.underlying25 hv
  exact open_ints hf

theorem open_plan {r : Reach} {b0 : Nat} {v : Value} {d : DataW H} {p : List MemPlace} (hv : Value.okWide Try.prog w r b0 24 v) (h : DataW.Trod enc Try.prog w base spare held 24 v d p) :
    ∃ (words mx : Int) (pv : Value) (pl : List (List (List Ac))), v = planV words mx pv ∧ PlV w pv pl ∧ okI words ∧ okI mx := by
  obtain ⟨cs, rfl, hsz⟩ := okWide_struct Try.underlying24 hv
  have hC : Try.prog.cellsOf 24 = 3 := by kernel_rfl
  obtain ⟨c0, c1, c2, rfl⟩ := array3 (hsz.trans hC)
  obtain ⟨fuel, hf⟩ := h
  obtain ⟨xs, m, rfl, _, hl, hxl, hi⟩ := DataW.trod_struct Try.underlying24 hf
  have hC1 : Try.prog.cellsOf 3 = 1 := by kernel_rfl
  have hC2 : Try.prog.cellsOf 22 = 1 := by kernel_rfl
  match xs, hxl with
  | [y0, y1, y2], _ =>
    have h0 : DataW.trod enc Try.prog w base spare held m 3 ([c0, c1, c2].drop 0 |>.take (Try.prog.cellsOf 3)) = some y0 := hi 0 _ rfl
    have h1 : DataW.trod enc Try.prog w base spare held m 3 ([c0, c1, c2].drop 1 |>.take (Try.prog.cellsOf 3)) = some y1 := hi 1 _ rfl
    have h2 : DataW.trod enc Try.prog w base spare held m 22 ([c0, c1, c2].drop 2 |>.take (Try.prog.cellsOf 22)) = some y2 := hi 2 _ rfl
    rw [hC1] at h0 h1
    rw [hC2] at h2
    simp at h0 h1 h2
    obtain ⟨words, e0, _, w0⟩ := DataW.trod_int Try.underlying3 h0
    obtain ⟨mx, e1, _, w1⟩ := DataW.trod_int Try.underlying3 h1
    injection e0 with e0
    injection e1 with e1
    subst e0 e1
    obtain ⟨pl, hp⟩ := open_thrs h2
    exact ⟨words, mx, c2, pl, rfl, hp, w0, w1⟩
end
end Go.Proofs.Ytngimbfojccikaa
