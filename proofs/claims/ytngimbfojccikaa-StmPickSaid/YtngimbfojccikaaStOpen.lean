/- A plan, and picks, that came in as arguments. -/
import Derived.Test.YtngimbfojccikaaOpen
import Derived.Test.YtngimbfojccikaaStWork
import Derived.Test.YtngimbfojccikaaStMay
namespace Go.Proofs.Ytngimbfojccikaa
set_option linter.unusedSimpArgs false
set_option maxRecDepth 100000
open Go Go.ChangeShapes Go.WideShapes Go.ChangeAt Go.RowKit Go.Deep Go.Joins

def okI (n : Int) : Prop := (Lit.int .i64 n).wf = true
theorem okI_bd {n : Int} (h : okI n) : -9223372036854775808 ≤ n ∧ n ≤ 9223372036854775807 := by
  unfold okI at h
  simp [Lit.wf, IntKind.min, IntKind.max, IntKind.signed, IntKind.bits] at h
  omega
theorem flat_fst {α : Type} (xs : List (Value × α)) : xs.flatMap (fun p : Value × α => [p.1]) = xs.map (·.1) := by
  induction xs with
  | nil => rfl
  | cons x xs ih => rw [List.flatMap_cons, ih]; rfl

section
variable {H : Type} {enc : TypeId × Value → H} {w : World} {base : Nat} {spare : Nat → Bool} {held : Bool}

theorem open_act {n : Nat} {cs : List Value} {y : DataW H × List MemPlace} (h : DataW.trod enc Try.prog w base spare held n 53 cs = some y) : ∃ p : Ac, cs = encAc p ∧ True := by
  obtain ⟨xs, m, rfl, _, hl, hxl, hi⟩ := DataW.trod_struct Try.underlying53 h
  have hC : Try.prog.cellsOf 53 = 3 := by kernel_rfl
  have hC1 : Try.prog.cellsOf 3 = 1 := by kernel_rfl
  rw [hC] at hl
  match cs, hl with
  | [c0, c1, c2], _ =>
    match xs, hxl with
    | [y0, y1, y2], _ =>
      have h0 : DataW.trod enc Try.prog w base spare held m 3 (([c0, c1, c2].drop 0).take (Try.prog.cellsOf 3)) = some y0 := hi 0 _ rfl
      have h1 : DataW.trod enc Try.prog w base spare held m 3 (([c0, c1, c2].drop 1).take (Try.prog.cellsOf 3)) = some y1 := hi 1 _ rfl
      have h2 : DataW.trod enc Try.prog w base spare held m 3 (([c0, c1, c2].drop 2).take (Try.prog.cellsOf 3)) = some y2 := hi 2 _ rfl
      rw [hC1] at h0 h1 h2
      simp at h0 h1 h2
      obtain ⟨a, e0, _, -⟩ := DataW.trod_int Try.underlying3 h0
      obtain ⟨b, e1, _, -⟩ := DataW.trod_int Try.underlying3 h1
      obtain ⟨c, e2, _, -⟩ := DataW.trod_int Try.underlying3 h2
      injection e0 with e0; injection e1 with e1; injection e2 with e2
      subst e0 e1 e2
      exact ⟨⟨a, b, c⟩, rfl, trivial⟩
theorem open_acts {n : Nat} {v : Value} {y : DataW H × List MemPlace} (h : DataW.trod enc Try.prog w base spare held n 51 [v] = some y) : ∃ l : List Ac, AcV w v l := by
  obtain ⟨l, h1, -⟩ := open_sl encAc encAc_len (by omega) (fun _ => True) Try.underlying51 (by kernel_rfl) (fun n cs y h => open_act h) h
  exact ⟨l, h1⟩
theorem open_txs {n : Nat} {v : Value} {y : DataW H × List MemPlace} (h : DataW.trod enc Try.prog w base spare held n 47 [v] = some y) : ∃ l : List (List Ac), TxV w v l := by
  obtain ⟨xs, hs, hq⟩ := open_sl (k := 1) (fun p : Value × List Ac => [p.1]) (fun _ => rfl) (by omega) (fun p => AcV w p.1 p.2) Try.underlying47 (by kernel_rfl) (fun n cs y h => by
    obtain ⟨x, rfl⟩ : ∃ x, cs = [x] := by
      have h2 := h
      rcases open_slice Try.underlying51 h2 with ⟨h0, _⟩ | ⟨a, len, cap, m, n, D, Pl, hcs, _⟩
      · exact ⟨_, h0⟩
      · exact ⟨_, hcs⟩
    obtain ⟨t, h1⟩ := open_acts h
    exact ⟨(x, t), rfl, h1⟩) h
  refine ⟨xs.map (·.2), xs.map (·.1), ?_, fun i v t e1 e2 => ?_⟩
  · rw [List.length_map]
    rwa [flat_fst] at hs
  · rw [List.getElem?_map] at e1 e2
    obtain ⟨x, hx, rfl⟩ := Option.map_eq_some_iff.1 e1
    rw [hx] at e2
    obtain rfl := Option.some.inj e2
    exact hq x (List.mem_of_getElem? hx)
theorem open_thrs {n : Nat} {v : Value} {y : DataW H × List MemPlace} (h : DataW.trod enc Try.prog w base spare held n 22 [v] = some y) : ∃ l : List (List (List Ac)), PlV w v l := by
  obtain ⟨xs, hs, hq⟩ := open_sl (k := 1) (fun p : Value × List (List Ac) => [p.1]) (fun _ => rfl) (by omega) (fun p => TxV w p.1 p.2) Try.underlying22 (by kernel_rfl) (fun n cs y h => by
    obtain ⟨x, rfl⟩ : ∃ x, cs = [x] := by
      have h2 := h
      rcases open_slice Try.underlying47 h2 with ⟨h0, _⟩ | ⟨a, len, cap, m, n, D, Pl, hcs, _⟩
      · exact ⟨_, h0⟩
      · exact ⟨_, hcs⟩
    obtain ⟨t, h1⟩ := open_txs h
    exact ⟨(x, t), rfl, h1⟩) h
  refine ⟨xs.map (·.2), xs.map (·.1), ?_, fun i v t e1 e2 => ?_⟩
  · rw [List.length_map]
    rwa [flat_fst] at hs
  · rw [List.getElem?_map] at e1 e2
    obtain ⟨x, hx, rfl⟩ := Option.map_eq_some_iff.1 e1
    rw [hx] at e2
    obtain rfl := Option.some.inj e2
    exact hq x (List.mem_of_getElem? hx)

theorem open_ints {n : Nat} {v : Value} {y : DataW H × List MemPlace} (h : DataW.trod enc Try.prog w base spare held n 25 [v] = some y) : ∃ t : List Int, Sl w 1 v t.length (t.flatMap encI) ∧ ∀ q ∈ t, okI q := by
  refine open_sl encI encI_len (by omega) okI Try.underlying25 (by kernel_rfl) (fun n cs y h => ?_) h
  match cs, DataW.trod_int Try.underlying3 h with
  | _, ⟨a, e0, _, w0⟩ => exact ⟨a, e0, w0⟩
theorem open_picks {r : Reach} {b0 : Nat} {v : Value} {d : DataW H} {p : List MemPlace} (hv : Value.okWide Try.prog w r b0 25 v) (h : DataW.Trod enc Try.prog w base spare held 25 v d p) :
    ∃ t : List Int, Sl w 1 v t.length (t.flatMap encI) ∧ ∀ q ∈ t, okI q := by
  obtain ⟨fuel, hf⟩ := h
  obtain ⟨a, len, cap, rfl⟩ := okWide_slice Try.underlying25 hv
  exact open_ints hf

theorem open_plan {r : Reach} {b0 : Nat} {v : Value} {d : DataW H} {p : List MemPlace} (hv : Value.okWide Try.prog w r b0 24 v) (h : DataW.Trod enc Try.prog w base spare held 24 v d p) :
    ∃ (words mx : Int) (pv : Value) (pl : List (List (List Ac))), v = planV words mx pv ∧ PlV w pv pl ∧ okI words ∧ okI mx := by
  obtain ⟨cs, rfl, hsz⟩ := okWide_struct Try.underlying24 hv
  have hC : Try.prog.cellsOf 24 = 3 := by kernel_rfl
  obtain ⟨c0, c1, c2, rfl⟩ := array3 (hsz.trans hC)
  obtain ⟨fuel, hf⟩ := h
  obtain ⟨xs, m, rfl, _, hl, hxl, hi⟩ := DataW.trod_struct Try.underlying24 hf
  have hC1 : Try.prog.cellsOf 3 = 1 := by kernel_rfl
  have hC2 : Try.prog.cellsOf 22 = 1 := by kernel_rfl
  match xs, hxl with
  | [y0, y1, y2], _ =>
    have h0 : DataW.trod enc Try.prog w base spare held m 3 ([c0, c1, c2].drop 0 |>.take (Try.prog.cellsOf 3)) = some y0 := hi 0 _ rfl
    have h1 : DataW.trod enc Try.prog w base spare held m 3 ([c0, c1, c2].drop 1 |>.take (Try.prog.cellsOf 3)) = some y1 := hi 1 _ rfl
    have h2 : DataW.trod enc Try.prog w base spare held m 22 ([c0, c1, c2].drop 2 |>.take (Try.prog.cellsOf 22)) = some y2 := hi 2 _ rfl
    rw [hC1] at h0 h1
    rw [hC2] at h2
    simp at h0 h1 h2
    obtain ⟨words, e0, _, w0⟩ := DataW.trod_int Try.underlying3 h0
    obtain ⟨mx, e1, _, w1⟩ := DataW.trod_int Try.underlying3 h1
    injection e0 with e0
    injection e1 with e1
    subst e0 e1
    obtain ⟨pl, hp⟩ := open_thrs h2
    exact ⟨words, mx, c2, pl, rfl, hp, w0, w1⟩
end
end Go.Proofs.Ytngimbfojccikaa
