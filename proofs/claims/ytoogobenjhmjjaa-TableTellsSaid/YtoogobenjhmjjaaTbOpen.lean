/- A heap that came in as an argument. -/
import Derived.Test.YtoogobenjhmjjaaOpen
import Derived.Test.YtoogobenjhmjjaaTbNew
namespace Go.Proofs.Ytoogobenjhmjjaa
set_option maxRecDepth 100000
open Go Go.ChangeShapes Go.WideShapes Go.ChangeAt Go.RowKit Go.Deep Go.Joins

def okI (n : Int) : Prop := (Lit.int .i64 n).wf = true
theorem okI_bd {n : Int} (h : okI n) : -9223372036854775808 ≤ n ∧ n ≤ 9223372036854775807 := by
  unfold okI at h
  simp [Lit.wf, IntKind.min, IntKind.max, IntKind.signed, IntKind.bits] at h
  omega

/-- Each number of a page is one of 64 bits. -/
def pgOk (p : Pg) : Prop := okI p.r ∧ okI p.a ∧ okI p.b ∧ okI p.c ∧ okI p.d

section
variable {H : Type} {enc : TypeId × Value → H} {w : World} {base : Nat} {spare : Nat → Bool} {held : Bool}

theorem open_words {n : Nat} {cs : List Value} {y : DataW H × List MemPlace} (h : DataW.trod enc Try.prog w base spare held n 52 cs = some y) :
    ∃ a b c d : Int, cs = [.int .i64 a, .int .i64 b, .int .i64 c, .int .i64 d] ∧ okI a ∧ okI b ∧ okI c ∧ okI d := by
  obtain ⟨xs, m, rfl, _, hl, hxl, hi⟩ := DataW.trod_array Try.underlying52 h
  have hC : Try.prog.cellsOf 52 = 4 := by kernel_rfl
  have hC1 : Try.prog.cellsOf 3 = 1 := by kernel_rfl
  rw [hC] at hl
  match cs, hl with
  | [c0, c1, c2, c3], _ =>
    match xs, hxl with
    | [y0, y1, y2, y3], _ =>
      have h0 := hi 0 (by omega)
      have h1 := hi 1 (by omega)
      have h2 := hi 2 (by omega)
      have h3 := hi 3 (by omega)
      rw [hC1] at h0 h1 h2 h3
      simp at h0 h1 h2 h3
      obtain ⟨a, e0, _, w0⟩ := DataW.trod_int Try.underlying3 h0
      obtain ⟨b, e1, _, w1⟩ := DataW.trod_int Try.underlying3 h1
      obtain ⟨c, e2, _, w2⟩ := DataW.trod_int Try.underlying3 h2
      obtain ⟨d, e3, _, w3⟩ := DataW.trod_int Try.underlying3 h3
      injection e0 with e0; injection e1 with e1; injection e2 with e2; injection e3 with e3
      subst e0 e1 e2 e3
      exact ⟨a, b, c, d, rfl, w0, w1, w2, w3⟩

theorem open_page {n : Nat} {cs : List Value} {y : DataW H × List MemPlace} (h : DataW.trod enc Try.prog w base spare held n 54 cs = some y) : ∃ p : Pg, cs = encP p ∧ pgOk p := by
  obtain ⟨xs, m, rfl, _, hl, hxl, hi⟩ := DataW.trod_struct Try.underlying54 h
  have hC : Try.prog.cellsOf 54 = 5 := by kernel_rfl
  have hC4 : Try.prog.cellsOf 52 = 4 := by kernel_rfl
  have hC1 : Try.prog.cellsOf 3 = 1 := by kernel_rfl
  rw [hC] at hl
  match cs, hl with
  | [c0, c1, c2, c3, c4], _ =>
    match xs, hxl with
    | [y0, y1], _ =>
      have h0 : DataW.trod enc Try.prog w base spare held m 3 (([c0, c1, c2, c3, c4].drop 0).take (Try.prog.cellsOf 3)) = some y0 := hi 0 _ rfl
      have h1 : DataW.trod enc Try.prog w base spare held m 52 (([c0, c1, c2, c3, c4].drop 1).take (Try.prog.cellsOf 52)) = some y1 := hi 1 _ rfl
      rw [hC1] at h0
      rw [hC4] at h1
      simp at h0 h1
      obtain ⟨r, e0, _, w0⟩ := DataW.trod_int Try.underlying3 h0
      obtain ⟨a, b, c, d, e1, wa, wb, wc, wd⟩ := open_words h1
      injection e0 with e0
      subst e0
      injection e1 with e1 e2
      injection e2 with e2 e3
      injection e3 with e3 e4
      injection e4 with e4 _
      subst e1 e2 e3 e4
      exact ⟨⟨r, a, b, c, d⟩, rfl, w0, wa, wb, wc, wd⟩

theorem open_ints {n : Nat} {v : Value} {y : DataW H × List MemPlace} (h : DataW.trod enc Try.prog w base spare held n 47 [v] = some y) : ∃ t : List Int, Sl w 1 v t.length (t.flatMap encI) ∧ ∀ q ∈ t, okI q := by
  refine open_sl encI encI_len (by omega) okI Try.underlying47 (by kernel_rfl) (fun n cs y h => ?_) h
  match cs, DataW.trod_int Try.underlying3 h with
  | _, ⟨a, e0, _, w0⟩ => exact ⟨a, e0, w0⟩

theorem open_tabs {n : Nat} {v : Value} {y : DataW H × List MemPlace} (h : DataW.trod enc Try.prog w base spare held n 26 [v] = some y) : ∃ ts : List (List Int), TbV w v ts ∧ ∀ t ∈ ts, ∀ q ∈ t, okI q := by
  obtain ⟨xs, hs, hq⟩ := open_sl (k := 1) (fun p : Value × List Int => [p.1]) (fun _ => rfl) (by omega) (fun p => Sl w 1 p.1 p.2.length (p.2.flatMap encI) ∧ ∀ q ∈ p.2, okI q) Try.underlying26 (by kernel_rfl) (fun n cs y h => by
    obtain ⟨x, rfl⟩ : ∃ x, cs = [x] := by
      have h2 := h
      rcases open_slice Try.underlying47 h2 with ⟨h0, _⟩ | ⟨a, len, cap, m, n, D, Pl, hcs, _⟩
      · exact ⟨_, h0⟩
      · exact ⟨_, hcs⟩
    obtain ⟨t, h1, h2⟩ := open_ints h
    exact ⟨(x, t), rfl, h1, h2⟩) h
  refine ⟨xs.map (·.2), ⟨xs.map (·.1), ?_, by simp, fun i v t e1 e2 => ?_⟩, ?_⟩
  · rw [List.length_map]
    have : ∀ xs : List (Value × List Int), xs.flatMap (fun p : Value × List Int => [p.1]) = xs.map (·.1) := by
      intro xs
      induction xs with
      | nil => rfl
      | cons x xs ih => rw [List.flatMap_cons, ih]; rfl
    rwa [this] at hs
  · rw [List.getElem?_map] at e1 e2
    obtain ⟨x, hx, rfl⟩ := Option.map_eq_some_iff.1 e1
    rw [hx] at e2
    obtain rfl := Option.some.inj e2
    exact (hq x (List.mem_of_getElem? hx)).1
  · intro t ht
    obtain ⟨x, hx, rfl⟩ := List.mem_map.1 ht
    exact (hq x hx).2

theorem open_heap {r : Reach} {b0 : Nat} {v : Value} {d : DataW H} {p : List MemPlace} (hv : Value.okWide Try.prog w r b0 28 v) (h : DataW.Trod enc Try.prog w base spare held 28 v d p) :
    ∃ (cap : Int) (ps : List Pg) (ts : List (List Int)), HpV w v cap ps ts ∧ okI cap ∧ (∀ q ∈ ps, pgOk q) ∧ ∀ t ∈ ts, ∀ q ∈ t, okI q := by
  obtain ⟨cs, rfl, hsz⟩ := okWide_struct Try.underlying28 hv
  have hC : Try.prog.cellsOf 28 = 3 := by kernel_rfl
  obtain ⟨c0, c1, c2, rfl⟩ := array3 (hsz.trans hC)
  obtain ⟨fuel, hf⟩ := h
  obtain ⟨xs, m, rfl, _, hl, hxl, hi⟩ := DataW.trod_struct Try.underlying28 hf
  have hC2 : Try.prog.cellsOf 25 = 2 := by kernel_rfl
  have hC1 : Try.prog.cellsOf 26 = 1 := by kernel_rfl
  have hCi : Try.prog.cellsOf 3 = 1 := by kernel_rfl
  have hCp : Try.prog.cellsOf 23 = 1 := by kernel_rfl
  match xs, hxl with
  | [y0, y1], _ =>
    have h0 : DataW.trod enc Try.prog w base spare held m 25 ([c0, c1, c2].drop 0 |>.take (Try.prog.cellsOf 25)) = some y0 := hi 0 _ rfl
    have h1 : DataW.trod enc Try.prog w base spare held m 26 ([c0, c1, c2].drop 2 |>.take (Try.prog.cellsOf 26)) = some y1 := hi 1 _ rfl
    rw [hC2] at h0
    rw [hC1] at h1
    simp at h0 h1
    obtain ⟨xs2, m2, rfl, _, hl2, hxl2, hi2⟩ := DataW.trod_struct Try.underlying25 h0
    match xs2, hxl2 with
    | [z0, z1], _ =>
      have g0 : DataW.trod enc Try.prog w base spare held m2 3 ([c0, c1].drop 0 |>.take (Try.prog.cellsOf 3)) = some z0 := hi2 0 _ rfl
      have g1 : DataW.trod enc Try.prog w base spare held m2 23 ([c0, c1].drop 1 |>.take (Try.prog.cellsOf 23)) = some z1 := hi2 1 _ rfl
      rw [hCi] at g0
      rw [hCp] at g1
      simp at g0 g1
      obtain ⟨cap, e0, _, wc⟩ := DataW.trod_int Try.underlying3 g0
      injection e0 with e0
      subst e0
      obtain ⟨ps, hs, hq⟩ := open_sl encP encP_len (by omega) pgOk Try.underlying23 (by kernel_rfl) (fun n cs y h => open_page h) g1
      obtain ⟨ts, ht, hq2⟩ := open_tabs h1
      exact ⟨cap, ps, ts, ⟨_, _, rfl, hs, ht⟩, wc, hq, hq2⟩
end
end Go.Proofs.Ytoogobenjhmjjaa
