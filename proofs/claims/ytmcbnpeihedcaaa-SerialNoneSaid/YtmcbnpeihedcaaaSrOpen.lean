/- Tries that came in as an argument. -/
import Derived.Test.YtmcbnpeihedcaaaOpen
import Derived.Test.YtmcbnpeihedcaaaSrWords
namespace Go.Proofs.Ytmcbnpeihedcaaa
set_option maxRecDepth 100000
open Go Go.ChangeShapes Go.WideShapes Go.ChangeAt Go.RowKit Go.Deep Go.Joins

def okI (n : Int) : Prop := (Lit.int .i64 n).wf = true
theorem okI_bd {n : Int} (h : okI n) : -9223372036854775808 ≤ n ∧ n ≤ 9223372036854775807 := by
  unfold okI at h
  simp [Lit.wf, IntKind.min, IntKind.max, IntKind.signed, IntKind.bits] at h
  omega

section
variable {H : Type} {enc : TypeId × Value → H} {w : World} {base : Nat} {spare : Nat → Bool} {held : Bool}

theorem open_pair {n : Nat} {cs : List Value} {y : DataW H × List MemPlace} (h : DataW.trod enc Try.prog w base spare held n 34 cs = some y) : ∃ p : Pr, cs = encPr p ∧ okI p.at_ ∧ okI p.v := by
  obtain ⟨xs, m, rfl, _, hl, hxl, hi⟩ := DataW.trod_struct Try.underlying34 h
  have hC : Try.prog.cellsOf 34 = 2 := by kernel_rfl
  have hC1 : Try.prog.cellsOf 3 = 1 := by kernel_rfl
  rw [hC] at hl
  match cs, hl with
  | [c0, c1], _ =>
    match xs, hxl with
    | [y0, y1], _ =>
      have h0 : DataW.trod enc Try.prog w base spare held m 3 (([c0, c1].drop 0).take (Try.prog.cellsOf 3)) = some y0 := hi 0 _ rfl
      have h1 : DataW.trod enc Try.prog w base spare held m 3 (([c0, c1].drop 1).take (Try.prog.cellsOf 3)) = some y1 := hi 1 _ rfl
      rw [hC1] at h0 h1
      simp at h0 h1
      obtain ⟨r, e0, _, w0⟩ := DataW.trod_int Try.underlying3 h0
      obtain ⟨s, e1, _, w1⟩ := DataW.trod_int Try.underlying3 h1
      injection e0 with e0
      injection e1 with e1
      subst e0 e1
      exact ⟨⟨r, s⟩, rfl, w0, w1⟩

theorem open_pairs {n : Nat} {v : Value} {y : DataW H × List MemPlace} (h : DataW.trod enc Try.prog w base spare held n 25 [v] = some y) : ∃ (A : Option Addr) (l : List Pr) (c : Nat), v = .slice A l.length c ∧ Sl w 2 v l.length (l.flatMap encPr) ∧ ∀ q ∈ l, okI q.at_ ∧ okI q.v := by
  obtain ⟨l, h1, h2⟩ := open_sl encPr encPr_len (by omega) (fun q => okI q.at_ ∧ okI q.v) Try.underlying25 (by kernel_rfl) (fun n cs y h => open_pair h) h
  obtain ⟨A, c, rfl, _, _⟩ := h1.form
  exact ⟨A, l, c, rfl, h1, h2⟩

/-- Numbers of 64 bits. -/
def recOk (x : Rx) : Prop := okI x.who ∧ okI x.tx ∧ okI x.try_ ∧ okI x.en ∧ okI x.rv ∧ okI x.wv ∧ okI x.fr ∧ okI x.to_ ∧ (∀ q ∈ x.R, okI q.at_ ∧ okI q.v) ∧ ∀ q ∈ x.W, okI q.at_ ∧ okI q.v

theorem open_rec {n : Nat} {cs : List Value} {y : DataW H × List MemPlace} (h : DataW.trod enc Try.prog w base spare held n 27 cs = some y) : ∃ p : Rx, cs = encRx p ∧ RxOk w p ∧ recOk p := by
  obtain ⟨xs, m, rfl, _, hl, hxl, hi⟩ := DataW.trod_struct Try.underlying27 h
  have hC : Try.prog.cellsOf 27 = 10 := by kernel_rfl
  have hC1 : Try.prog.cellsOf 3 = 1 := by kernel_rfl
  have hC2 : Try.prog.cellsOf 25 = 1 := by kernel_rfl
  rw [hC] at hl
  match cs, hl with
  | [c0, c1, c2, c3, c4, c5, c6, c7, c8, c9], _ =>
    match xs, hxl with
    | [y0, y1, y2, y3, y4, y5, y6, y7, y8, y9], _ =>
      have h0 : DataW.trod enc Try.prog w base spare held m 3 (([c0, c1, c2, c3, c4, c5, c6, c7, c8, c9].drop 0).take (Try.prog.cellsOf 3)) = some y0 := hi 0 _ rfl
      have h1 : DataW.trod enc Try.prog w base spare held m 3 (([c0, c1, c2, c3, c4, c5, c6, c7, c8, c9].drop 1).take (Try.prog.cellsOf 3)) = some y1 := hi 1 _ rfl
      have h2 : DataW.trod enc Try.prog w base spare held m 3 (([c0, c1, c2, c3, c4, c5, c6, c7, c8, c9].drop 2).take (Try.prog.cellsOf 3)) = some y2 := hi 2 _ rfl
      have h3 : DataW.trod enc Try.prog w base spare held m 3 (([c0, c1, c2, c3, c4, c5, c6, c7, c8, c9].drop 3).take (Try.prog.cellsOf 3)) = some y3 := hi 3 _ rfl
      have h4 : DataW.trod enc Try.prog w base spare held m 3 (([c0, c1, c2, c3, c4, c5, c6, c7, c8, c9].drop 4).take (Try.prog.cellsOf 3)) = some y4 := hi 4 _ rfl
      have h5 : DataW.trod enc Try.prog w base spare held m 3 (([c0, c1, c2, c3, c4, c5, c6, c7, c8, c9].drop 5).take (Try.prog.cellsOf 3)) = some y5 := hi 5 _ rfl
      have h6 : DataW.trod enc Try.prog w base spare held m 25 (([c0, c1, c2, c3, c4, c5, c6, c7, c8, c9].drop 6).take (Try.prog.cellsOf 25)) = some y6 := hi 6 _ rfl
      have h7 : DataW.trod enc Try.prog w base spare held m 25 (([c0, c1, c2, c3, c4, c5, c6, c7, c8, c9].drop 7).take (Try.prog.cellsOf 25)) = some y7 := hi 7 _ rfl
      have h8 : DataW.trod enc Try.prog w base spare held m 3 (([c0, c1, c2, c3, c4, c5, c6, c7, c8, c9].drop 8).take (Try.prog.cellsOf 3)) = some y8 := hi 8 _ rfl
      have h9 : DataW.trod enc Try.prog w base spare held m 3 (([c0, c1, c2, c3, c4, c5, c6, c7, c8, c9].drop 9).take (Try.prog.cellsOf 3)) = some y9 := hi 9 _ rfl
      rw [hC1] at h0 h1 h2 h3 h4 h5 h8 h9
      rw [hC2] at h6 h7
      simp at h0 h1 h2 h3 h4 h5 h6 h7 h8 h9
      obtain ⟨a0, e0, _, w0⟩ := DataW.trod_int Try.underlying3 h0
      obtain ⟨a1, e1, _, w1⟩ := DataW.trod_int Try.underlying3 h1
      obtain ⟨a2, e2, _, w2⟩ := DataW.trod_int Try.underlying3 h2
      obtain ⟨a3, e3, _, w3⟩ := DataW.trod_int Try.underlying3 h3
      obtain ⟨a4, e4, _, w4⟩ := DataW.trod_int Try.underlying3 h4
      obtain ⟨a5, e5, _, w5⟩ := DataW.trod_int Try.underlying3 h5
      obtain ⟨A6, R, d6, rfl, s6, w6⟩ := open_pairs h6
      obtain ⟨A7, W, d7, rfl, s7, w7⟩ := open_pairs h7
      obtain ⟨a8, e8, _, w8⟩ := DataW.trod_int Try.underlying3 h8
      obtain ⟨a9, e9, _, w9⟩ := DataW.trod_int Try.underlying3 h9
      injection e0 with e0
      injection e1 with e1
      injection e2 with e2
      injection e3 with e3
      injection e4 with e4
      injection e5 with e5
      injection e8 with e8
      injection e9 with e9
      subst e0 e1 e2 e3 e4 e5 e8 e9
      exact ⟨⟨a0, a1, a2, a3, a4, a5, A6, d6, R, A7, d7, W, a8, a9⟩, rfl, ⟨s6, s7⟩, w0, w1, w2, w3, w4, w5, w8, w9, w6, w7⟩

theorem open_recs {r : Reach} {b0 : Nat} {v : Value} {d : DataW H} {p : List MemPlace} (hv : Value.okWide Try.prog w r b0 22 v) (h : DataW.Trod enc Try.prog w base spare held 22 v d p) :
    ∃ l : List Rx, RecsV w v l ∧ ∀ x ∈ l, recOk x := by
  obtain ⟨a, n, c, rfl⟩ := okWide_slice Try.underlying22 hv
  obtain ⟨fuel, hf⟩ := h
  obtain ⟨l, hs, hq⟩ := open_sl encRx encRx_len (by omega) (fun q => RxOk w q ∧ recOk q) Try.underlying22 (by kernel_rfl) (fun n cs y h => open_rec h) hf
  exact ⟨l, ⟨hs, fun x hx => (hq x hx).1⟩, fun x hx => (hq x hx).2⟩
end
end Go.Proofs.Ytmcbnpeihedcaaa
