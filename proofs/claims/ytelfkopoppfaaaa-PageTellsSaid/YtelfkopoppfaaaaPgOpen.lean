/- A store that came in as an argument. -/
import Derived.Test.YtelfkopoppfaaaaOpen
import Derived.Test.YtelfkopoppfaaaaPgAwake
namespace Go.Proofs.Ytelfkopoppfaaaa
open Go Go.ChangeShapes Go.WideShapes Go.ChangeAt Go.RowKit Go.Deep Go.Joins

def okI (n : Int) : Prop := (Lit.int .i64 n).wf = true
theorem okI_bd {n : Int} (h : okI n) : -9223372036854775808 ≤ n ∧ n ≤ 9223372036854775807 := by
  unfold okI at h
  simp [Lit.wf, IntKind.min, IntKind.max, IntKind.signed, IntKind.bits] at h
  omega

/-- Each number of a page is one of 64 bits. -/
def pgOk (p : Pg) : Prop := okI p.r ∧ okI p.a ∧ okI p.b ∧ okI p.c ∧ okI p.d

section
variable {H : Type} {enc : TypeId × Value → H} {w : World} {base : Nat} {spare : Nat → Bool} {held : Bool}

theorem open_words {n : Nat} {cs : List Value} {y : DataW H × List MemPlace} (h : DataW.trod enc Try.prog w base spare held n 35 cs = some y) :
    ∃ a b c d : Int, cs = [.int .i64 a, .int .i64 b, .int .i64 c, .int .i64 d] ∧ okI a ∧ okI b ∧ okI c ∧ okI d := by
  obtain ⟨xs, m, rfl, _, hl, hxl, hi⟩ := DataW.trod_array Try.underlying35 h
  have hC : Try.prog.cellsOf 35 = 4 := by kernel_rfl
  have hC1 : Try.prog.cellsOf 3 = 1 := by kernel_rfl
  rw [hC] at hl
  match cs, hl with
  | [c0, c1, c2, c3], _ =>
    match xs, hxl with
    | [y0, y1, y2, y3], _ =>
      have h0 := hi 0 (by omega)
      have h1 := hi 1 (by omega)
      have h2 := hi 2 (by omega)
      have h3 := hi 3 (by omega)
      rw [hC1] at h0 h1 h2 h3
      simp at h0 h1 h2 h3
      obtain ⟨a, e0, _, w0⟩ := DataW.trod_int Try.underlying3 h0
      obtain ⟨b, e1, _, w1⟩ := DataW.trod_int Try.underlying3 h1
      obtain ⟨c, e2, _, w2⟩ := DataW.trod_int Try.underlying3 h2
      obtain ⟨d, e3, _, w3⟩ := DataW.trod_int Try.underlying3 h3
      injection e0 with e0; injection e1 with e1; injection e2 with e2; injection e3 with e3
      subst e0 e1 e2 e3
      exact ⟨a, b, c, d, rfl, w0, w1, w2, w3⟩

theorem open_page {n : Nat} {cs : List Value} {y : DataW H × List MemPlace} (h : DataW.trod enc Try.prog w base spare held n 37 cs = some y) : ∃ p : Pg, cs = encP p ∧ pgOk p := by
  obtain ⟨xs, m, rfl, _, hl, hxl, hi⟩ := DataW.trod_struct Try.underlying37 h
  have hC : Try.prog.cellsOf 37 = 5 := by kernel_rfl
  have hC4 : Try.prog.cellsOf 35 = 4 := by kernel_rfl
  have hC1 : Try.prog.cellsOf 3 = 1 := by kernel_rfl
  rw [hC] at hl
  match cs, hl with
  | [c0, c1, c2, c3, c4], _ =>
    match xs, hxl with
    | [y0, y1], _ =>
      have h0 : DataW.trod enc Try.prog w base spare held m 3 (([c0, c1, c2, c3, c4].drop 0).take (Try.prog.cellsOf 3)) = some y0 := hi 0 _ rfl
      have h1 : DataW.trod enc Try.prog w base spare held m 35 (([c0, c1, c2, c3, c4].drop 1).take (Try.prog.cellsOf 35)) = some y1 := hi 1 _ rfl
      rw [hC1] at h0
      rw [hC4] at h1
      simp at h0 h1
      obtain ⟨r, e0, _, w0⟩ := DataW.trod_int Try.underlying3 h0
      obtain ⟨a, b, c, d, e1, wa, wb, wc, wd⟩ := open_words h1
      injection e0 with e0
      subst e0
      injection e1 with e1 e2
      injection e2 with e2 e3
      injection e3 with e3 e4
      injection e4 with e4 _
      subst e1 e2 e3 e4
      exact ⟨⟨r, a, b, c, d⟩, rfl, w0, wa, wb, wc, wd⟩

theorem open_store {r : Reach} {b0 : Nat} {v : Value} {d : DataW H} {p : List MemPlace} (hv : Value.okWide Try.prog w r b0 25 v) (h : DataW.Trod enc Try.prog w base spare held 25 v d p) :
    ∃ (cap : Int) (ps : List Pg), StV w v cap ps ∧ okI cap ∧ ∀ q ∈ ps, pgOk q := by
  obtain ⟨c0, c1, y0, y1, m, rfl, _, _, hy0, hy1⟩ := open_agg2 Try.underlying25 (by kernel_rfl) (by kernel_rfl) hv h
  obtain ⟨cap, e0, _, wc⟩ := DataW.trod_int Try.underlying3 hy0
  injection e0 with e0
  subst e0
  obtain ⟨ps, hs, hq⟩ := open_sl encP encP_len (by omega) pgOk Try.underlying23 (by kernel_rfl) (fun n cs y h => open_page h) hy1
  exact ⟨cap, ps, ⟨_, rfl, hs⟩, wc, hq⟩
end
end Go.Proofs.Ytelfkopoppfaaaa
