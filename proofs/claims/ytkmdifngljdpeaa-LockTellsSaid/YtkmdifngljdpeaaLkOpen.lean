/- Locks that came in as an argument. -/
import Derived.Test.YtkmdifngljdpeaaOpen
import Derived.Test.YtkmdifngljdpeaaLkTick
namespace Go.Proofs.Ytkmdifngljdpeaa
open Go Go.ChangeShapes Go.WideShapes Go.ChangeAt Go.RowKit Go.Deep Go.Joins

def okI (n : Int) : Prop := (Lit.int .i64 n).wf = true
theorem okI_bd {n : Int} (h : okI n) : -9223372036854775808 ≤ n ∧ n ≤ 9223372036854775807 := by
  unfold okI at h
  simp [Lit.wf, IntKind.min, IntKind.max, IntKind.signed, IntKind.bits] at h
  omega

def lkOk (p : Lk) : Prop := okI p.v ∧ okI p.o

section
variable {H : Type} {enc : TypeId × Value → H} {w : World} {base : Nat} {spare : Nat → Bool} {held : Bool}

theorem open_lock {n : Nat} {cs : List Value} {y : DataW H × List MemPlace} (h : DataW.trod enc Try.prog w base spare held n 40 cs = some y) : ∃ p : Lk, cs = encL p ∧ lkOk p := by
  obtain ⟨xs, m, rfl, _, hl, hxl, hi⟩ := DataW.trod_struct Try.underlying40 h
  have hC : Try.prog.cellsOf 40 = 2 := by kernel_rfl
  have hC1 : Try.prog.cellsOf 3 = 1 := by kernel_rfl
  rw [hC] at hl
  match cs, hl with
  | [c0, c1], _ =>
    match xs, hxl with
    | [y0, y1], _ =>
      have h0 : DataW.trod enc Try.prog w base spare held m 3 (([c0, c1].drop 0).take (Try.prog.cellsOf 3)) = some y0 := hi 0 _ rfl
      have h1 : DataW.trod enc Try.prog w base spare held m 3 (([c0, c1].drop 1).take (Try.prog.cellsOf 3)) = some y1 := hi 1 _ rfl
      rw [hC1] at h0 h1
      simp at h0 h1
      obtain ⟨r, e0, _, w0⟩ := DataW.trod_int Try.underlying3 h0
      obtain ⟨s, e1, _, w1⟩ := DataW.trod_int Try.underlying3 h1
      injection e0 with e0
      injection e1 with e1
      subst e0 e1
      exact ⟨⟨r, s⟩, rfl, w0, w1⟩

theorem open_locks {r : Reach} {b0 : Nat} {v : Value} {d : DataW H} {p : List MemPlace} (hv : Value.okWide Try.prog w r b0 24 v) (h : DataW.Trod enc Try.prog w base spare held 24 v d p) :
    ∃ (now mx : Int) (ls : List Lk), LkV w v now mx ls ∧ okI now ∧ okI mx ∧ ∀ q ∈ ls, lkOk q := by
  obtain ⟨c0, c1, c2, y0, y1, y2, m, rfl, _, _, hy0, hy1, hy2⟩ := open_agg3 Try.underlying24 (by kernel_rfl) (by kernel_rfl) hv h
  obtain ⟨now, e0, _, w0⟩ := DataW.trod_int Try.underlying3 hy0
  obtain ⟨mx, e1, _, w1⟩ := DataW.trod_int Try.underlying3 hy1
  injection e0 with e0
  injection e1 with e1
  subst e0 e1
  obtain ⟨ls, hs, hq⟩ := open_sl encL encL_len (by omega) lkOk Try.underlying22 (by kernel_rfl) (fun n cs y h => open_lock h) hy2
  exact ⟨now, mx, ls, ⟨_, rfl, hs⟩, w0, w1, hq⟩
end
end Go.Proofs.Ytkmdifngljdpeaa
