/- page.Alloc, Share, Free, Write: what the exported functions come to. -/
import Derived.Test.YtoogobenjhmjjaaPgHad
namespace Go.Proofs.Ytoogobenjhmjjaa
open Go Go.RowKit

/-- The value v reads as a store of this room and these pages. -/
def StV (w : World) (v : Value) (cap : Int) (ps : List Pg) : Prop := ∃ sv, v = .agg #[.int .i64 cap, sv] ∧ Sl w 5 sv ps.length (ps.flatMap encP)

theorem StV.below {w w' : World} {v : Value} {cap : Int} {ps : List Pg} (h : StV w v cap ps) (hb : Below w.heap.size w w') : StV w' v cap ps := by
  obtain ⟨sv, rfl, h⟩ := h
  exact ⟨sv, rfl, h.below hb⟩

theorem StV.keep {w w' : World} {v : Value} {cap : Int} {ps : List Pg} (h : StV w v cap ps) (hb : Below w.heap.size w w') : StV w' v cap ps := h.below hb

/-- A store at work: its two cells, and its row. -/
theorem OwnSt.read {w : World} {base : Nat} {pv : Value} {cap : Int} {ps : List Pg} (h : OwnSt w base pv cap ps) :
    ∃ B A c, pv = .pointer (some ⟨B, 0, none⟩) ∧ base ≤ B ∧ B < w.heap.size ∧ w.cell? ⟨B, 0, none⟩ = some (.int .i64 cap) ∧ w.cell? ⟨B, 1, none⟩ = some (.slice A ps.length c) ∧
      w.ownsRow base 54 5 (.slice A ps.length c) ps.length (ps.flatMap encP) ∧ (Value.slice A ps.length c).ownBlock ≠ some B := by
  obtain ⟨B, sv, rfl, hB, hblk, hown⟩ := h
  obtain ⟨A, c, rfl, _, _⟩ := (Sl.of_own hown).form
  exact ⟨B, A, c, rfl, hB, hblk.lt, by rw [hblk.cell]; rfl, by rw [hblk.cell]; rfl, hown, own_ne hown hblk (by decide)⟩

/-- The cells of a store lie in a block from base on. -/
def Fresh (base : Nat) (v : Value) : Prop := ∀ cap a n c, v = .agg #[cap, .slice (some a) n c] → base ≤ a.block

theorem fresh_of_own {w : World} {base base' : Nat} {e : TypeId} {k n : Nat} {sv cap : Value} {xs : List Value} (h : w.ownsRow base' e k sv n xs) (hb : base ≤ base') : Fresh base (.agg #[cap, sv]) := by
  intro cap' a n' c he
  cases he
  exact Nat.le_trans hb (h.lt a.block rfl).1

theorem StV.setCell {w : World} {base : Nat} {v : Value} {cap : Int} {ps : List Pg} (h : StV w v cap ps) (hf : Fresh base v) {p : Addr} (hp : p.block < base) (u : Value) : StV (w.setCell p u) v cap ps := by
  obtain ⟨sv, rfl, hl, ⟨rfl, h0⟩ | ⟨a, c, rfl, hc, hm, hr⟩⟩ := h
  · exact ⟨_, rfl, hl, .inl ⟨rfl, h0⟩⟩
  · refine ⟨_, rfl, hl, .inr ⟨a, c, rfl, hc, hm, fun hn => ?_⟩⟩
    have hb := hf _ _ _ _ rfl
    obtain ⟨hs, hlt, hC⟩ := hr hn
    refine ⟨hs, by simpa [World.setCell] using hlt, fun j u' hu => ?_⟩
    rw [World.cell?_setCell_other _ _ _ _ (fun e => by rw [e] at hp; simp at hp; omega)]
    exact hC j u' hu

def allocX (cap : Int) (ps : List Pg) : Int × Int × List Pg := if mayP cap ps = true then allocL cap ps ⟨0, 0, 0, 0, 0⟩ else (-1, 1, ps)

set_option maxHeartbeats 1000000 in
theorem Alloc_any (v : Value) (cap : Int) (ps : List Pg) (w : World) (hv : StV w v cap ps) (hn : ps.length ≤ 1000) :
    Calls Try.prog 34 #[v] w fun e w' => ∃ v', e = .returned (.tuple #[v', .int .i64 (allocX cap ps).1, .int .i64 (allocX cap ps).2.1]) ∧ StV w' v' cap (allocX cap ps).2.2 ∧ Below w.heap.size w w' ∧ Fresh w.heap.size v' := by
  obtain ⟨sv, rfl, hsl⟩ := hv
  have hb0 : Below w.heap.size w ((w.alloc (.cells #[.int .i64 cap, sv] 25)).alloc (.cells #[.int .i64 0, .slice none 0 0] 25)) := ((Below.refl _ w).alloc (Nat.le_refl _) _).alloc (by simp) _
  have hown := own_any cap sv ps _ (hsl.below hb0) hn
  have hmay := fun W hb => may_any cap sv ps W (hsl.below hb)
  obtain ⟨A, c, rfl, _, _⟩ := hsl.form
  cases hm : mayP cap ps with
  | false =>
    rw [show allocX cap ps = (-1, 1, ps) from by simp [allocX, hm]]
    rw [hm] at hmay
    clear hm
    generalize hnn : ps.length = n at *
    have HN := Lib.hid hnn
    clear hnn
    go_enter Try.func34, Try.ntmps34
    go_wp2_with fail
    refine hown.mono ?_
    rintro e w1 ⟨pv, rfl, hst, hb1⟩
    obtain ⟨hc1, hf1⟩ := bcell hb1
    have hz1 := hb1.size
    simp at hz1
    obtain ⟨B, A1, c1, rfl, hB, hBlt, b0, b1, ho1, _⟩ := hst.read
    simp at hB
    have z1 : w.heap.size < w1.heap.size := by omega
    have z2 : w.heap.size + 1 < w1.heap.size := by omega
    go_wp2_with fail
    refine (hmay _ (hb0.trans (hb1.mono (by simp; omega)))).mono ?_
    rintro e w2 ⟨rfl, hb2⟩
    obtain ⟨hc2, hf2⟩ := bcell hb2
    have hz2 := hb2.size
    go_wp2
    refine bodyPost_ret (v := .tuple #[.agg #[.int .i64 cap, .slice A1 ps.length c1], .int .i64 (-1), .int .i64 1]) (by simp [results, Try.results34, go_sem, hc1, hc2, z2]) rfl ⟨_, rfl, ⟨_, rfl, ?_⟩, ?_, ?_⟩
    · exact Sl.of_own (ownsRow_setCell_below (ownsRow_setCell_below (own_below ho1 hb2) (by simp) _) (by simp) _)
    · exact (((hb0.trans (hb1.mono (by simp; omega))).trans (hb2.mono (by omega))).setCell (by simp) _).setCell (by simp) _
    · exact fresh_of_own ho1 (by simp; omega)
  | true =>
    rw [show allocX cap ps = allocL cap ps ⟨0, 0, 0, 0, 0⟩ from by simp [allocX, hm]]
    rw [hm] at hmay
    clear hm
    have hal := fun (base : Nat) (pv : Value) (W : World) hs hb => alloc_any base pv cap ps ⟨0, 0, 0, 0, 0⟩ W hs hb hn
    generalize allocL cap ps ⟨0, 0, 0, 0, 0⟩ = r at hal ⊢
    obtain ⟨at_, er, qs⟩ := r
    simp only [encP] at hal
    clear hn
    generalize hnn : ps.length = n at *
    have HN := Lib.hid hnn
    clear hnn
    go_enter Try.func34, Try.ntmps34
    go_wp2_with fail
    refine hown.mono ?_
    rintro e w1 ⟨pv, rfl, hst, hb1⟩
    obtain ⟨hc1, hf1⟩ := bcell hb1
    have hz1 := hb1.size
    simp at hz1
    have z1 : w.heap.size < w1.heap.size := by omega
    have z2 : w.heap.size + 1 < w1.heap.size := by omega
    go_wp2_with fail
    refine (hmay _ (hb0.trans (hb1.mono (by simp; omega)))).mono ?_
    rintro e w2 ⟨rfl, hb2⟩
    obtain ⟨hc2, hf2⟩ := bcell hb2
    have hz2 := hb2.size
    go_wp2_with fail
    refine (hal _ _ _ (hst.below hb2) (by simp; omega)).mono ?_
    rintro e w3 ⟨rfl, hst3, hb3⟩
    have hz3 := hb3.size
    have y1 : w3.cell? ⟨w.heap.size + 1, 0, none⟩ = some (.int .i64 0) := by rw [hb3.cell (p := ⟨w.heap.size + 1, 0, none⟩) (by simp), hc2 _ _ z2, hc1 _ _ (by simp)]; simp
    have y2 : w3.cell? ⟨w.heap.size + 1, 1, none⟩ = some (.slice none 0 0) := by rw [hb3.cell (p := ⟨w.heap.size + 1, 1, none⟩) (by simp), hc2 _ _ z2, hc1 _ _ (by simp)]; simp
    have y3 : w3.frozen? ⟨w.heap.size + 1, 0, none⟩ = false := by rw [hb3.frozen (p := ⟨w.heap.size + 1, 0, none⟩) (by simp), hf2 _ _ z2, hf1 _ _ (by simp)]; simp
    have y4 : w3.frozen? ⟨w.heap.size + 1, 1, none⟩ = false := by rw [hb3.frozen (p := ⟨w.heap.size + 1, 1, none⟩) (by simp), hf2 _ _ z2, hf1 _ _ (by simp)]; simp
    clear hc1 hc2 hf1 hf2
    obtain ⟨B, A1, c1, rfl, hB, hBlt, b0, b1, ho1, _⟩ := hst3.read
    simp at hB
    go_wp2
    refine bodyPost_ret (v := .tuple #[.agg #[.int .i64 cap, .slice A1 qs.length c1], .int .i64 at_, .int .i64 er]) (by simp [results, Try.results34, go_sem, y1, y2]) rfl ⟨_, rfl, ⟨_, rfl, ?_⟩, ?_, ?_⟩
    · exact Sl.of_own (ownsRow_setCell_below (ownsRow_setCell_below ho1 (by simp) _) (by simp) _)
    · exact ((((hb0.trans (hb1.mono (by simp; omega))).trans (hb2.mono (by omega))).trans (hb3.mono (by simp; omega))).setCell (by simp) _).setCell (by simp) _
    · exact fresh_of_own ho1 (by simp; omega)

end Go.Proofs.Ytoogobenjhmjjaa
