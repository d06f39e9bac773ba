/- (*page.store).alloc. -/
import Derived.Test.YtoogobenjhmjjaaPgOwn
import Derived.Deep.RegionHeld3
import Derived.Deep.DrawnRows
namespace Go.Proofs.Ytoogobenjhmjjaa
open Go Go.RowKit

def freeP (p : Pg) : Bool := p.r == 0

set_option maxHeartbeats 400000 in
theorem free_pred (w : World) : PredB Try.prog 72 #[] (fun x : Pg => Value.agg (encP x).toArray) freeP w := fun W x _ => by
  show Calls Try.prog 72 #[.agg #[.int .i64 x.r, .int .i64 x.a, .int .i64 x.b, .int .i64 x.c, .int .i64 x.d]] W _
  unfold freeP
  go_enter Try.func72, Try.ntmps72
  go_wp2
  go_ret
  exact ⟨rfl, (Below.refl _ _).alloc (Nat.le_refl _) _⟩

/-- The store of a whole page into a row of one's own. -/
theorem page_set {w : World} {base B g c at_ : Nat} {cap : Int} {ps : List Pg} {cur : Array Value} (x : Pg) (hB : base ≤ B) (hg : base ≤ g) (hne : g ≠ B)
    (hblk : Blk w B 90 #[.int .i64 cap, .slice (some ⟨g, 0, none⟩) ps.length c]) (hrow : Blk w g 54 cur) (hc1 : ps.length ≤ c) (hc2 : c ≤ maxLen) (hcur : cur.size = c * 5)
    (htake : cur.toList.take (ps.length * 5) = ps.flatMap encP) (hat : at_ < ps.length) :
    OwnSt (((((w.setCell ⟨g, at_ * 5, none⟩ (.int .i64 x.r)).setCell ⟨g, at_ * 5 + 1, none⟩ (.int .i64 x.a)).setCell ⟨g, at_ * 5 + 2, none⟩ (.int .i64 x.b)).setCell ⟨g, at_ * 5 + 3, none⟩ (.int .i64 x.c)).setCell ⟨g, at_ * 5 + 4, none⟩ (.int .i64 x.d)).drew
      base (.pointer (some ⟨B, 0, none⟩)) cap (ps.set at_ x) := by
  refine ⟨B, .slice (some ⟨g, 0, none⟩) ps.length c, rfl, hB, ?_, ?_⟩
  · refine Blk.drew (Blk.far (Blk.far (Blk.far (Blk.far (Blk.far hblk ?_ _) ?_ _) ?_ _) ?_ _) ?_ _) <;> exact Ne.symm hne
  · rw [List.length_set]
    refine own_of (by rw [flat_len encP encP_len, List.length_set]) hg (Blk.drew (Blk.set_ (Blk.set_ (Blk.set_ (Blk.set_ (Blk.set_ hrow _ _) _ _) _ _) _ _) _ _)) hc1 hc2 (by simpa using hcur) ?_
    rw [take_set, take_set, take_set, take_set, take_set, htake, ← flat_set encP encP_len ps at_ hat x]
    rfl

set_option maxHeartbeats 400000 in
theorem alloc_some (base : Nat) (pv : Value) (cap : Int) (ps : List Pg) (x : Pg) (w : World) (hs : OwnSt w base pv cap ps) (hb0 : base ≤ w.heap.size) (hn : ps.length ≤ 1000) (at_ : Nat) (hat : at_ < ps.length) (hat' : idxF freeP ps = at_) :
    Calls Try.prog 60 #[pv, .agg (encP x).toArray] w fun e w' => e = .returned (.tuple #[.int .i64 at_, .int .i64 0]) ∧ OwnSt w' base pv cap (ps.set at_ { x with r := 1 }) ∧ Below base w w' := by
  obtain ⟨B, sv, rfl, hB, hblk, hown⟩ := hs
  have eg : ∀ args w, (callFunc 72 args).run Try.prog w = .ok (.enter 72 args) w := enters_of Try.func72 (by kernel_rfl) rfl
  have hcon := fun (W : World) (hb : Below w.heap.size w W) => index_page freeP 72 #[] eg sv ps W (free_pred W) ((Sl.of_own hown).below hb)
  rw [hat'] at hcon
  obtain ⟨g, c, cur, rfl, hg1, hrow, hc1, hc2, hcur, htake⟩ := own_form hown (by omega)
  have hg2 := hrow.lt
  have hne : g ≠ B := by
    have := own_ne hown hblk (by decide)
    simpa [Value.ownBlock] using this
  have c0 := hblk.cell 0
  have c1 := hblk.cell 1
  have f0 := hblk.free 0
  have f1 := hblk.free 1
  have hBlt := hblk.lt
  simp only [encP]
  clear eg
  have HAT := Lib.hid hat'
  clear hat'
  have h1 : (at_ : Int) < (ps.length : Int) := by omega
  go_enter Try.func60, Try.ntmps60
  go_wp2_with fail
  refine (hcon _ (by exact (Below.refl _ _).alloc (Nat.le_refl _) _)).mono ?_
  rintro e w1 ⟨rfl, hb⟩
  obtain ⟨hc, hf⟩ := bcell hb
  have hz := hb.size
  simp at hz
  have hbw : Below w.heap.size w w1 := ((Below.refl w.heap.size w).alloc (Nat.le_refl _) _).trans (hb.mono (by simp))
  have r0 : w1.cell? ⟨B, 1, none⟩ = some (.slice (some ⟨g, 0, none⟩) ps.length c) := (hbw.cell (p := ⟨B, 1, none⟩) hBlt).trans (by rw [c1]; rfl)
  have b0 : w1.cell? ⟨w.heap.size, 0, none⟩ = some (.int .i64 1) := by rw [hc _ _ (by simp)]; simp
  have b1 : w1.cell? ⟨w.heap.size, 1, none⟩ = some (.int .i64 x.a) := by rw [hc _ _ (by simp)]; simp
  have b2 : w1.cell? ⟨w.heap.size, 2, none⟩ = some (.int .i64 x.b) := by rw [hc _ _ (by simp)]; simp
  have b3 : w1.cell? ⟨w.heap.size, 3, none⟩ = some (.int .i64 x.c) := by rw [hc _ _ (by simp)]; simp
  have b4 : w1.cell? ⟨w.heap.size, 4, none⟩ = some (.int .i64 x.d) := by rw [hc _ _ (by simp)]; simp
  have hrow1 : Blk w1 g 54 cur := hrow.below hbw hg2
  have hblk1 := hblk.below hbw hBlt
  have hce : ∀ i, i < 5 → ∃ u, w1.cell? ⟨g, at_ * 5 + i, none⟩ = some u := fun i hi => by
    rw [hrow1.cell]
    exact ⟨cur[at_ * 5 + i]'(by rw [hcur]; omega), Array.getElem?_eq_getElem (by rw [hcur]; omega)⟩
  obtain ⟨u0, g0⟩ := hce 0 (by omega)
  obtain ⟨u1, g1⟩ := hce 1 (by omega)
  obtain ⟨u2, g2⟩ := hce 2 (by omega)
  obtain ⟨u3, g3⟩ := hce 3 (by omega)
  obtain ⟨u4, g4⟩ := hce 4 (by omega)
  simp only [Nat.add_zero] at g0
  have gf := fun o => hrow1.free o
  clear hce hc hf c0 c1 f0 f1
  have hge : (0 : Int) ≤ (at_ : Int) := by omega
  have hgH : ¬ w.heap.size = g := by omega
  have hgH' : ¬ g = w.heap.size := by omega
  go_wp2_with fail
  go_region_held3 (fun w' => w'.cell? ⟨B, 1, none⟩ = some (.slice (some ⟨g, 0, none⟩) ps.length c) ∧ w'.cell? ⟨w.heap.size, 0, none⟩ = some (.int .i64 1) ∧ w'.cell? ⟨w.heap.size, 1, none⟩ = some (.int .i64 x.a) ∧ w'.cell? ⟨w.heap.size, 2, none⟩ = some (.int .i64 x.b) ∧ w'.cell? ⟨w.heap.size, 3, none⟩ = some (.int .i64 x.c) ∧ w'.cell? ⟨w.heap.size, 4, none⟩ = some (.int .i64 x.d)) (go_keep) (fail)
  go_wp2
  go_ret2
  refine ⟨rfl, page_set { x with r := 1 } hB hg1 hne hblk1 hrow1 hc1 hc2 hcur htake hat, ?_⟩
  exact (((((((hbw.mono hb0).setCell hg1 _).setCell hg1 _).setCell hg1 _).setCell hg1 _).setCell hg1 _).drew)
end Go.Proofs.Ytoogobenjhmjjaa
