/- (*page.store).alloc, where no page is free. -/
import Derived.Test.YtoogobenjhmjjaaPgAlloc
import Derived.Deep.RegionLaw
namespace Go.Proofs.Ytoogobenjhmjjaa
open Go Go.RowKit

set_option maxHeartbeats 1000000 in
theorem alloc_more (base : Nat) (pv : Value) (cap : Int) (ps : List Pg) (x : Pg) (w : World) (hs : OwnSt w base pv cap ps) (hb0 : base ≤ w.heap.size) (hn : ps.length ≤ 1000) (hat' : idxF freeP ps = -1) (hfull : ((ps.length : Int) == cap) = false) :
    Calls Try.prog 60 #[pv, .agg (encP x).toArray] w fun e w' => e = .returned (.tuple #[.int .i64 ps.length, .int .i64 0]) ∧ OwnSt w' base pv cap (ps ++ [{ x with r := 1 }]) ∧ Below base w w' := by
  obtain ⟨i0, hi0, hz0, hz1, hz2⟩ := info_parts clone_page_info
  obtain ⟨B, sv, rfl, hB, hblk, hown⟩ := hs
  have eg : ∀ args w, (callFunc 72 args).run Try.prog w = .ok (.enter 72 args) w := enters_of Try.func72 (by kernel_rfl) rfl
  have hcon := fun (W : World) (hb : Below w.heap.size w W) => index_page freeP 72 #[] eg sv ps W (free_pred W) ((Sl.of_own hown).below hb)
  rw [hat'] at hcon
  obtain ⟨A, c, rfl, _, _⟩ := (Sl.of_own hown).form
  have c0 := hblk.cell 0
  have c1 := hblk.cell 1
  have hBlt := hblk.lt
  simp only [encP]
  clear eg hat'
  generalize hnn : ps.length = n at *
  have HN := Lib.hid hnn
  clear hnn
  go_enter Try.func60, Try.ntmps60
  go_wp2_with fail
  refine (hcon _ (by exact (Below.refl _ _).alloc (Nat.le_refl _) _)).mono ?_
  rintro e w1 ⟨rfl, hb⟩
  clear hcon
  have hbw : Below w.heap.size w w1 := ((Below.refl w.heap.size w).alloc (Nat.le_refl _) _).trans (hb.mono (by simp))
  have hz := hb.size
  simp at hz
  have r0 : w1.cell? ⟨B, 0, none⟩ = some (.int .i64 cap) := (hbw.cell (p := ⟨B, 0, none⟩) hBlt).trans (by rw [c0]; rfl)
  have r1 : w1.cell? ⟨B, 1, none⟩ = some (.slice A n c) := (hbw.cell (p := ⟨B, 1, none⟩) hBlt).trans (by rw [c1]; rfl)
  have b : ∀ i, i < 5 → w1.cell? ⟨w.heap.size, i, none⟩ = #[.int .i64 1, .int .i64 x.a, .int .i64 x.b, .int .i64 x.c, .int .i64 x.d][i]? := fun i hi => by
    rw [hb.cell (p := ⟨w.heap.size, i, none⟩) (by simp)]
    simp
  have b0 := b 0 (by omega)
  have b1 := b 1 (by omega)
  have b2 := b 2 (by omega)
  have b3 := b 3 (by omega)
  have b4 := b 4 (by omega)
  simp at b0 b1 b2 b3 b4
  clear c0 c1 b
  have hown1 := own_below hown hbw
  have hblk1 := hblk.below hbw hBlt
  go_wp2_with fail
  go_quiet (fail)
  go_wp2_with fail
  have hneB : some B ≠ (Value.slice A n c).ownBlock := Ne.symm (own_ne hown hblk (by decide))
  have hneH : some w.heap.size ≠ (Value.slice A n c).ownBlock := fun e => by
    have := (hown.lt _ e.symm).2
    omega
  have hBH : ¬ B = w.heap.size := by omega
  obtain ⟨w2, hw2⟩ : ∃ w2, w1.drewN nq = w2 := ⟨_, rfl⟩
  have hb2 : Below w.heap.size w w2 := hw2 ▸ below_drewN hbw nq
  have hown2 : w2.ownsRow base 54 5 (.slice A n c) n (ps.flatMap encP) := hw2 ▸ own_drewN hown1 nq
  have hblk2 : Blk w2 B 90 #[.int .i64 cap, .slice A n c] := hw2 ▸ hblk1.drewN nq
  have hz2' : w.heap.size < w2.heap.size := by rw [← hw2]; exact hz
  have s1 : w2.cell? ⟨B, 1, none⟩ = some (.slice A n c) := hw2 ▸ r1
  have d0 : w2.cell? ⟨w.heap.size, 0, none⟩ = some (.int .i64 1) := hw2 ▸ b0
  have d1 : w2.cell? ⟨w.heap.size, 1, none⟩ = some (.int .i64 x.a) := hw2 ▸ b1
  have d2 : w2.cell? ⟨w.heap.size, 2, none⟩ = some (.int .i64 x.b) := hw2 ▸ b2
  have d3 : w2.cell? ⟨w.heap.size, 3, none⟩ = some (.int .i64 x.c) := hw2 ▸ b3
  have d4 : w2.cell? ⟨w.heap.size, 4, none⟩ = some (.int .i64 x.d) := hw2 ▸ b4
  rw [hw2]
  have fz2 := hblk2.free 1
  have hB2 := hblk2.lt
  clear r0 r1 b0 b1 b2 b3 b4 hw2 hown1 hblk1 hbw hb hz
  have hfA : ((w2.alloc (.cells #[.int .i64 1, .int .i64 x.a, .int .i64 x.b, .int .i64 x.c, .int .i64 x.d] 54)).drew).frozen? ⟨B, 1, none⟩ = false := (((Below.refl w2.heap.size w2).alloc (Nat.le_refl _) _).drew.frozen (p := ⟨B, 1, none⟩) hB2).trans fz2
  have hcA : ((w2.alloc (.cells #[.int .i64 1, .int .i64 x.a, .int .i64 x.b, .int .i64 x.c, .int .i64 x.d] 54)).drew).cell? ⟨B, 1, none⟩ = some (.slice A n c) := (((Below.refl w2.heap.size w2).alloc (Nat.le_refl _) _).drew.cell (p := ⟨B, 1, none⟩) hB2).trans s1
  go_region_law (first | (refine step_append_lies _ (by rfl) (.tmp 44) (.tmp 46) _ (by rfl) base 54 i0 _ 5 40 Try.underlying23 hi0 hz0 hz1 hz2 rfl (by omega) (.slice A n c) n (ps.flatMap encP) (by rfl) (by exact hown2.alloc _) ⟨w2.heap.size, 0, none⟩ 1 1 (encP { x with r := 1 }) (by rfl) (by rfl) (World.news_of_block (heap_alloc_new w2 _)) (by intro u hu; exact encP_one [{ x with r := 1 }] u (by simpa using hu)) (by omega) (by unfold maxLen; omega) (by omega) (by simp; omega) _ rfl ?_; intro g cp w3 hown3 hgrow hat hlt; have fz3 : w3.frozen? ⟨B, 1, none⟩ = false := (hgrow.frozen_far ⟨B, 1, none⟩ (by simp; omega) hneB).trans hfA; have s3 : w3.cell? ⟨B, 1, none⟩ = some (.slice A n c) := (hgrow.cell_far ⟨B, 1, none⟩ (by simp; omega) hneB).trans hcA))
  all_goals
    go_wp2
    go_ret2
    have hgB : ¬ g = B := by
      rcases hat with h | h
      · intro e; rw [e] at h; exact hneB h.symm
      · have h' : g = w2.heap.size + 1 := by simpa using h
        omega
    refine ⟨rfl, ⟨B, .slice (some ⟨g, 0, none⟩) (n + 1) cp, rfl, hB, ?_, ?_⟩, ?_⟩
    · exact (((hblk2.alloc _).drew).grown hgrow hneB).set_ 1 _
    · rw [show (ps ++ [({ x with r := 1 } : Pg)]).length = n + 1 from by simp [HN.out], List.flatMap_append]
      exact own_far (by simpa using hown3) (by simpa [Value.ownBlock] using hgB) _
    · exact Below.setCell (((((hb2.mono hb0).alloc (by omega) _).drew).grown hgrow (by simp; omega) (fun k hk => (hown.lt k hk).1))) (p := ⟨B, 1, none⟩) hB _

end Go.Proofs.Ytoogobenjhmjjaa
