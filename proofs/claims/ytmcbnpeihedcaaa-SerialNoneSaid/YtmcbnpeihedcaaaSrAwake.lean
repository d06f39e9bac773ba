/- awake of foliatelaw20. -/
import Derived.Test.YtmcbnpeihedcaaaSrFew
namespace Go.Proofs.Ytmcbnpeihedcaaa
open Go Go.RowKit
set_option linter.unusedVariables false

def ax1 (A : Nat) : Rx := ⟨0, 0, 0, 0, 0, 1, none, 0, [], some ⟨A, 0, none⟩, 1, [⟨0, 7⟩], 0, 0⟩
def ax2 (A : Nat) : Rx := ⟨0, 0, 0, 0, 1, 0, some ⟨A, 0, none⟩, 1, [⟨0, 8⟩], none, 0, [], 0, 0⟩
theorem aw1 (A B : Nat) : stateL 1 [ax1 A, ax2 B] 0 = [0] := by rfl
theorem aw2 (A B : Nat) : stateL 1 [ax1 A, ax2 B] 1 = [7] := by rfl
theorem aw3 (A B : Nat) : serialL 1 [ax1 A, ax2 B] = true := by rfl
theorem aw4 (A B : Nat) : opaqueL 1 [ax1 A, ax2 B] = false := by rfl
theorem aw5 (A : Nat) : opaqueL 1 [ax1 A] = true := by rfl
theorem aw6 (A : Nat) : realL [ax1 A] = true := by rfl

theorem sl_of_cells {W : World} {g k n c : Nat} {vs : List Value} (hl : vs.length = n * k) (hc : n ≤ c) (hm : c ≤ maxLen) (hg : g < W.heap.size) (h : ∀ j u, vs[j]? = some u → W.cell? ⟨g, j, none⟩ = some u) : Sl W k (.slice (some ⟨g, 0, none⟩) n c) n vs :=
  ⟨hl, .inr ⟨_, c, rfl, hc, hm, fun _ => ⟨rfl, hg, fun j u hu => by rw [Nat.zero_add]; exact h j u hu⟩⟩⟩

set_option maxRecDepth 100000 in
set_option maxHeartbeats 4000000 in
theorem awake_any (w : World) : Calls Try.prog 8 #[] w fun e w' => e = .returned (.bool true) ∧ Below w.heap.size w w' := by
  obtain ⟨w1, hw1⟩ : ∃ x, ((w.alloc (.cells #[.int .i64 0, .int .i64 7] 34)).alloc (.cells #[.int .i64 0, .int .i64 8] 34)).alloc (.cells (encRx (ax1 w.heap.size) ++ encRx (ax2 (w.heap.size + 1))).toArray 27) = x := ⟨_, rfl⟩
  have HB := Lib.hid (show Below w.heap.size w w1 from hw1 ▸ (((Below.refl _ w).alloc (Nat.le_refl _) _).alloc (by simp) _).alloc (by simp; omega) _)
  have k1 : Blk w1 w.heap.size 34 #[.int .i64 0, .int .i64 7] := hw1 ▸ ((Blk.new_ w _ _ _ rfl).alloc _).alloc _
  have k2 : Blk w1 (w.heap.size + 1) 34 #[.int .i64 0, .int .i64 8] := hw1 ▸ (Blk.new_ _ _ _ _ (by simp)).alloc _
  have k3 : Blk w1 (w.heap.size + 1 + 1) 27 (encRx (ax1 w.heap.size) ++ encRx (ax2 (w.heap.size + 1))).toArray := hw1 ▸ Blk.new_ _ _ _ _ (by simp)
  have ok1 : RxOk w1 (ax1 w.heap.size) := ⟨Sl.nil _ _, sl_of_cells rfl (Nat.le_refl _) (by simp [ax1, maxLen]) k1.lt (fun j u hu => by rw [k1.cell]; simpa [ax1, encPr] using hu)⟩
  have ok2 : RxOk w1 (ax2 (w.heap.size + 1)) := ⟨sl_of_cells rfl (Nat.le_refl _) (by simp [ax2, maxLen]) k2.lt (fun j u hu => by rw [k2.cell]; simpa [ax2, encPr] using hu), Sl.nil _ _⟩
  have hv2 : RecsV w1 (.slice (some ⟨w.heap.size + 1 + 1, 0, none⟩) 2 2) [ax1 w.heap.size, ax2 (w.heap.size + 1)] :=
    ⟨sl_of_cells rfl (Nat.le_refl _) (by simp [maxLen]) k3.lt (fun j u hu => by rw [k3.cell, List.getElem?_toArray]; simpa using hu), fun x hx => by simp at hx; rcases hx with rfl | rfl; exact ok1; exact ok2⟩
  have hv1 : RecsV w1 (.slice (some ⟨w.heap.size + 1 + 1, 0, none⟩) 1 2) [ax1 w.heap.size] :=
    ⟨sl_of_cells rfl (by simp) (by simp [maxLen]) k3.lt (fun j u hu => by
      rw [k3.cell, List.getElem?_toArray]
      have hj := (List.getElem?_eq_some_iff.1 hu).1
      rw [List.getElem?_append_left (by simpa using hj)]; simpa using hu), fun x hx => by simp at hx; rcases hx with rfl; exact ok1⟩
  have HS := Lib.hid (fun ver W (hb : Below w1.heap.size w1 W) => state_any 1 ver _ _ W (hv2.below hb) (by simp))
  have HE := Lib.hid (fun W (hb : Below w1.heap.size w1 W) => aw3 w.heap.size (w.heap.size + 1) ▸ serial_any 1 _ _ W (hv2.below hb) (by simp) (by simp [ax1, ax2]; decide))
  have HO2 := Lib.hid (fun W (hb : Below w1.heap.size w1 W) => aw4 w.heap.size (w.heap.size + 1) ▸ opaque_any 1 _ _ W (hv2.below hb) (by simp))
  have HO1 := Lib.hid (fun W (hb : Below w1.heap.size w1 W) => aw5 w.heap.size ▸ opaque_any 1 _ _ W (hv1.below hb) (by simp))
  have HR := Lib.hid (fun W (hb : Below w1.heap.size w1 W) => aw6 w.heap.size ▸ real_any _ _ W (hv1.below hb) (by simp))
  clear hv1 hv2 ok1 ok2 k1 k2 k3
  simp only [encRx, ax1, ax2, List.length_cons, List.length_nil, List.cons_append, List.nil_append, Nat.zero_add] at hw1
  go_enter Try.func8, Try.ntmps8
  go_upto_region 2 with fail
  clear hw1
  go_wp2_with fail
  refine (HS.out 0 _ (Below.refl _ _)).mono ?_
  rintro e w2 ⟨v2, rfl, hv2, hb2⟩
  rw [aw1] at hv2
  have HB2 := Lib.hid hb2
  go_wp2_with fail
  refine (HS.out 1 _ HB2.out).mono ?_
  rintro e w3 ⟨v3, rfl, hv3, hb3⟩
  rw [aw2] at hv3
  replace hv2 := hv2.below hb3
  have HB3 := Lib.hid (HB2.out.trans (hb3.mono HB2.out.size))
  clear HB2 hb2 hb3
  obtain ⟨A2, c2, rfl, _, _⟩ := hv2.form
  obtain ⟨A3, c3, rfl, _, _⟩ := hv3.form
  obtain ⟨b2, o2, rfl, -, he2⟩ := Sl.pos (xs := [(0 : Int)]) encI encI_len hv2 (by simp)
  obtain ⟨b3, o3, rfl, -, he3⟩ := Sl.pos (xs := [(7 : Int)]) encI encI_len hv3 (by simp)
  have x2 := he2 w3 (Below.refl _ _) 0 (by simp) 0 _ rfl
  have x3 := he3 w3 (Below.refl _ _) 0 (by simp) 0 _ rfl
  simp at x2 x3
  clear he2 he3 hv2 hv3
  simp only [List.length_cons, List.length_nil, Nat.zero_add]
  go_wp2_with fail
  refine (HE.out _ HB3.out).mono ?_
  rintro e w4 ⟨rfl, hb4⟩
  have HB4 := Lib.hid (HB3.out.trans (hb4.mono HB3.out.size))
  clear HB3 hb4 x2 x3
  go_wp2_with fail
  refine (HO2.out _ HB4.out).mono ?_
  rintro e w5 ⟨rfl, hb5⟩
  have HB5 := Lib.hid (HB4.out.trans (hb5.mono HB4.out.size))
  clear HB4 hb5
  go_wp2_with fail
  refine (HO1.out _ HB5.out).mono ?_
  rintro e w6 ⟨rfl, hb6⟩
  have HB6 := Lib.hid (HB5.out.trans (hb6.mono HB5.out.size))
  clear HB5 hb6
  go_wp2_with fail
  refine (HR.out _ HB6.out).mono ?_
  rintro e w7 ⟨rfl, hb7⟩
  have HB7 := Lib.hid (HB6.out.trans (hb7.mono HB6.out.size))
  clear HB6 hb7
  go_wp2
  go_ret
  exact ⟨rfl, HB.out.trans (HB7.out.mono HB.out.size)⟩
end Go.Proofs.Ytmcbnpeihedcaaa
