/- The walk of SerialNone. -/
import Derived.Test.YtmcbnpeihedcaaaSrAwake
import Derived.Test.YtmcbnpeihedcaaaSrOpen
namespace Go.Proofs.Ytmcbnpeihedcaaa
open Go Go.RowKit
set_option linter.unusedVariables false

theorem wsOf_none {h : List Rx} (hh : ∀ x ∈ h, x.en = 1) : wsOf h = [] := by
  unfold wsOf
  rw [List.filter_eq_nil_iff.2 (fun x hx => by unfold writesX; simp [hh x hx])]
  rfl
theorem none_law {h : List Rx} (n : Nat) (h1 : 1 ≤ n) (h8 : n ≤ 8) (hh : ∀ x ∈ h, x.en = 1 ∧ x.R = []) (ver : Int) :
    stateL (n : Int) h ver = List.replicate n 0 ∧ opaqueL (n : Int) h = true ∧ serialL (n : Int) h = true ∧ realL h = true := by
  have hw := wsOf_none (fun x hx => (hh x hx).1)
  refine ⟨?_, ?_, ?_, ?_⟩
  · unfold stateL
    rw [if_neg (by omega), hw]
    rfl
  · unfold opaqueL
    rw [Bool.not_eq_true', List.any_eq_false]
    intro x hx
    unfold badO agreeL
    rw [(hh x hx).2]
    simp
  · unfold serialL
    rw [hw]
    rfl
  · unfold realL
    rw [List.filter_eq_nil_iff.2 (fun x hx => by simp [(hh x hx).1])]
    rfl

set_option maxRecDepth 100000 in
set_option maxHeartbeats 4000000 in
theorem none_out (w : World) (n ver many : Int) (hout : ¬ (1 ≤ n ∧ n ≤ 8 ∧ 0 ≤ many ∧ many ≤ 30)) :
    Calls Try.prog 5 #[.int .i64 n, .int .i64 ver, .int .i64 many] w fun e w' => e = .returned (.bool true) ∧ Below w.heap.size w w' := by
  have HO := Lib.hid hout
  clear hout
  go_enter Try.func5, Try.ntmps5
  go_wp2_with fail
  refine (awake_any _).mono ?_
  rintro e w1 ⟨rfl, hb1⟩
  have HB1 := Lib.hid hb1
  clear hb1
  by_cases q3 : n < 1
  · go_wp2
    go_ret
    exact ⟨rfl, HB1.out⟩
  by_cases q4 : (8 : Int) < n
  · go_wp2
    go_ret
    exact ⟨rfl, HB1.out⟩
  by_cases q5 : many < 0
  · go_wp2
    go_ret
    exact ⟨rfl, HB1.out⟩
  have q6 : (30 : Int) < many := by
    have := HO.out
    omega
  go_wp2
  go_ret
  exact ⟨rfl, HB1.out⟩

/-- A try that is given up, as the law makes it. -/
def nx (i : Nat) (A : Nat) : Rx := ⟨0, 0, 0, 1, 0, i, none, 0, [], some ⟨A, 0, none⟩, 1, [⟨0, 7⟩], 0, 0⟩
/-- A slice of such tries, all of one's own. -/
def NoneI (w w1 : World) (v : Value) (h : List Rx) (wr : World) : Prop :=
  Below w.heap.size w wr ∧ w1.heap.size ≤ wr.heap.size ∧ wr.ownsRow w1.heap.size 27 10 v h.length (h.flatMap encRx) ∧ (∀ x ∈ h, RxOk wr x) ∧ (∀ x ∈ h, ∃ b, x.wA = some b ∧ ∃ cs, Blk wr b.block 34 cs) ∧ ∀ x ∈ h, x.en = 1 ∧ x.R = [] ∧ x.rA = none ∧ (Lit.int .i64 x.wv).wf = true

theorem sl_cells1 {W : World} {g k n c : Nat} {vs : List Value} (hl : vs.length = n * k) (hc : n ≤ c) (hm : c ≤ maxLen) {t : TypeId} (h : Blk W g t vs.toArray) : Sl W k (.slice (some ⟨g, 0, none⟩) n c) n vs :=
  sl_of_cells hl hc hm h.lt (fun j u hu => by rw [h.cell, List.getElem?_toArray]; exact hu)

theorem noneI_step {w w1 wr w3 : World} {v : Value} {h : List Rx} {i : Nat} (hI : NoneI w w1 v h wr) (hz : w.heap.size ≤ w1.heap.size) (hi : i ≤ 1000) {W : World} {ob : Value} {v' : Value}
    (hW : W = (wr.alloc (.cells #[.int .i64 0, .int .i64 7] 34)).alloc (.cells (encRx (nx i wr.heap.size)).toArray 27))
    (hg : W.grownBy w3 v.ownBlock) (ho : w3.ownsRow w1.heap.size 27 10 v' (h.length + 1) (h.flatMap encRx ++ encRx (nx i wr.heap.size))) : NoneI w w1 v' (h ++ [nx i wr.heap.size]) w3 := by
  obtain ⟨hB, hZ, hO, hR, hP, hE⟩ := hI
  have hA : Below wr.heap.size wr W := by rw [hW]; exact ((Below.refl _ wr).alloc (Nat.le_refl _) _).alloc (by simp) _
  have hown : W.ownsRow w1.heap.size 27 10 v h.length (h.flatMap encRx) := own_below hO hA
  have hgb : ∀ k, v.ownBlock = some k → w1.heap.size ≤ k ∧ k < wr.heap.size := fun k hk => by
    have h1 := (hO.lt k hk)
    exact ⟨h1.1, h1.2⟩
  have hne : ∀ {g : Nat} {cs : Array Value}, Blk wr g 34 cs → Blk w3 g 34 cs := by
    intro g cs hb
    refine (hb.keep hA).grown hg ?_
    intro e
    exact own_ne hown (hb.keep hA) (by decide) e.symm
  have hnp : Blk w3 wr.heap.size 34 #[.int .i64 0, .int .i64 7] := by
    have hb : Blk W wr.heap.size 34 #[.int .i64 0, .int .i64 7] := hW ▸ (Blk.new wr _ _).alloc _
    refine hb.grown hg ?_
    intro e
    exact own_ne hown hb (by decide) e.symm
  refine ⟨?_, ?_, ?_, ?_, ?_, ?_⟩
  · refine (hB.trans (hA.mono hB.size)).grown hg (Nat.le_trans hB.size hA.size) ?_
    intro k hk
    have := (hgb k hk).1
    omega
  · exact Nat.le_trans hZ (Nat.le_trans hA.size hg.size)
  · rw [List.length_append, List.flatMap_append]
    simpa using ho
  · intro x hx
    rw [List.mem_append] at hx
    rcases hx with hx | hx
    · have h1 := hR x hx
      obtain ⟨b, hb, cs, hcs⟩ := hP x hx
      have h2 := hE x hx
      refine ⟨?_, ?_⟩
      · have h3 := h1.1
        rw [h2.2.1, h2.2.2.1] at h3 ⊢
        rcases h3.2 with ⟨e, _⟩ | ⟨a, c, e, _⟩
        · rw [e]; exact Sl.nil _ _
        · cases e
      · obtain ⟨hl, h4 | ⟨a, c, e, h5, h6, h7⟩⟩ := h1.2
        · exact ⟨hl, .inl h4⟩
        · refine ⟨hl, .inr ⟨a, c, e, h5, h6, fun hn => ?_⟩⟩
          injection e with e1
          rw [hb] at e1
          injection e1 with e1
          subst e1
          obtain ⟨h8, h9⟩ := h7 hn
          refine ⟨h8, (hne hcs).lt, fun j u hu => ?_⟩
          rw [(hne hcs).cell, ← hcs.cell]
          exact h9.2 j u hu
    · simp at hx
      subst hx
      exact ⟨Sl.nil _ _, sl_cells1 rfl (Nat.le_refl _) (by simp [nx, maxLen]) hnp⟩
  · intro x hx
    rw [List.mem_append] at hx
    rcases hx with hx | hx
    · obtain ⟨b, hb, cs, hcs⟩ := hP x hx
      exact ⟨b, hb, cs, hne hcs⟩
    · simp at hx
      subst hx
      exact ⟨_, rfl, _, hnp⟩
  · intro x hx
    rw [List.mem_append] at hx
    rcases hx with hx | hx
    · exact hE x hx
    · simp at hx
      subst hx
      refine ⟨rfl, rfl, rfl, ?_⟩
      show (Lit.int .i64 (i : Int)).wf = true
      simp [Lit.wf, IntKind.min, IntKind.max, IntKind.signed, IntKind.bits]
      omega

set_option maxRecDepth 100000 in
set_option maxHeartbeats 4000000 in
theorem none_main (w : World) (n : Nat) (ver : Int) (many : Nat) (q3 : 1 ≤ n) (q4 : n ≤ 8) (q6 : many ≤ 30) :
    Calls Try.prog 5 #[.int .i64 (n : Int), .int .i64 ver, .int .i64 (many : Int)] w fun e w' => e = .returned (.bool true) ∧ Below w.heap.size w w' := by
  have q3' : ¬ (n : Int) < 1 := by omega
  have q4' : ¬ (8 : Int) < (n : Int) := by omega
  have q5' : ¬ (many : Int) < 0 := by omega
  have q6' : ¬ (30 : Int) < (many : Int) := by omega
  obtain ⟨i0, hi0, hz0, hz1, hz2⟩ := info_parts clone_rec_info
  go_enter Try.func5, Try.ntmps5
  go_wp2_with fail
  refine (awake_any _).mono ?_
  rintro e w1 ⟨rfl, hb1⟩
  have HB1 := Lib.hid hb1
  have hz := hb1.size
  clear hb1
  go_wp2_with fail
  go_loopg [8, 9] many (fun gg s8 s9 wr => ∃ (k c : Nat) (A : Option Addr) (h : List Rx), k ≤ many ∧ many - k ≤ gg ∧ s9 = .int .i64 k ∧ s8 = .slice A k c ∧ Hid (h.length = k ∧ NoneI w w1 (.slice A k c) h wr))
  case atStart => exact ⟨0, 0, none, [], by omega, by omega, by go_num, rfl, (show Hid _ from ⟨rfl, HB1.out, Nat.le_refl _, World.ownsRow_nil _ _ _ _, by simp, by simp, by simp⟩)⟩
  case round =>
    obtain ⟨k, c, A, h, hk, hg, rfl, rfl, HI⟩ := hrel
    by_cases hlt : k < many
    · have hltz : (k : Int) < (many : Int) := by omega
      obtain ⟨W, hW⟩ : ∃ W, W = (wr.alloc (.cells #[.int .i64 0, .int .i64 7] 34)).alloc (.cells (encRx (nx k wr.heap.size)).toArray 27) := ⟨_, rfl⟩
      have HW := Lib.hid hW
      have hA : Below wr.heap.size wr W := by rw [hW]; exact ((Below.refl _ wr).alloc (Nat.le_refl _) _).alloc (by simp) _
      have HOWN : Hid (W.ownsRow w1.heap.size 27 10 (.slice A k c) k (h.flatMap encRx)) := own_below (HI.out.1 ▸ HI.out.2.2.2.1) hA
      have hnb : Blk W (wr.heap.size + 1) 27 (encRx (nx k wr.heap.size)).toArray := hW ▸ Blk.new_ _ _ _ _ (by simp)
      have HNEWS := Lib.hid (show ∀ j u, (encRx (nx k wr.heap.size))[j]? = some u → W.cell? ((⟨wr.heap.size + 1, 0, none⟩ : Addr).add j) = some u from by
        intro j u hu
        rw [add_none, Nat.zero_add, hnb.cell, List.getElem?_toArray]
        exact hu)
      have HONE := Lib.hid (show ∀ u ∈ encRx (nx k wr.heap.size), u.oneCell' = true from by have := encRx_one [nx k wr.heap.size]; simpa using this)
      have hbz : w1.heap.size ≤ W.heap.size := Nat.le_trans HI.out.2.2.1 hA.size
      rw [hW] at HOWN HNEWS hbz
      clear hA hnb hW HW
      simp only [encRx, nx, List.length_cons, List.length_nil, Nat.zero_add] at HOWN HNEWS HONE hbz
      go_wp2_with (at_builtin; refine wpList_append_own_at _ rfl (.tmp 37) (.tmp 42) _ rfl w1.heap.size 27 i0 _ 10 112 Try.underlying22 hi0 hz0 hz1 hz2 rfl (by omega) (.slice A k c) k _ rfl HOWN.out ⟨wr.heap.size + 1, 0, none⟩ 1 1 _ rfl rfl HNEWS.out HONE.out (by unfold maxLen; omega) (by omega) hbz ?_; intro v1 w3 hown1 hgrow _ hat; obtain ⟨g, cap, cur, rfl, hg1, hrow, _, _, _, _⟩ := own_form hown1 (by omega); have HG := Lib.hid hgrow; have HO := Lib.hid hown1; clear hgrow hown1 hat hrow)
      go_roundg (many - (k + 1))
      case measure => omega
      case rel =>
        refine ⟨k + 1, cap, some ⟨g, 0, none⟩, h ++ [nx k wr.heap.size], by omega, by omega, by go_num, rfl, (show Hid _ from ⟨by rw [List.length_append, HI.out.1]; rfl, ?_⟩)⟩
        exact noneI_step (ob := .slice A k c) HI.out.2 hz (by omega) rfl HG.out (by rw [HI.out.1]; exact HO.out)
    · obtain rfl : many = k := by omega
      have HR := Lib.hid (show RecsV wr (.slice A many c) h from ⟨HI.out.1.symm ▸ Sl.of_own (HI.out.1 ▸ HI.out.2.2.2.1), HI.out.2.2.2.2.1⟩)
      have HBL := Lib.hid HI.out.2.1
      have hlaw := none_law n q3 q4 (fun x hx => ⟨(HI.out.2.2.2.2.2.2 x hx).1, (HI.out.2.2.2.2.2.2 x hx).2.1⟩) ver
      have hl : h.length ≤ 100000 := by rw [HI.out.1]; omega
      have HS := Lib.hid (fun W (hb : Below wr.heap.size wr W) => hlaw.1 ▸ state_any (n : Int) ver _ h W (HR.out.below hb) hl)
      have HO := Lib.hid (fun W (hb : Below wr.heap.size wr W) => hlaw.2.1 ▸ opaque_any (n : Int) _ h W (HR.out.below hb) hl)
      have HE := Lib.hid (fun W (hb : Below wr.heap.size wr W) => hlaw.2.2.1 ▸ serial_any (n : Int) _ h W (HR.out.below hb) hl (fun x hx => (HI.out.2.2.2.2.2.2 x hx).2.2.2))
      have HRE := Lib.hid (fun W (hb : Below wr.heap.size wr W) => hlaw.2.2.2 ▸ real_any _ h W (HR.out.below hb) hl)
      clear hlaw hl HI HR
      go_wp2_with fail
      refine (HS.out _ (Below.refl _ _)).mono ?_
      rintro e w2 ⟨v2, rfl, hv2, hb2⟩
      have HB2 := Lib.hid hb2
      clear hb2
      rw [List.length_replicate] at hv2
      obtain ⟨A2, c2, rfl, _, _⟩ := hv2.form
      obtain ⟨b3, o3, e3, _, he3⟩ := Sl.pos (xs := List.replicate n (0 : Int)) encI encI_len (by rw [List.length_replicate]; exact hv2) (by rw [List.length_replicate]; omega)
      subst e3
      have HX := Lib.hid (fun j (hj : j < n) => he3 w2 (Below.refl _ _) j (by rw [List.length_replicate]; exact hj) 0 (.int .i64 0) (by rw [List.getElem_replicate]; rfl))
      clear he3 hv2
      go_wp2_with fail
      go_loopg [11] n (fun gg s11 wx => ∃ j : Nat, j ≤ n ∧ n - j ≤ gg ∧ s11 = .int .i64 j ∧ w2 = wx)
      case atStart => exact ⟨0, by omega, by omega, by go_num, rfl⟩
      case round =>
        obtain ⟨j, hj, hg2, rfl, rfl⟩ := hrel
        by_cases hlt2 : j < n
        · have hltz2 : (j : Int) < (n : Int) := by omega
          have hj0 : (0 : Int) ≤ (j : Int) := by omega
          have x0 := HX.out j hlt2
          simp only [Nat.add_zero, Nat.mul_one] at x0
          go_wp2
          go_roundg (n - (j + 1))
          case measure => omega
          case rel => exact ⟨j + 1, by omega, by omega, by go_num, rfl⟩
        · obtain rfl : n = j := by omega
          go_wp2_with fail
          refine (HO.out _ HB2.out).mono ?_
          rintro e w4 ⟨rfl, hb4⟩
          have HB4 := Lib.hid (HB2.out.trans (hb4.mono HB2.out.size))
          clear hb4
          go_wp2_with fail
          refine (HE.out _ HB4.out).mono ?_
          rintro e w5 ⟨rfl, hb5⟩
          have HB5 := Lib.hid (HB4.out.trans (hb5.mono HB4.out.size))
          clear hb5
          go_wp2_with fail
          refine (HRE.out _ HB5.out).mono ?_
          rintro e w6 ⟨rfl, hb6⟩
          have HB6 := Lib.hid (HB5.out.trans (hb6.mono HB5.out.size))
          clear hb6
          go_wp2
          go_ret
          exact ⟨rfl, HBL.out.trans (HB6.out.mono HBL.out.size)⟩

theorem serialNone_walk (w : World) (n : Int) (_wn : okI n) (ver : Int) (_wv : okI ver) (many : Int) (_wi : okI many) :
    Calls Try.prog 5 #[.int .i64 n, .int .i64 ver, .int .i64 many] w fun e w' => e = .returned (.bool true) ∧ Below w.heap.size w w' := by
  by_cases hin : 1 ≤ n ∧ n ≤ 8 ∧ 0 ≤ many ∧ many ≤ 30
  · obtain ⟨n', rfl⟩ : ∃ n' : Nat, n = (n' : Int) := ⟨n.toNat, by omega⟩
    obtain ⟨i', rfl⟩ : ∃ i' : Nat, many = (i' : Int) := ⟨many.toNat, by omega⟩
    exact none_main w n' ver i' (by omega) (by omega) (by omega)
  · exact none_out w n ver many hin
end Go.Proofs.Ytmcbnpeihedcaaa
