/- Several texts in one: TrFork, TrDrop. -/
import Derived.Test.YtoogobenjhmjjaaTrC
namespace Go.Proofs.Ytoogobenjhmjjaa
open Go Go.RowKit
set_option linter.unusedVariables false
attribute [local go_sem ↓] Go.wp_at_zero Go.wp_at_succ

theorem Sl.far {w : World} {k n : Nat} {v : Value} {vs : List Value} (h : Sl w k v n vs) {p : Addr} (hp : 0 < n → v.ownBlock ≠ some p.block) (u : Value) : Sl (w.setCell p u) k v n vs := by
  obtain ⟨hl, h | ⟨a, c, rfl, hc, hm, hr⟩⟩ := h
  · exact ⟨hl, .inl h⟩
  · refine ⟨hl, .inr ⟨a, c, rfl, hc, hm, fun hn => ?_⟩⟩
    obtain ⟨h1, h2, h3⟩ := hr hn
    refine ⟨h1, by simpa using h2, fun j u' hu => ?_⟩
    rw [World.cell?_setCell_far _ _ _ _ (fun e => hp hn (by simp [Value.ownBlock, e]))]
    exact h3 j u' hu

/-- A slice that reads as cells, and lies in no block from lo on below hi. -/
def SlX (w : World) (lo hi k : Nat) (v : Value) (n : Nat) (vs : List Value) : Prop := Sl w k v n vs ∧ (0 < n → ∀ g, v.ownBlock = some g → g < lo ∨ hi ≤ g)
theorem SlX.below {w w' : World} {lo hi k n : Nat} {v : Value} {vs : List Value} (h : SlX w lo hi k v n vs) (hb : Below w.heap.size w w') : SlX w' lo hi k v n vs := ⟨h.1.below hb, h.2⟩
theorem SlX.far {w : World} {lo hi k n : Nat} {v : Value} {vs : List Value} (h : SlX w lo hi k v n vs) {p : Addr} (h1 : lo ≤ p.block) (h2 : p.block < hi) (u : Value) : SlX (w.setCell p u) lo hi k v n vs :=
  ⟨h.1.far (fun hn e => by have := h.2 hn _ e; omega) u, h.2⟩
theorem SlX.alloc {w : World} {lo hi k n : Nat} {v : Value} {vs : List Value} (h : SlX w lo hi k v n vs) (o : Obj) : SlX (w.alloc o) lo hi k v n vs := h.below ((Below.refl _ _).alloc (Nat.le_refl _) o)
theorem SlX.of {w : World} {hi k n : Nat} {v : Value} {vs : List Value} (h : Sl w k v n vs) : SlX w w.heap.size hi k v n vs := by
  refine ⟨h, fun hn g hg => .inl ?_⟩
  obtain ⟨hl, ⟨rfl, h0⟩ | ⟨a, c, rfl, hc, hm, hr⟩⟩ := h
  · omega
  · have := (hr hn).2.1
    simp [Value.ownBlock] at hg
    omega
theorem SlX.own {w : World} {lo base hi k n : Nat} {e : TypeId} {v : Value} {vs : List Value} (h : w.ownsRow base e k v n vs) (hb : hi ≤ base) : SlX w lo hi k v n vs := by
  refine ⟨Sl.of_own h, fun hn g hg => .inr ?_⟩
  have := (own_block_ge h hg).1
  omega
theorem SlX.hi {w : World} {lo hi hi' k n : Nat} {v : Value} {vs : List Value} (h : SlX w lo hi k v n vs) (hh : hi' ≤ hi) : SlX w lo hi' k v n vs := ⟨h.1, fun hn g hg => by have := h.2 hn g hg; omega⟩

theorem tbs_app {w w' : World} {tvs : List Value} {ts : List (List Int)} {v : Value} {t : List Int} (h : TbS w tvs ts) (hb : Below w.heap.size w w') (hv : Sl w' 1 v t.length (t.flatMap encI)) : TbS w' (tvs ++ [v]) (ts ++ [t]) := by
  refine ⟨by simp [h.1], fun i x y h1 h2 => ?_⟩
  by_cases e : i < ts.length
  · rw [List.getElem?_append_left (by rw [h.1]; exact e)] at h1
    rw [List.getElem?_append_left e] at h2
    exact (h.2 i x y h1 h2).below hb
  · rw [List.getElem?_append_right (by rw [h.1]; omega)] at h1
    rw [List.getElem?_append_right (by omega)] at h2
    have h3 := (List.getElem?_eq_some_iff.1 h2).1
    simp at h3
    have : i - ts.length = 0 := by omega
    rw [h.1, this] at h1
    rw [this] at h2
    cases h1; cases h2
    exact hv
def RefH3 (cap : Int) (r : Int × Int × List Pg × List (List Int)) (w : World) (e : Ending) (w' : World) : Prop :=
  ∃ v', e = .returned (.tuple #[v', .int .i64 r.1, .int .i64 r.2.1]) ∧ HpV w' v' cap r.2.2.1 r.2.2.2 ∧ Below w.heap.size w w'

/-- How the world stands as pages are gone through: the heap's box, the result's, the store's. -/
def ForkIShare (w w1 wr : World) (b o n d : Nat) (A : Option Addr) (ps : List Pg) (c : Nat) (cap : Int) (tb : List Int) (j : Nat) : Prop :=
  Below w.heap.size w wr ∧ Blk wr w.heap.size 28 #[.int .i64 cap, .slice A ps.length c, .slice (some ⟨b, o, none⟩) n d] ∧ Blk wr (w.heap.size + 1) 28 #[.int .i64 0, .slice none 0 0, .slice none 0 0] ∧
    ∃ A9 c9, Blk wr w1.heap.size 25 #[.int .i64 cap, .slice A9 ps.length c9] ∧ SlX wr w.heap.size (w1.heap.size + 1) 5 (.slice A9 ps.length c9) ps.length ((each_shareL cap ps (pgsK tb j)).flatMap encP)

/-- How the world stands as pages are gone through: the heap's box, the result's, the store's. -/
def ForkIFree (w w1 wr : World) (b o n d : Nat) (A : Option Addr) (ps : List Pg) (c : Nat) (cap : Int) (tb : List Int) (j : Nat) : Prop :=
  Below w.heap.size w wr ∧ Blk wr w.heap.size 28 #[.int .i64 cap, .slice A ps.length c, .slice (some ⟨b, o, none⟩) n d] ∧ Blk wr (w.heap.size + 1) 28 #[.int .i64 0, .slice none 0 0, .slice none 0 0] ∧
    ∃ A9 c9, Blk wr w1.heap.size 25 #[.int .i64 cap, .slice A9 ps.length c9] ∧ SlX wr w.heap.size (w1.heap.size + 1) 5 (.slice A9 ps.length c9) ps.length ((each_freeL cap ps (pgsK tb j)).flatMap encP)

set_option maxRecDepth 100000 in
set_option maxHeartbeats 16000000 in
theorem rFork_any (x : Value) (cap : Int) (ps : List Pg) (ts : List (List Int)) (t : Int) (w : World) (hv : HpV w x cap ps ts) (hn : ps.length ≤ 990) (hm : ts.length ≤ 1000) (hl : ∀ t ∈ ts, t.length ≤ 1000) :
    Calls Try.prog 20 #[x, .int .i64 t] w (RefH3 cap (forkH cap ps ts t) w) := by
  obtain ⟨i0, hi0, iz0, iz1, iz2⟩ := info_parts clone_tabs_info
  obtain ⟨i1, hi1, iy0, iy1, iy2⟩ := info_parts clone_ints_info
  obtain ⟨A, c, B, d, rfl, hv⟩ := hv.form
  have cW := fun u W h => rwhy_any u cap ps ts t 0 W h (by omega) hl
  by_cases h0 : whyH cap ps ts t 0 = 0
  case neg =>
    rw [show forkH cap ps ts t = (-1, whyH cap ps ts t 0, ps, ts) from by unfold forkH; rw [if_neg h0]]
    generalize whyH cap ps ts t 0 = er at *
    have h0' : (er != 0) = true := by rw [bne_iff_ne]; exact h0
    clear h0 hl
    go_enter Try.func20, Try.ntmps20
    go_wp2_with fail
    refine (cW _ _ (hv.keep (by repeat (first | assumption | exact Below.refl _ _ | refine Below.alloc ?_ (by first | omega | (simp; done) | (simp; omega)) _ | refine Below.setCell ?_ (by first | omega | (simp; done) | (simp; omega)) _ | refine Below.drew ?_)))).mono ?_
    rintro e w1 ⟨rfl, hb1⟩
    have hz1 := hb1.size
    try simp at hz1
    have hY1 : Below w.heap.size w w1 := Below.trans (by repeat (first | assumption | exact Below.refl _ _ | refine Below.alloc ?_ (by first | omega | (simp; done) | (simp; omega)) _ | refine Below.setCell ?_ (by first | omega | (simp; done) | (simp; omega)) _ | refine Below.drew ?_)) (hb1.mono (by first | omega | (simp; done) | (simp; omega)))
    obtain ⟨hc1, hf1⟩ := bcell hb1
    have z1_0 : w.heap.size < w1.heap.size := by omega
    have z1_1 : w.heap.size + 1 < w1.heap.size := by omega
    have HB1 := Lib.hid hb1
    clear hb1
    go_wp2
    refine bodyPost_ret (v := .tuple #[.agg #[.int .i64 cap, .slice A ps.length c, .slice B ts.length d], .int .i64 (-1), .int .i64 er]) (by simp [results, Try.results20, go_sem, *]) rfl ⟨_, rfl, hv.keep (by repeat (first | assumption | exact Below.refl _ _ | refine Below.alloc ?_ (by first | omega | (simp; done) | (simp; omega)) _ | refine Below.setCell ?_ (by first | omega | (simp; done) | (simp; omega)) _ | refine Below.drew ?_)), (by repeat (first | assumption | exact Below.refl _ _ | refine Below.alloc ?_ (by first | omega | (simp; done) | (simp; omega)) _ | refine Below.setCell ?_ (by first | omega | (simp; done) | (simp; omega)) _ | refine Below.drew ?_))⟩
  case pos =>
    obtain ⟨hmy, k, rfl, hk, htab, hne, ha0, ha1⟩ := why_ok h0
    have hM := mayH_iff.1 hmy
    have h4 := hM.four hk hne
    obtain ⟨b, o, rfl, hb, hel⟩ := hv.tabs.elem (by omega)
    obtain ⟨Ak, ck, e0, hsl⟩ := hel k hk
    obtain ⟨b2, o2, rfl, hb2, hel2⟩ := ints_elem hsl (by omega)
    obtain ⟨tvs, hT, hTS⟩ := hv.tabs
    have hTC : ∀ (W : World), Below w.heap.size w W → ∀ j u, tvs[j]? = some u → W.cell? ((⟨b, o, none⟩ : Addr).add j) = some u := by
      intro W hW
      refine news_of_cells fun j u hu => (hW.cell (p := ⟨b, o + j, none⟩) hb).trans ?_
      rcases hT.2 with ⟨he, _⟩ | ⟨a, c', he, _, _, hr⟩
      · cases he
      · injection he with h1 _ _
        injection h1 with h1
        subst h1
        exact ((hr (by omega)).2).2 j u hu
    have hone : ∀ u ∈ tvs, u.oneCell' = true := fun u hu => by
      obtain ⟨j, hj, rfl⟩ := List.getElem_of_mem hu
      obtain ⟨A3, c3, e3, _, _⟩ := (hTS.2 j _ _ (List.getElem?_eq_getElem hj) (List.getElem?_eq_getElem (by have := hTS.1; omega))).form
      rw [e3]; rfl
    have hTl : tvs.length = ts.length * 1 := by have := hTS.1; omega
    have hpl := fun j (hj : j < ts[k].length) => hM.place hk hj
    have hst := fun j (hj : j < ts[k].length) q (e : ts[k][j] = ((q : Nat) : Int)) => hM.share_step hk hj e
    rw [h4] at e0
    by_cases h5 : ts.length = 5
    case pos =>
      rw [show forkH cap ps ts (k : Int) = (-1, 8, ps, ts) from by unfold forkH forkS; rw [if_pos h0, if_pos h5]]
      rw [h0] at cW
      have h5' : ((ts.length : Int) == 5) = true := by rw [h5]; rfl
      clear hel hel2 hsl hmy htab hne h0 hM hl hT hTS hpl hst hTC hone hTl h5
      go_enter Try.func20, Try.ntmps20
      go_wp2_with fail
      refine (cW _ _ (hv.keep (by repeat (first | assumption | exact Below.refl _ _ | refine Below.alloc ?_ (by first | omega | (simp; done) | (simp; omega)) _ | refine Below.setCell ?_ (by first | omega | (simp; done) | (simp; omega)) _ | refine Below.drew ?_)))).mono ?_
      rintro e w1 ⟨rfl, hb1⟩
      have hz1 := hb1.size
      try simp at hz1
      have hY1 : Below w.heap.size w w1 := Below.trans (by repeat (first | assumption | exact Below.refl _ _ | refine Below.alloc ?_ (by first | omega | (simp; done) | (simp; omega)) _ | refine Below.setCell ?_ (by first | omega | (simp; done) | (simp; omega)) _ | refine Below.drew ?_)) (hb1.mono (by first | omega | (simp; done) | (simp; omega)))
      obtain ⟨hc1, hf1⟩ := bcell hb1
      have z1_0 : w.heap.size < w1.heap.size := by omega
      have z1_1 : w.heap.size + 1 < w1.heap.size := by omega
      have HB1 := Lib.hid hb1
      clear hb1
      have x1_0 := (hY1.cell (p := ⟨b, o + k, none⟩) hb).trans e0
      have y1_0 : b < w1.heap.size := by omega
      go_wp2
      refine bodyPost_ret (v := .tuple #[.agg #[.int .i64 cap, .slice A ps.length c, .slice (some ⟨b, o, none⟩) ts.length d], .int .i64 (-1), .int .i64 8]) (by simp [results, Try.results20, go_sem, *]) rfl ⟨_, rfl, hv.keep (by repeat (first | assumption | exact Below.refl _ _ | refine Below.alloc ?_ (by first | omega | (simp; done) | (simp; omega)) _ | refine Below.setCell ?_ (by first | omega | (simp; done) | (simp; omega)) _ | refine Below.drew ?_)), (by repeat (first | assumption | exact Below.refl _ _ | refine Below.alloc ?_ (by first | omega | (simp; done) | (simp; omega)) _ | refine Below.setCell ?_ (by first | omega | (simp; done) | (simp; omega)) _ | refine Below.drew ?_))⟩
    case neg =>
    have HF := Lib.hid (show forkH cap ps ts (k : Int) = ((ts.length : Int), 0, each_shareL cap ps (pgs ts[k]), ts ++ [ts[k]]) from by
      unfold forkH forkS
      rw [if_pos h0, Int.toNat_natCast, if_neg h5, List.getD_eq_getElem?_getD, List.getElem?_eq_getElem hk]; rfl)
    have h5' : ((ts.length : Int) == 5) = false := by rw [beq_eq_false_iff_ne]; omega
    clear h5
    obtain ⟨n, hn2⟩ : ∃ n, n = ts.length := ⟨_, rfl⟩
    have HPL := Lib.hid hpl
    have HSTP := Lib.hid hst
    have HTC := Lib.hid hTC
    have HTS := Lib.hid hTS
    have HONE := Lib.hid hone
    have HV := Lib.hid hv
    have H4 := Lib.hid h4
    have HE2 := Lib.hid hel2
    have hk0 : (0 : Int) ≤ (k : Int) := by omega
    have hk1 : (k : Int) < (n : Int) := by omega
    have cS := fun (j : Nat) (p : Int) u W (h : StV W u cap (each_shareL cap ps (pgsK (ts[k]'hk) j))) => RShare_any u cap p _ W h (by rw [each_shareL_len]; omega)
    have CS := Lib.hid cS
    have hkn : k < n := by omega
    rw [h0] at cW
    have hvk := fun W h => hv.keep (w' := W) h
    rw [← hn2] at hm hTl hvk ⊢
    try rw [← hn2] at h5'
    have CW := Lib.hid (fun W h => cW _ W (hvk W h))
    have HN := Lib.hid hn2
    have HTL := Lib.hid hTl
    have hbig : (n : Int) ≤ 1000 := by omega
    clear hel hel2 hsl hmy htab hne h0 hM hl hT hTS hpl hst hTC hone hTl h4 cS cW hv hvk hn2
    go_enter Try.func20, Try.ntmps20
    go_wp2_with fail
    refine (CW.out _ (by repeat (first | assumption | exact Below.refl _ _ | refine Below.alloc ?_ (by first | omega | (simp; done) | (simp; omega)) _ | refine Below.setCell ?_ (by first | omega | (simp; done) | (simp; omega)) _ | refine Below.drew ?_))).mono ?_
    rintro e w1 ⟨rfl, hb1⟩
    have hz1 := hb1.size
    try simp at hz1
    have hY1 : Below w.heap.size w w1 := Below.trans (by repeat (first | assumption | exact Below.refl _ _ | refine Below.alloc ?_ (by first | omega | (simp; done) | (simp; omega)) _ | refine Below.setCell ?_ (by first | omega | (simp; done) | (simp; omega)) _ | refine Below.drew ?_)) (hb1.mono (by first | omega | (simp; done) | (simp; omega)))
    obtain ⟨hc1, hf1⟩ := bcell hb1
    have z1_0 : w.heap.size < w1.heap.size := by omega
    have z1_1 : w.heap.size + 1 < w1.heap.size := by omega
    have HB1 := Lib.hid hb1
    clear hb1
    have x1_0 := (hY1.cell (p := ⟨b, o + k, none⟩) hb).trans e0
    have y1_0 : b < w1.heap.size := by omega
    go_wp2_with fail
    clear h5'
    go_loopg [9] 4 (fun gg s9 wr => ∃ j : Nat, j ≤ 4 ∧ 4 - j ≤ gg ∧ s9 = .int .i64 j ∧ Hid (ForkIShare w w1 wr b o n d A ps c cap ts[k] j))
    case atStart =>
      refine ⟨0, Nat.zero_le _, by omega, rfl, ?_⟩
      refine ⟨(by repeat (first | assumption | exact Below.refl _ _ | refine Below.alloc ?_ (by first | omega | (simp; done) | (simp; omega)) _ | refine Below.setCell ?_ (by first | omega | (simp; done) | (simp; omega)) _ | refine Below.drew ?_)), (((Blk.new_ w 28 _ _ rfl).alloc _).keep HB1.out).alloc _, ((Blk.new_ _ _ _ _ (by simp)).keep HB1.out).alloc _, A, c, Blk.new_ _ _ _ _ rfl, ?_⟩
      have hs0 := HV.out.store.sl
      exact ((SlX.of (hi := w1.heap.size + 1) hs0).below hY1).alloc _
    case round =>
      obtain ⟨j, hj, hg, rfl, HI⟩ := hrel
      obtain ⟨hX, kA, kR, A9, c9, kS, hSX⟩ := HI.out
      have HSX := Lib.hid hSX
      have HKA := Lib.hid kA
      have HKR := Lib.hid kR
      have HKS := Lib.hid kS
      have a0 : wr.cell? ⟨w.heap.size, 0, none⟩ = some (.int .i64 cap) := by rw [kA.cell]; rfl
      have a1 : wr.cell? ⟨w.heap.size, 1, none⟩ = some (.slice A ps.length c) := by rw [kA.cell]; rfl
      have a2 : wr.cell? ⟨w.heap.size, 2, none⟩ = some (.slice (some ⟨b, o, none⟩) n d) := by rw [kA.cell]; rfl
      have s0 : wr.cell? ⟨w1.heap.size, 0, none⟩ = some (.int .i64 cap) := by rw [kS.cell]; rfl
      have s1 : wr.cell? ⟨w1.heap.size, 1, none⟩ = some (.slice A9 ps.length c9) := by rw [kS.cell]; rfl
      have sf := kS.free
      have af := kA.free
      have rf := kR.free
      have ls := kS.lt
      have la := kA.lt
      have lr := kR.lt
      have r0 := kR.cell
      have f0 := (hX.cell (p := ⟨b, o + k, none⟩) hb).trans e0
      have lb : b < wr.heap.size := Nat.lt_of_lt_of_le hb hX.size
      have lb2 : b2 < wr.heap.size := Nat.lt_of_lt_of_le hb2 hX.size
      have HX := Lib.hid hX
      clear hX kA kR kS hSX HI x1_0 y1_0 e0
      by_cases hlt : j < 4
      · have hjk : j < ts[k].length := by have := H4.out; omega
        have f1 := (HX.out.cell (p := ⟨b2, o2 + j, none⟩) hb2).trans (HE2.out j hjk)
        have hj0 : (0 : Int) ≤ (j : Int) := by omega
        have hj1 : (j : Int) < 4 := by omega
        have hP := HPL.out j hjk
        have hQ := fun q e => HSTP.out j hjk q e
        have hN0 := fun e : ts[k][j] = -1 => pgsK_none hjk e
        obtain ⟨y, hy⟩ : ∃ y, y = ts[k][j] := ⟨_, rfl⟩
        rw [← hy] at f1
        have HQ := Lib.hid hQ
        have HN0 := Lib.hid hN0
        have HY := Lib.hid hy
        have HP := Lib.hid hP
        clear hQ hN0 hy hP
        by_cases hy0 : 0 ≤ y
        · obtain ⟨q, rfl⟩ := Int.eq_ofNat_of_zero_le hy0
          have HSH := Lib.hid (HQ.out q HY.out.symm)
          have hC := fun u W h => CS.out j (q : Int) u W h
          rw [HSH.out] at hC
          have HC := Lib.hid hC
          have HSF := Lib.hid (fun (W : World) (h : Below wr.heap.size wr W) => (show W.cell? ⟨w1.heap.size, 0, none⟩ = some (.int .i64 cap) ∧ W.cell? ⟨w1.heap.size, 1, none⟩ = some (.slice A9 ps.length c9) ∧ W.cell? ⟨w.heap.size, 2, none⟩ = some (.slice (some ⟨b, o, none⟩) n d) ∧ W.cell? ⟨b, o + k, none⟩ = some (.slice (some ⟨b2, o2, none⟩) 4 ck) ∧ W.cell? ⟨b2, o2 + j, none⟩ = some (.int .i64 (q : Int)) from ⟨(h.cell (p := ⟨w1.heap.size, 0, none⟩) ls).trans s0, (h.cell (p := ⟨w1.heap.size, 1, none⟩) ls).trans s1, (h.cell (p := ⟨w.heap.size, 2, none⟩) la).trans a2, (h.cell (p := ⟨b, o + k, none⟩) lb).trans f0, (h.cell (p := ⟨b2, o2 + j, none⟩) lb2).trans f1⟩))
          clear hC a0 a1 rf af r0
          go_upto_region 11 with fail
          go_cut [10] (fun s10 wx => ∃ g A3 c3, s10 = .pointer (some ⟨g, 0, none⟩) ∧ wr.heap.size ≤ g ∧ Hid (Below wr.heap.size wr wx) ∧ Hid (Blk wx g 25 #[.int .i64 cap, .slice A3 ps.length c3]) ∧ Hid (SlX wx w.heap.size (w1.heap.size + 1) 5 (.slice A3 ps.length c3) ps.length ((each_shareL cap ps (pgsK ts[k] (j + 1))).flatMap encP)))
          case first =>
            clear s0 s1 a2 f0 f1
            refine wp_region_held_drew (S := fun w' => w'.cell? ⟨w1.heap.size, 0, none⟩ = some (.int .i64 cap) ∧ w'.cell? ⟨w1.heap.size, 1, none⟩ = some (.slice A9 ps.length c9) ∧ w'.cell? ⟨w.heap.size, 2, none⟩ = some (.slice (some ⟨b, o, none⟩) n d) ∧ w'.cell? ⟨b, o + k, none⟩ = some (.slice (some ⟨b2, o2, none⟩) 4 ck) ∧ w'.cell? ⟨b2, o2 + j, none⟩ = some (.int .i64 (q : Int))) (by kernel_rfl) ?_ (fun hHeldbr => ?_)
            · exact HSF.out _ (Below.refl _ _).drew
            refine wpAnyH_take (i := 0) (oi := { dst := some 46, op := Op.load 25 (Operand.tmp 8), type := 25, pos := "ref.go:141", after := _, guard := none }) (v := ?vbr0b1) rfl (by kernel_rfl) (by kernel_rfl) (by kernel_rfl) (fun _ _ _ h => h) (Or.inl ⟨by rfl, ?hybr0b1⟩) (by assumption) ?restbr0b1
            case hybr0b1 => (intro w hSw; (try dsimp only at hSw); go_simp <;> with_reducible rfl)
            try simp only [Act.put, List.setIfInBounds_toArray, List.set_cons_zero, List.set_cons_succ]
            refine wpAnyH_take (i := 1) (oi := { dst := some 47, op := Op.fieldAddr 28 (Operand.tmp 2) 1, type := 0, pos := "ref.go:141", after := _, guard := none }) (v := ?vbr1b2) rfl (by kernel_rfl) (by kernel_rfl) (by kernel_rfl) (fun _ _ _ h => h) (Or.inl ⟨by rfl, ?hybr1b2⟩) (by assumption) ?restbr1b2
            case hybr1b2 => (intro w hSw; (try dsimp only at hSw); go_simp <;> with_reducible rfl)
            try simp only [Act.put, List.setIfInBounds_toArray, List.set_cons_zero, List.set_cons_succ]
            refine wpAnyH_take (i := 2) (oi := { dst := some 48, op := Op.load 26 (Operand.tmp 47), type := 26, pos := "ref.go:141", after := _, guard := none }) (v := ?vbr2b3) rfl (by kernel_rfl) (by kernel_rfl) (by kernel_rfl) (fun _ _ _ h => h) (Or.inl ⟨by rfl, ?hybr2b3⟩) (by assumption) ?restbr2b3
            case hybr2b3 => (intro w hSw; (try dsimp only at hSw); go_simp <;> with_reducible rfl)
            try simp only [Act.put, List.setIfInBounds_toArray, List.set_cons_zero, List.set_cons_succ]
            refine wpAnyH_take (i := 3) (oi := { dst := some 49, op := Op.move (Operand.tmp 1), type := 3, pos := "ref.go:141", after := _, guard := none }) (v := ?vbr3b4) rfl (by kernel_rfl) (by kernel_rfl) (by kernel_rfl) (fun _ _ _ h => h) (Or.inl ⟨by rfl, ?hybr3b4⟩) (by assumption) ?restbr3b4
            case hybr3b4 => (intro w hSw; (try dsimp only at hSw); go_simp <;> with_reducible rfl)
            try simp only [Act.put, List.setIfInBounds_toArray, List.set_cons_zero, List.set_cons_succ]
            refine wpAnyH_take (i := 4) (oi := { dst := some 50, op := Op.indexAddr 26 (Operand.tmp 48) (Operand.tmp 49), type := 0, pos := "ref.go:141", after := _, guard := none }) (v := ?vbr4b5) rfl (by kernel_rfl) (by kernel_rfl) (by kernel_rfl) (fun _ _ _ h => h) (Or.inl ⟨by rfl, ?hybr4b5⟩) (by assumption) ?restbr4b5
            case hybr4b5 => (intro w hSw; (try dsimp only at hSw); go_simp <;> with_reducible rfl)
            try simp only [Act.put, List.setIfInBounds_toArray, List.set_cons_zero, List.set_cons_succ]
            refine wpAnyH_take (i := 5) (oi := { dst := some 51, op := Op.load 47 (Operand.tmp 50), type := 47, pos := "ref.go:141", after := _, guard := none }) (v := ?vbr5b6) rfl (by kernel_rfl) (by kernel_rfl) (by kernel_rfl) (fun _ _ _ h => h) (Or.inl ⟨by rfl, ?hybr5b6⟩) (by assumption) ?restbr5b6
            case hybr5b6 => (intro w hSw; (try dsimp only at hSw); go_simp <;> with_reducible rfl)
            try simp only [Act.put, List.setIfInBounds_toArray, List.set_cons_zero, List.set_cons_succ]
            refine wpAnyH_take (i := 6) (oi := { dst := some 52, op := Op.move (Operand.tmp 9), type := 3, pos := "ref.go:141", after := _, guard := none }) (v := ?vbr6b7) rfl (by kernel_rfl) (by kernel_rfl) (by kernel_rfl) (fun _ _ _ h => h) (Or.inl ⟨by rfl, ?hybr6b7⟩) (by assumption) ?restbr6b7
            case hybr6b7 => (intro w hSw; (try dsimp only at hSw); go_simp <;> with_reducible rfl)
            try simp only [Act.put, List.setIfInBounds_toArray, List.set_cons_zero, List.set_cons_succ]
            refine wpAnyH_take (i := 7) (oi := { dst := some 53, op := Op.indexAddr 47 (Operand.tmp 51) (Operand.tmp 52), type := 0, pos := "ref.go:141", after := _, guard := none }) (v := ?vbr7b8) rfl (by kernel_rfl) (by kernel_rfl) (by kernel_rfl) (fun _ _ _ h => h) (Or.inl ⟨by rfl, ?hybr7b8⟩) (by assumption) ?restbr7b8
            case hybr7b8 => (intro w hSw; (try dsimp only at hSw); go_simp <;> with_reducible rfl)
            try simp only [Act.put, List.setIfInBounds_toArray, List.set_cons_zero, List.set_cons_succ]
            refine wpAnyH_take (i := 8) (oi := { dst := some 54, op := Op.load 3 (Operand.tmp 53), type := 3, pos := "ref.go:141", after := _, guard := none }) (v := ?vbr8b9) rfl (by kernel_rfl) (by kernel_rfl) (by kernel_rfl) (fun _ _ _ h => h) (Or.inl ⟨by rfl, ?hybr8b9⟩) (by assumption) ?restbr8b9
            case hybr8b9 => (intro w hSw; (try dsimp only at hSw); go_simp <;> with_reducible rfl)
            try simp only [Act.put, List.setIfInBounds_toArray, List.set_cons_zero, List.set_cons_succ]
            refine wpAnyH_ready (rs := [9, 13]) (by kernel_rfl) (by simp) ?_
            refine AllReadyH.cons (o := { dst := some 55, op := Op.call { callee := Callee.value (Operand.func 45), args := #[Operand.tmp 46, Operand.tmp 54], argTypes := #[25, 3] }, type := 76, pos := "ref.go:141", after := _, guard := none }) rfl (fun K hK => ?_) ?_
            · go_simp
              refine (HC.out _ _ ⟨_, rfl, by rw [each_shareL_len]; exact (HSX.out.below (by repeat (first | assumption | exact Below.refl _ _ | refine Below.drew ?_ | refine Below.alloc ?_ (by first | omega | (simp; done) | (simp; omega)) _ | refine Below.setCell ?_ (by first | omega | (simp; done) | (simp; omega)) _))).1⟩).mono ?_
              rintro x w3 ⟨v3, rfl, ⟨-, hso⟩, hb3⟩
              obtain ⟨p3, rfl, hsn⟩ := hso rfl
              clear hso
              simp only [each_shareL_len] at hsn
              obtain ⟨A3, c3, rfl, _, _⟩ := (Sl.of_own hsn).form
              have BX : Below wr.heap.size wr w3 := Below.trans (by repeat (first | assumption | exact Below.refl _ _ | refine Below.drew ?_ | refine Below.alloc ?_ (by first | omega | (simp; done) | (simp; omega)) _ | refine Below.setCell ?_ (by first | omega | (simp; done) | (simp; omega)) _)) (hb3.mono (by first | (simp; done) | (simp; omega)))
              have hzz := BX.size
              obtain ⟨hc3, hf3⟩ := bcell hb3
              have hz3 := hb3.size
              simp at hz3
              have HSO := Lib.hid hsn
              have HB3 := Lib.hid hb3
              clear hb3 hsn
              try go_wp2_with fail
              refine hK.out _ _ ?_ (fun hHeldbr9b10 => ?_)
              · exact HSF.out _ BX
              clear hK K hHeldbr
              try simp only [Act.put, List.setIfInBounds_toArray, List.set_cons_zero, List.set_cons_succ]
              refine wpAnyH_take (i := 10) (oi := { dst := some 45, op := Op.move (Operand.tmp 55), type := 76, pos := "ref.go:141", after := _, guard := none }) (v := ?vbr10b11) rfl (by kernel_rfl) (by kernel_rfl) (by kernel_rfl) (fun _ _ _ h => h) (Or.inl ⟨by rfl, ?hybr10b11⟩) (by assumption) ?restbr10b11
              case hybr10b11 => (intro w hSw; (try dsimp only at hSw); go_simp <;> with_reducible rfl)
              try simp only [Act.put, List.setIfInBounds_toArray, List.set_cons_zero, List.set_cons_succ]
              refine wpAnyH_take (i := 11) (oi := { dst := some 56, op := Op.extract (Operand.tmp 45) 0, type := 25, pos := "ref.go:141", after := _, guard := none }) (v := ?vbr11b12) rfl (by kernel_rfl) (by kernel_rfl) (by kernel_rfl) (fun _ _ _ h => h) (Or.inl ⟨by rfl, ?hybr11b12⟩) (by assumption) ?restbr11b12
              case hybr11b12 => (intro w hSw; (try dsimp only at hSw); go_simp <;> with_reducible rfl)
              try simp only [Act.put, List.setIfInBounds_toArray, List.set_cons_zero, List.set_cons_succ]
              refine wpAnyH_take (i := 12) (oi := { dst := some 57, op := Op.extract (Operand.tmp 45) 1, type := 31, pos := "ref.go:141", after := _, guard := none }) (v := ?vbr12b13) rfl (by kernel_rfl) (by kernel_rfl) (by kernel_rfl) (fun _ _ _ h => h) (Or.inl ⟨by rfl, ?hybr12b13⟩) (by assumption) ?restbr12b13
              case hybr12b13 => (intro w hSw; (try dsimp only at hSw); go_simp <;> with_reducible rfl)
              try simp only [Act.put, List.setIfInBounds_toArray, List.set_cons_zero, List.set_cons_succ]
              refine wpAnyH_ready (rs := [13]) (by kernel_rfl) (by simp) ?_
              refine AllReadyH.cons (o := { dst := some 10, op := Op.alloc 25, type := 0, pos := "ref.go:141", after := _, guard := none }) rfl (fun K hK => ?_) AllReadyH.nil
              go_simp
              skip
              refine hK.out _ _ ?_ (fun hHeldbr13b14 => ?_)
              · exact HSF.out _ (by repeat (first | assumption | exact Below.refl _ _ | refine Below.drew ?_ | refine Below.alloc ?_ (by first | omega | (simp; done) | (simp; omega)) _ | refine Below.setCell ?_ (by first | omega | (simp; done) | (simp; omega)) _))
              clear hK K hHeldbr9b10
              try simp only [Act.put, List.setIfInBounds_toArray, List.set_cons_zero, List.set_cons_succ]
              refine wpAnyH_ready (rs := [14]) (by kernel_rfl) (by simp) ?_
              refine AllReadyH.cons (o := { dst := none, op := Op.store 25 (Operand.tmp 10) (Operand.tmp 56), type := 0, pos := "ref.go:141", after := _, guard := none }) rfl (fun K hK => ?_) AllReadyH.nil
              go_simp
              skip
              refine hK.out _ _ ?_ (fun hHeldbr14b15 => ?_)
              · exact HSF.out _ (by repeat (first | assumption | exact Below.refl _ _ | refine Below.drew ?_ | refine Below.alloc ?_ (by first | omega | (simp; done) | (simp; omega)) _ | refine Below.setCell ?_ (by first | omega | (simp; done) | (simp; omega)) _))
              clear hK K hHeldbr13b14
              try simp only [Act.put, List.setIfInBounds_toArray, List.set_cons_zero, List.set_cons_succ]
              refine wpAnyH_take (i := 15) (oi := { dst := some 11, op := Op.assign (Operand.tmp 57), type := 31, pos := "ref.go:141", after := _, guard := none }) (v := ?vbr15b16) rfl (by kernel_rfl) (by kernel_rfl) (by kernel_rfl) (fun _ _ _ h => h) (Or.inl ⟨by rfl, ?hybr15b16⟩) (by assumption) ?restbr15b16
              case hybr15b16 => (intro w hSw; (try dsimp only at hSw); go_simp <;> with_reducible rfl)
              try simp only [Act.put, List.setIfInBounds_toArray, List.set_cons_zero, List.set_cons_succ]
              refine wpAnyH_done (by kernel_rfl) ?_ _
              go_wp2_with fail
              go_meet
              first | exact ⟨_, A3, c3, rfl, by omega, (show Hid _ from (by repeat (first | assumption | exact Below.refl _ _ | refine Below.drew ?_ | refine Below.alloc ?_ (by first | omega | (simp; done) | (simp; omega)) _ | refine Below.setCell ?_ (by first | omega | (simp; done) | (simp; omega)) _))), (show Hid _ from Blk.new_ _ _ _ _ rfl), (show Hid _ from (SlX.own (lo := w.heap.size) HSO.out (by simp; omega)).alloc _)⟩ | exact ⟨_, A3, c3, rfl, by omega, (show Hid _ from (by repeat (first | assumption | exact Below.refl _ _ | refine Below.drew ?_ | refine Below.alloc ?_ (by first | omega | (simp; done) | (simp; omega)) _ | refine Below.setCell ?_ (by first | omega | (simp; done) | (simp; omega)) _))), (show Hid _ from (((Blk.new_ wr.drew 25 _ _ rfl).keep HB3.out).set_ 0 _).set_ 1 _), (show Hid _ from SlX.own (lo := w.heap.size) (hi := w1.heap.size + 1) (ownsRow_setCell_below (ownsRow_setCell_below HSO.out (by simp) _) (by simp) _) (by simp; omega))⟩
            refine AllReadyH.cons (o := { dst := some 10, op := Op.alloc 25, type := 0, pos := "ref.go:141", after := _, guard := none }) rfl (fun K hK => ?_) ?_
            · go_simp
              skip
              refine hK.out _ _ ?_ (fun hHeldbr13b17 => ?_)
              · exact HSF.out _ (by repeat (first | assumption | exact Below.refl _ _ | refine Below.drew ?_ | refine Below.alloc ?_ (by first | omega | (simp; done) | (simp; omega)) _ | refine Below.setCell ?_ (by first | omega | (simp; done) | (simp; omega)) _))
              clear hK K hHeldbr
              try simp only [Act.put, List.setIfInBounds_toArray, List.set_cons_zero, List.set_cons_succ]
              refine wpAnyH_ready (rs := [9]) (by kernel_rfl) (by simp) ?_
              refine AllReadyH.cons (o := { dst := some 55, op := Op.call { callee := Callee.value (Operand.func 45), args := #[Operand.tmp 46, Operand.tmp 54], argTypes := #[25, 3] }, type := 76, pos := "ref.go:141", after := _, guard := none }) rfl (fun K hK => ?_) AllReadyH.nil
              go_simp
              refine (HC.out _ _ ⟨_, rfl, by rw [each_shareL_len]; exact (HSX.out.below (by repeat (first | assumption | exact Below.refl _ _ | refine Below.drew ?_ | refine Below.alloc ?_ (by first | omega | (simp; done) | (simp; omega)) _ | refine Below.setCell ?_ (by first | omega | (simp; done) | (simp; omega)) _))).1⟩).mono ?_
              rintro x w3 ⟨v3, rfl, ⟨-, hso⟩, hb3⟩
              obtain ⟨p3, rfl, hsn⟩ := hso rfl
              clear hso
              simp only [each_shareL_len] at hsn
              obtain ⟨A3, c3, rfl, _, _⟩ := (Sl.of_own hsn).form
              have BX : Below wr.heap.size wr w3 := Below.trans (by repeat (first | assumption | exact Below.refl _ _ | refine Below.drew ?_ | refine Below.alloc ?_ (by first | omega | (simp; done) | (simp; omega)) _ | refine Below.setCell ?_ (by first | omega | (simp; done) | (simp; omega)) _)) (hb3.mono (by first | (simp; done) | (simp; omega)))
              have hzz := BX.size
              obtain ⟨hc3, hf3⟩ := bcell hb3
              have hz3 := hb3.size
              simp at hz3
              have HSO := Lib.hid hsn
              have HB3 := Lib.hid hb3
              clear hb3 hsn
              try go_wp2_with fail
              refine hK.out _ _ ?_ (fun hHeldbr9b18 => ?_)
              · exact HSF.out _ BX
              clear hK K hHeldbr13b17
              try simp only [Act.put, List.setIfInBounds_toArray, List.set_cons_zero, List.set_cons_succ]
              refine wpAnyH_take (i := 10) (oi := { dst := some 45, op := Op.move (Operand.tmp 55), type := 76, pos := "ref.go:141", after := _, guard := none }) (v := ?vbr10b19) rfl (by kernel_rfl) (by kernel_rfl) (by kernel_rfl) (fun _ _ _ h => h) (Or.inl ⟨by rfl, ?hybr10b19⟩) (by assumption) ?restbr10b19
              case hybr10b19 => (intro w hSw; (try dsimp only at hSw); go_simp <;> with_reducible rfl)
              try simp only [Act.put, List.setIfInBounds_toArray, List.set_cons_zero, List.set_cons_succ]
              refine wpAnyH_take (i := 11) (oi := { dst := some 56, op := Op.extract (Operand.tmp 45) 0, type := 25, pos := "ref.go:141", after := _, guard := none }) (v := ?vbr11b20) rfl (by kernel_rfl) (by kernel_rfl) (by kernel_rfl) (fun _ _ _ h => h) (Or.inl ⟨by rfl, ?hybr11b20⟩) (by assumption) ?restbr11b20
              case hybr11b20 => (intro w hSw; (try dsimp only at hSw); go_simp <;> with_reducible rfl)
              try simp only [Act.put, List.setIfInBounds_toArray, List.set_cons_zero, List.set_cons_succ]
              refine wpAnyH_take (i := 12) (oi := { dst := some 57, op := Op.extract (Operand.tmp 45) 1, type := 31, pos := "ref.go:141", after := _, guard := none }) (v := ?vbr12b21) rfl (by kernel_rfl) (by kernel_rfl) (by kernel_rfl) (fun _ _ _ h => h) (Or.inl ⟨by rfl, ?hybr12b21⟩) (by assumption) ?restbr12b21
              case hybr12b21 => (intro w hSw; (try dsimp only at hSw); go_simp <;> with_reducible rfl)
              try simp only [Act.put, List.setIfInBounds_toArray, List.set_cons_zero, List.set_cons_succ]
              refine wpAnyH_ready (rs := [14]) (by kernel_rfl) (by simp) ?_
              refine AllReadyH.cons (o := { dst := none, op := Op.store 25 (Operand.tmp 10) (Operand.tmp 56), type := 0, pos := "ref.go:141", after := _, guard := none }) rfl (fun K hK => ?_) AllReadyH.nil
              go_simp
              skip
              refine hK.out _ _ ?_ (fun hHeldbr14b22 => ?_)
              · exact HSF.out _ (by repeat (first | assumption | exact Below.refl _ _ | refine Below.drew ?_ | refine Below.alloc ?_ (by first | omega | (simp; done) | (simp; omega)) _ | refine Below.setCell ?_ (by first | omega | (simp; done) | (simp; omega)) _))
              clear hK K hHeldbr9b18
              try simp only [Act.put, List.setIfInBounds_toArray, List.set_cons_zero, List.set_cons_succ]
              refine wpAnyH_take (i := 15) (oi := { dst := some 11, op := Op.assign (Operand.tmp 57), type := 31, pos := "ref.go:141", after := _, guard := none }) (v := ?vbr15b23) rfl (by kernel_rfl) (by kernel_rfl) (by kernel_rfl) (fun _ _ _ h => h) (Or.inl ⟨by rfl, ?hybr15b23⟩) (by assumption) ?restbr15b23
              case hybr15b23 => (intro w hSw; (try dsimp only at hSw); go_simp <;> with_reducible rfl)
              try simp only [Act.put, List.setIfInBounds_toArray, List.set_cons_zero, List.set_cons_succ]
              refine wpAnyH_done (by kernel_rfl) ?_ _
              go_wp2_with fail
              go_meet
              first | exact ⟨_, A3, c3, rfl, by omega, (show Hid _ from (by repeat (first | assumption | exact Below.refl _ _ | refine Below.drew ?_ | refine Below.alloc ?_ (by first | omega | (simp; done) | (simp; omega)) _ | refine Below.setCell ?_ (by first | omega | (simp; done) | (simp; omega)) _))), (show Hid _ from Blk.new_ _ _ _ _ rfl), (show Hid _ from (SlX.own (lo := w.heap.size) HSO.out (by simp; omega)).alloc _)⟩ | exact ⟨_, A3, c3, rfl, by omega, (show Hid _ from (by repeat (first | assumption | exact Below.refl _ _ | refine Below.drew ?_ | refine Below.alloc ?_ (by first | omega | (simp; done) | (simp; omega)) _ | refine Below.setCell ?_ (by first | omega | (simp; done) | (simp; omega)) _))), (show Hid _ from (((Blk.new_ wr.drew 25 _ _ rfl).keep HB3.out).set_ 0 _).set_ 1 _), (show Hid _ from SlX.own (lo := w.heap.size) (hi := w1.heap.size + 1) (ownsRow_setCell_below (ownsRow_setCell_below HSO.out (by simp) _) (by simp) _) (by simp; omega))⟩
            exact AllReadyH.nil
          case rest =>
            obtain ⟨g, A3, c3, rfl, hgl, HBX, HKG, HSX3⟩ := hcut
            have kG := HKG.out
            have g0 : wc.cell? ⟨g, 0, none⟩ = some (.int .i64 cap) := by rw [kG.cell]; rfl
            have g1 : wc.cell? ⟨g, 1, none⟩ = some (.slice A3 ps.length c3) := by rw [kG.cell]; rfl
            have t0 := (HBX.out.cell (p := ⟨w1.heap.size, 0, none⟩) ls).trans s0
            have t1 := (HBX.out.cell (p := ⟨w1.heap.size, 1, none⟩) ls).trans s1
            have tf := fun i => (HBX.out.frozen (p := ⟨w1.heap.size, i, none⟩) ls).trans (sf i)
            have l3 : w1.heap.size < wc.heap.size := Nat.lt_of_lt_of_le ls HBX.out.size
            have l4 : ¬ g = w1.heap.size := by omega
            have hzz := HBX.out.size
            clear kG s0 s1 a2 f0 f1 sf HSF
            go_wp2
            go_roundg (4 - (j + 1))
            case measure => omega
            case rel =>
              refine ⟨j + 1, by omega, by omega, by go_num, (show Hid _ from ?_)⟩
              have hS := ((HKS.out.keep HBX.out).set_ 0 (.int .i64 cap)).set_ 1 (.slice A3 ps.length c3)
              refine ⟨?_, ((HKA.out.keep HBX.out).far (p := ⟨w1.heap.size, 0, none⟩) (by simp; omega) _).far (p := ⟨w1.heap.size, 1, none⟩) (by simp; omega) _, ((HKR.out.keep HBX.out).far (p := ⟨w1.heap.size, 0, none⟩) (by simp; omega) _).far (p := ⟨w1.heap.size, 1, none⟩) (by simp; omega) _, A3, c3, hS, ?_⟩
              · exact ((HX.out.trans (HBX.out.mono HX.out.size)).setCell (p := ⟨w1.heap.size, 0, none⟩) (by simp; omega) _).setCell (p := ⟨w1.heap.size, 1, none⟩) (by simp; omega) _
              · exact (HSX3.out.far (p := ⟨w1.heap.size, 0, none⟩) (by simp; omega) (by simp) _).far (p := ⟨w1.heap.size, 1, none⟩) (by simp; omega) (by simp) _
        · obtain rfl : y = -1 := by
            have h1 := HY.out
            rcases HP.out with h | ⟨q, h, _⟩
            · rw [← h1] at h; exact h
            · rw [← h1] at h; omega
          clear a0 a1 rf af r0
          go_wp2
          go_roundg (4 - (j + 1))
          case measure => omega
          case rel => exact ⟨j + 1, by omega, by omega, by go_num, (show Hid _ from ⟨HX.out, HKA.out, HKR.out, A9, c9, HKS.out, by rw [HN0.out HY.out.symm]; exact HSX.out⟩)⟩
      · obtain rfl : j = 4 := by omega
        have HALL := Lib.hid (show pgsK ts[k] 4 = pgs ts[k] from by have := pgsK_all ts[k]; rw [H4.out] at this; exact this)
        have tl4 : ((ts[k]).flatMap encI).length = 4 * 1 := by rw [flat_len encI encI_len, H4.out]
        have TL4 := Lib.hid tl4
        have hT4 : ∀ (W : World), Below w.heap.size w W → ∀ j u, (ts[k].flatMap encI)[j]? = some u → W.cell? ((⟨b2, o2, none⟩ : Addr).add j) = some u := by
          intro W hW
          refine news_of_cells fun j u hu => ?_
          have hj : j < ts[k].length := by have := (List.getElem?_eq_some_iff.1 hu).1; rw [tl4] at this; have := H4.out; omega
          rw [hW.cell (p := ⟨b2, o2 + j, none⟩) hb2, HE2.out j hj, ← hu, encI_get _ _ hj]
        have HT4 := Lib.hid hT4
        have HONE4 := Lib.hid (encI_one ts[k])
        clear tl4 hT4 a0 a1 s0 s1 sf rf r0
        go_upto_region 13 with fail
        go_cut [59] (fun s59 wx => ∃ g gc gt ct, Hid (Below w.heap.size w wx) ∧ Hid (Blk wx w.heap.size 28 #[.int .i64 cap, .slice A ps.length c, .slice (some ⟨g, 0, none⟩) (n + 1) gc]) ∧ Hid (Blk wx (w.heap.size + 1) 28 #[.int .i64 0, .slice none 0 0, .slice none 0 0]) ∧ Hid (Blk wx w1.heap.size 25 #[.int .i64 cap, .slice A9 ps.length c9]) ∧ Hid (SlX wx w.heap.size (w1.heap.size + 1) 5 (.slice A9 ps.length c9) ps.length ((each_shareL cap ps (pgsK ts[k] 4)).flatMap encP)) ∧ Hid (wx.ownsRow wr.heap.size 47 1 (.slice (some ⟨g, 0, none⟩) (n + 1) gc) (n + 1) (tvs ++ [.slice (some ⟨gt, 0, none⟩) 4 ct])) ∧ Hid (wx.ownsRow wr.heap.size 3 1 (.slice (some ⟨gt, 0, none⟩) 4 ct) 4 (ts[k].flatMap encI)))
        case first =>
          have hxr := HX.out
          refine wp_region_held_drew (S := fun _ => True) (by kernel_rfl) ?_ (fun hHeldcr => ?_)
          · trivial
          refine wpAnyH_take (i := 0) (oi := { dst := some 59, op := Op.fieldAddr 28 (Operand.tmp 2) 1, type := 0, pos := "ref.go:145", after := _, guard := none }) (v := ?vcr0b1) rfl (by kernel_rfl) (by kernel_rfl) (by kernel_rfl) (fun _ _ _ h => h) (Or.inl ⟨by rfl, ?hycr0b1⟩) (by assumption) ?restcr0b1
          case hycr0b1 => (intro w hSw; (try dsimp only at hSw); go_simp <;> with_reducible rfl)
          try simp only [Act.put, List.setIfInBounds_toArray, List.set_cons_zero, List.set_cons_succ]
          refine wpAnyH_take (i := 3) (oi := { dst := some 62, op := Op.fieldAddr 28 (Operand.tmp 2) 1, type := 0, pos := "ref.go:145", after := _, guard := none }) (v := ?vcr3b2) rfl (by kernel_rfl) (by kernel_rfl) (by kernel_rfl) (fun _ _ _ h => h) (Or.inl ⟨by rfl, ?hycr3b2⟩) (by assumption) ?restcr3b2
          case hycr3b2 => (intro w hSw; (try dsimp only at hSw); go_simp <;> with_reducible rfl)
          try simp only [Act.put, List.setIfInBounds_toArray, List.set_cons_zero, List.set_cons_succ]
          refine wpAnyH_take (i := 5) (oi := { dst := some 64, op := Op.move (Operand.tmp 1), type := 3, pos := "ref.go:145", after := _, guard := none }) (v := ?vcr5b3) rfl (by kernel_rfl) (by kernel_rfl) (by kernel_rfl) (fun _ _ _ h => h) (Or.inl ⟨by rfl, ?hycr5b3⟩) (by assumption) ?restcr5b3
          case hycr5b3 => (intro w hSw; (try dsimp only at hSw); go_simp <;> with_reducible rfl)
          try simp only [Act.put, List.setIfInBounds_toArray, List.set_cons_zero, List.set_cons_succ]
          refine wpAnyH_ready (rs := [1, 4]) (by kernel_rfl) (by simp) ?_
          refine AllReadyH.cons (o := { dst := some 60, op := Op.load 26 (Operand.tmp 59), type := 26, pos := "ref.go:145", after := _, guard := none }) rfl (fun K hK => ?_) ?_
          · go_simp
            skip
            refine hK.out _ _ ?_ (fun hHeldcr1b4 => ?_)
            · trivial
            clear hK K hHeldcr
            try simp only [Act.put, List.setIfInBounds_toArray, List.set_cons_zero, List.set_cons_succ]
            refine wpAnyH_ready (rs := [2, 4]) (by kernel_rfl) (by simp) ?_
            refine AllReadyH.cons (o := { dst := some 61, op := Op.call { callee := Callee.builtin Builtin.append, args := #[Operand.const (Value.slice none 0 0), Operand.tmp 60], argTypes := #[26, 26] }, type := 26, pos := "ref.go:145", after := _, guard := none }) rfl (fun K hK => ?_) ?_
            · refine step_append_lies _ rfl (.const (.slice none 0 0)) (.tmp 60) _ rfl wr.heap.size 47 i0 _ 1 24 Try.underlying26 hi0 iz0 iz1 iz2 rfl (by omega) (.slice none 0 0) 0 [] rfl (World.ownsRow_nil _ _ _ _) ⟨b, o, none⟩ n d tvs rfl HTL.out (HTC.out _ (by repeat (first | assumption | exact Below.refl _ _ | refine Below.drew ?_ | refine Below.alloc ?_ (by first | omega | (simp; done) | (simp; omega)) _ | refine Below.setCell ?_ (by first | omega | (simp; done) | (simp; omega)) _))) HONE.out (by omega) (by unfold maxLen; omega) (by omega) (by first | omega | (simp; done) | (simp; omega)) _ rfl ?_
              intro g gc w4 hT hgT _ gl4
              simp only [Nat.zero_add, List.nil_append] at hT ⊢
              have BX4 : Below wr.heap.size wr w4 := Below.grown (by repeat (first | assumption | exact Below.refl _ _ | refine Below.drew ?_ | refine Below.alloc ?_ (by first | omega | (simp; done) | (simp; omega)) _ | refine Below.setCell ?_ (by first | omega | (simp; done) | (simp; omega)) _)) hgT (by first | omega | (simp; done) | (simp; omega)) (by simp [Value.ownBlock])
              have BY4 : Below w.heap.size w w4 := hxr.trans (BX4.mono hxr.size)
              obtain ⟨hc4, hf4⟩ := bcell BX4
              have hzz4 := BX4.size
              have HT := Lib.hid hT
              have HBT := Lib.hid (show Below _ _ w4 from (Below.refl _ _).grown hgT (Nat.le_refl _) (by simp [Value.ownBlock]))
              clear hT hgT
              refine hK.out _ _ ?_ (fun hHeldcr2b5 => ?_)
              · trivial
              clear hK K hHeldcr1b4
              try simp only [Act.put, List.setIfInBounds_toArray, List.set_cons_zero, List.set_cons_succ]
              refine wpAnyH_ready (rs := [4]) (by kernel_rfl) (by simp) ?_
              refine AllReadyH.cons (o := { dst := some 63, op := Op.load 26 (Operand.tmp 62), type := 26, pos := "ref.go:145", after := _, guard := none }) rfl (fun K hK => ?_) AllReadyH.nil
              go_simp
              skip
              refine hK.out _ _ ?_ (fun hHeldcr4b6 => ?_)
              · trivial
              clear hK K hHeldcr2b5
              try simp only [Act.put, List.setIfInBounds_toArray, List.set_cons_zero, List.set_cons_succ]
              refine wpAnyH_take (i := 6) (oi := { dst := some 65, op := Op.indexAddr 26 (Operand.tmp 63) (Operand.tmp 64), type := 0, pos := "ref.go:145", after := _, guard := none }) (v := ?vcr6b7) rfl (by kernel_rfl) (by kernel_rfl) (by kernel_rfl) (fun _ _ _ h => h) (Or.inl ⟨by rfl, ?hycr6b7⟩) (by assumption) ?restcr6b7
              case hycr6b7 => (intro w hSw; (try dsimp only at hSw); go_simp <;> with_reducible rfl)
              try simp only [Act.put, List.setIfInBounds_toArray, List.set_cons_zero, List.set_cons_succ]
              refine wpAnyH_ready (rs := [7]) (by kernel_rfl) (by simp) ?_
              refine AllReadyH.cons (o := { dst := some 66, op := Op.load 47 (Operand.tmp 65), type := 47, pos := "ref.go:145", after := _, guard := none }) rfl (fun K hK => ?_) AllReadyH.nil
              go_simp
              skip
              refine hK.out _ _ ?_ (fun hHeldcr7b8 => ?_)
              · trivial
              clear hK K hHeldcr4b6
              try simp only [Act.put, List.setIfInBounds_toArray, List.set_cons_zero, List.set_cons_succ]
              refine wpAnyH_ready (rs := [8]) (by kernel_rfl) (by simp) ?_
              refine AllReadyH.cons (o := { dst := some 67, op := Op.call { callee := Callee.builtin Builtin.append, args := #[Operand.const (Value.slice none 0 0), Operand.tmp 66], argTypes := #[47, 47] }, type := 47, pos := "ref.go:145", after := _, guard := none }) rfl (fun K hK => ?_) AllReadyH.nil
              refine step_append_lies _ rfl (.const (.slice none 0 0)) (.tmp 66) _ rfl wr.heap.size 3 i1 _ 1 8 Try.underlying47 hi1 iy0 iy1 iy2 rfl (by omega) (.slice none 0 0) 0 [] rfl (World.ownsRow_nil _ _ _ _) ⟨b2, o2, none⟩ 4 ck (ts[k].flatMap encI) rfl TL4.out (HT4.out _ (by repeat (first | assumption | exact Below.refl _ _ | refine Below.drew ?_ | refine Below.alloc ?_ (by first | omega | (simp; done) | (simp; omega)) _ | refine Below.setCell ?_ (by first | omega | (simp; done) | (simp; omega)) _))) HONE4.out (by omega) (by unfold maxLen; omega) (by omega) (by first | omega | (simp; done) | (simp; omega)) _ rfl ?_
              intro gt ct w5 ht hgt _ gl5
              simp only [Nat.zero_add, List.nil_append] at ht ⊢
              have BX5 : Below wr.heap.size wr w5 := Below.grown (by repeat (first | assumption | exact Below.refl _ _ | refine Below.drew ?_ | refine Below.alloc ?_ (by first | omega | (simp; done) | (simp; omega)) _ | refine Below.setCell ?_ (by first | omega | (simp; done) | (simp; omega)) _)) hgt (by first | omega | (simp; done) | (simp; omega)) (by simp [Value.ownBlock])
              have BY5 : Below w.heap.size w w5 := hxr.trans (BX5.mono hxr.size)
              obtain ⟨hc5, hf5⟩ := bcell BX5
              have hzz5 := BX5.size
              have Ht := Lib.hid ht
              have HBt := Lib.hid (show Below _ _ w5 from (Below.refl _ _).grown hgt (Nat.le_refl _) (by simp [Value.ownBlock]))
              clear ht hgt
              refine hK.out _ _ ?_ (fun hHeldcr8b9 => ?_)
              · trivial
              clear hK K hHeldcr7b8
              try simp only [Act.put, List.setIfInBounds_toArray, List.set_cons_zero, List.set_cons_succ]
              refine wpAnyH_ready (rs := [9]) (by kernel_rfl) (by simp) ?_
              refine AllReadyH.cons (o := { dst := some 68, op := Op.buildSlice 26 1 #[(0, Operand.tmp 67)], type := 26, pos := "ref.go:145", after := _, guard := none }) rfl (fun K hK => ?_) AllReadyH.nil
              go_simp
              skip
              refine hK.out _ _ ?_ (fun hHeldcr9b10 => ?_)
              · trivial
              clear hK K hHeldcr8b9
              try simp only [Act.put, List.setIfInBounds_toArray, List.set_cons_zero, List.set_cons_succ]
              refine wpAnyH_ready (rs := [10]) (by kernel_rfl) (by simp) ?_
              refine AllReadyH.cons (o := { dst := some 69, op := Op.call { callee := Callee.builtin Builtin.append, args := #[Operand.tmp 61, Operand.tmp 68], argTypes := #[26, 26] }, type := 26, pos := "ref.go:145", after := _, guard := none }) rfl (fun K hK => ?_) AllReadyH.nil
              refine step_append_lies _ rfl (.tmp 61) (.tmp 68) _ rfl wr.heap.size 47 i0 _ 1 24 Try.underlying26 hi0 iz0 iz1 iz2 rfl (by omega) (.slice (some ⟨g, 0, none⟩) n gc) n tvs rfl (World.ownsRow.alloc (by first | exact own_below HT.out HBt.out | exact HT.out) _) ⟨_, 0, none⟩ 1 1 [.slice (some ⟨gt, 0, none⟩) 4 ct] rfl rfl (by intro j u hu; match j, hu with | 0, hu => (simp at hu; subst hu; simp [Addr.add])) (by simp [Value.oneCell']) (by omega) (by unfold maxLen; omega) (by omega) (by first | omega | (simp; done) | (simp; omega)) _ rfl ?_
              intro g' gc' w6 hO hgO _ gl6
              have hgg : wr.heap.size ≤ g := (own_block_ge HT.out rfl).1
              have BX6 : Below wr.heap.size wr w6 := Below.grown (by repeat (first | assumption | exact Below.refl _ _ | refine Below.drew ?_ | refine Below.alloc ?_ (by first | omega | (simp; done) | (simp; omega)) _ | refine Below.setCell ?_ (by first | omega | (simp; done) | (simp; omega)) _)) hgO (by first | omega | (simp; done) | (simp; omega)) (by intro q hq; simp [Value.ownBlock] at hq; omega)
              have Ht6 := Lib.hid (World.ownsRow.kept (World.ownsRow.alloc (by first | exact own_below Ht.out HBT.out | exact Ht.out) (.cells #[.slice (some ⟨gt, 0, none⟩) 4 ct] 47)) hgO (by first | exact own_kept_ne Ht.out (own_below HT.out HBt.out) (by decide) | exact own_kept_ne (own_below Ht.out HBT.out) HT.out (by decide)) : w6.ownsRow wr.heap.size 3 1 (.slice (some ⟨gt, 0, none⟩) 4 ct) 4 (ts[k].flatMap encI))
              obtain ⟨hc6, hf6⟩ := bcell BX6
              have hzz6 := BX6.size
              have HO := Lib.hid hO
              clear hO hgO
              refine hK.out _ _ ?_ (fun hHeldcr10b11 => ?_)
              · trivial
              clear hK K hHeldcr9b10
              try simp only [Act.put, List.setIfInBounds_toArray, List.set_cons_zero, List.set_cons_succ]
              refine wpAnyH_take (i := 11) (oi := { dst := some 70, op := Op.fieldAddr 28 (Operand.tmp 2) 1, type := 0, pos := "ref.go:145", after := _, guard := none }) (v := ?vcr11b12) rfl (by kernel_rfl) (by kernel_rfl) (by kernel_rfl) (fun _ _ _ h => h) (Or.inl ⟨by rfl, ?hycr11b12⟩) (by assumption) ?restcr11b12
              case hycr11b12 => (intro w hSw; (try dsimp only at hSw); go_simp <;> with_reducible rfl)
              try simp only [Act.put, List.setIfInBounds_toArray, List.set_cons_zero, List.set_cons_succ]
              refine wpAnyH_ready (rs := [12]) (by kernel_rfl) (by simp) ?_
              refine AllReadyH.cons (o := { dst := none, op := Op.store 26 (Operand.tmp 70) (Operand.tmp 69), type := 0, pos := "ref.go:145", after := _, guard := none }) rfl (fun K hK => ?_) AllReadyH.nil
              go_simp
              skip
              refine hK.out _ _ ?_ (fun hHeldcr12b13 => ?_)
              · trivial
              clear hK K hHeldcr10b11
              try simp only [Act.put, List.setIfInBounds_toArray, List.set_cons_zero, List.set_cons_succ]
              refine wpAnyH_done (by kernel_rfl) ?_ _
              go_wp2_with fail
              go_meet
              exact ⟨g', gc', gt, ct, (show Hid _ from (hxr.trans (BX6.mono hxr.size)).setCell (by simp) _), (show Hid _ from (HKA.out.keep BX6).set_ 2 _), (show Hid _ from (HKR.out.keep BX6).far (by simp) _), (show Hid _ from (HKS.out.keep BX6).far (by simp; omega) _), (show Hid _ from (HSX.out.below BX6).far (by simp) (by simp; omega) _), (show Hid _ from ownsRow_setCell_below HO.out (by simp; omega) _), (show Hid _ from ownsRow_setCell_below Ht6.out (by simp; omega) _)⟩
            refine AllReadyH.cons (o := { dst := some 63, op := Op.load 26 (Operand.tmp 62), type := 26, pos := "ref.go:145", after := _, guard := none }) rfl (fun K hK => ?_) ?_
            · go_simp
              skip
              refine hK.out _ _ ?_ (fun hHeldcr4b14 => ?_)
              · trivial
              clear hK K hHeldcr1b4
              try simp only [Act.put, List.setIfInBounds_toArray, List.set_cons_zero, List.set_cons_succ]
              refine wpAnyH_take (i := 6) (oi := { dst := some 65, op := Op.indexAddr 26 (Operand.tmp 63) (Operand.tmp 64), type := 0, pos := "ref.go:145", after := _, guard := none }) (v := ?vcr6b15) rfl (by kernel_rfl) (by kernel_rfl) (by kernel_rfl) (fun _ _ _ h => h) (Or.inl ⟨by rfl, ?hycr6b15⟩) (by assumption) ?restcr6b15
              case hycr6b15 => (intro w hSw; (try dsimp only at hSw); go_simp <;> with_reducible rfl)
              try simp only [Act.put, List.setIfInBounds_toArray, List.set_cons_zero, List.set_cons_succ]
              refine wpAnyH_ready (rs := [2, 7]) (by kernel_rfl) (by simp) ?_
              refine AllReadyH.cons (o := { dst := some 61, op := Op.call { callee := Callee.builtin Builtin.append, args := #[Operand.const (Value.slice none 0 0), Operand.tmp 60], argTypes := #[26, 26] }, type := 26, pos := "ref.go:145", after := _, guard := none }) rfl (fun K hK => ?_) ?_
              · refine step_append_lies _ rfl (.const (.slice none 0 0)) (.tmp 60) _ rfl wr.heap.size 47 i0 _ 1 24 Try.underlying26 hi0 iz0 iz1 iz2 rfl (by omega) (.slice none 0 0) 0 [] rfl (World.ownsRow_nil _ _ _ _) ⟨b, o, none⟩ n d tvs rfl HTL.out (HTC.out _ (by repeat (first | assumption | exact Below.refl _ _ | refine Below.drew ?_ | refine Below.alloc ?_ (by first | omega | (simp; done) | (simp; omega)) _ | refine Below.setCell ?_ (by first | omega | (simp; done) | (simp; omega)) _))) HONE.out (by omega) (by unfold maxLen; omega) (by omega) (by first | omega | (simp; done) | (simp; omega)) _ rfl ?_
                intro g gc w4 hT hgT _ gl4
                simp only [Nat.zero_add, List.nil_append] at hT ⊢
                have BX4 : Below wr.heap.size wr w4 := Below.grown (by repeat (first | assumption | exact Below.refl _ _ | refine Below.drew ?_ | refine Below.alloc ?_ (by first | omega | (simp; done) | (simp; omega)) _ | refine Below.setCell ?_ (by first | omega | (simp; done) | (simp; omega)) _)) hgT (by first | omega | (simp; done) | (simp; omega)) (by simp [Value.ownBlock])
                have BY4 : Below w.heap.size w w4 := hxr.trans (BX4.mono hxr.size)
                obtain ⟨hc4, hf4⟩ := bcell BX4
                have hzz4 := BX4.size
                have HT := Lib.hid hT
                have HBT := Lib.hid (show Below _ _ w4 from (Below.refl _ _).grown hgT (Nat.le_refl _) (by simp [Value.ownBlock]))
                clear hT hgT
                refine hK.out _ _ ?_ (fun hHeldcr2b16 => ?_)
                · trivial
                clear hK K hHeldcr4b14
                try simp only [Act.put, List.setIfInBounds_toArray, List.set_cons_zero, List.set_cons_succ]
                refine wpAnyH_ready (rs := [7]) (by kernel_rfl) (by simp) ?_
                refine AllReadyH.cons (o := { dst := some 66, op := Op.load 47 (Operand.tmp 65), type := 47, pos := "ref.go:145", after := _, guard := none }) rfl (fun K hK => ?_) AllReadyH.nil
                go_simp
                skip
                refine hK.out _ _ ?_ (fun hHeldcr7b17 => ?_)
                · trivial
                clear hK K hHeldcr2b16
                try simp only [Act.put, List.setIfInBounds_toArray, List.set_cons_zero, List.set_cons_succ]
                refine wpAnyH_ready (rs := [8]) (by kernel_rfl) (by simp) ?_
                refine AllReadyH.cons (o := { dst := some 67, op := Op.call { callee := Callee.builtin Builtin.append, args := #[Operand.const (Value.slice none 0 0), Operand.tmp 66], argTypes := #[47, 47] }, type := 47, pos := "ref.go:145", after := _, guard := none }) rfl (fun K hK => ?_) AllReadyH.nil
                refine step_append_lies _ rfl (.const (.slice none 0 0)) (.tmp 66) _ rfl wr.heap.size 3 i1 _ 1 8 Try.underlying47 hi1 iy0 iy1 iy2 rfl (by omega) (.slice none 0 0) 0 [] rfl (World.ownsRow_nil _ _ _ _) ⟨b2, o2, none⟩ 4 ck (ts[k].flatMap encI) rfl TL4.out (HT4.out _ (by repeat (first | assumption | exact Below.refl _ _ | refine Below.drew ?_ | refine Below.alloc ?_ (by first | omega | (simp; done) | (simp; omega)) _ | refine Below.setCell ?_ (by first | omega | (simp; done) | (simp; omega)) _))) HONE4.out (by omega) (by unfold maxLen; omega) (by omega) (by first | omega | (simp; done) | (simp; omega)) _ rfl ?_
                intro gt ct w5 ht hgt _ gl5
                simp only [Nat.zero_add, List.nil_append] at ht ⊢
                have BX5 : Below wr.heap.size wr w5 := Below.grown (by repeat (first | assumption | exact Below.refl _ _ | refine Below.drew ?_ | refine Below.alloc ?_ (by first | omega | (simp; done) | (simp; omega)) _ | refine Below.setCell ?_ (by first | omega | (simp; done) | (simp; omega)) _)) hgt (by first | omega | (simp; done) | (simp; omega)) (by simp [Value.ownBlock])
                have BY5 : Below w.heap.size w w5 := hxr.trans (BX5.mono hxr.size)
                obtain ⟨hc5, hf5⟩ := bcell BX5
                have hzz5 := BX5.size
                have Ht := Lib.hid ht
                have HBt := Lib.hid (show Below _ _ w5 from (Below.refl _ _).grown hgt (Nat.le_refl _) (by simp [Value.ownBlock]))
                clear ht hgt
                refine hK.out _ _ ?_ (fun hHeldcr8b18 => ?_)
                · trivial
                clear hK K hHeldcr7b17
                try simp only [Act.put, List.setIfInBounds_toArray, List.set_cons_zero, List.set_cons_succ]
                refine wpAnyH_ready (rs := [9]) (by kernel_rfl) (by simp) ?_
                refine AllReadyH.cons (o := { dst := some 68, op := Op.buildSlice 26 1 #[(0, Operand.tmp 67)], type := 26, pos := "ref.go:145", after := _, guard := none }) rfl (fun K hK => ?_) AllReadyH.nil
                go_simp
                skip
                refine hK.out _ _ ?_ (fun hHeldcr9b19 => ?_)
                · trivial
                clear hK K hHeldcr8b18
                try simp only [Act.put, List.setIfInBounds_toArray, List.set_cons_zero, List.set_cons_succ]
                refine wpAnyH_ready (rs := [10]) (by kernel_rfl) (by simp) ?_
                refine AllReadyH.cons (o := { dst := some 69, op := Op.call { callee := Callee.builtin Builtin.append, args := #[Operand.tmp 61, Operand.tmp 68], argTypes := #[26, 26] }, type := 26, pos := "ref.go:145", after := _, guard := none }) rfl (fun K hK => ?_) AllReadyH.nil
                refine step_append_lies _ rfl (.tmp 61) (.tmp 68) _ rfl wr.heap.size 47 i0 _ 1 24 Try.underlying26 hi0 iz0 iz1 iz2 rfl (by omega) (.slice (some ⟨g, 0, none⟩) n gc) n tvs rfl (World.ownsRow.alloc (by first | exact own_below HT.out HBt.out | exact HT.out) _) ⟨_, 0, none⟩ 1 1 [.slice (some ⟨gt, 0, none⟩) 4 ct] rfl rfl (by intro j u hu; match j, hu with | 0, hu => (simp at hu; subst hu; simp [Addr.add])) (by simp [Value.oneCell']) (by omega) (by unfold maxLen; omega) (by omega) (by first | omega | (simp; done) | (simp; omega)) _ rfl ?_
                intro g' gc' w6 hO hgO _ gl6
                have hgg : wr.heap.size ≤ g := (own_block_ge HT.out rfl).1
                have BX6 : Below wr.heap.size wr w6 := Below.grown (by repeat (first | assumption | exact Below.refl _ _ | refine Below.drew ?_ | refine Below.alloc ?_ (by first | omega | (simp; done) | (simp; omega)) _ | refine Below.setCell ?_ (by first | omega | (simp; done) | (simp; omega)) _)) hgO (by first | omega | (simp; done) | (simp; omega)) (by intro q hq; simp [Value.ownBlock] at hq; omega)
                have Ht6 := Lib.hid (World.ownsRow.kept (World.ownsRow.alloc (by first | exact own_below Ht.out HBT.out | exact Ht.out) (.cells #[.slice (some ⟨gt, 0, none⟩) 4 ct] 47)) hgO (by first | exact own_kept_ne Ht.out (own_below HT.out HBt.out) (by decide) | exact own_kept_ne (own_below Ht.out HBT.out) HT.out (by decide)) : w6.ownsRow wr.heap.size 3 1 (.slice (some ⟨gt, 0, none⟩) 4 ct) 4 (ts[k].flatMap encI))
                obtain ⟨hc6, hf6⟩ := bcell BX6
                have hzz6 := BX6.size
                have HO := Lib.hid hO
                clear hO hgO
                refine hK.out _ _ ?_ (fun hHeldcr10b20 => ?_)
                · trivial
                clear hK K hHeldcr9b19
                try simp only [Act.put, List.setIfInBounds_toArray, List.set_cons_zero, List.set_cons_succ]
                refine wpAnyH_take (i := 11) (oi := { dst := some 70, op := Op.fieldAddr 28 (Operand.tmp 2) 1, type := 0, pos := "ref.go:145", after := _, guard := none }) (v := ?vcr11b21) rfl (by kernel_rfl) (by kernel_rfl) (by kernel_rfl) (fun _ _ _ h => h) (Or.inl ⟨by rfl, ?hycr11b21⟩) (by assumption) ?restcr11b21
                case hycr11b21 => (intro w hSw; (try dsimp only at hSw); go_simp <;> with_reducible rfl)
                try simp only [Act.put, List.setIfInBounds_toArray, List.set_cons_zero, List.set_cons_succ]
                refine wpAnyH_ready (rs := [12]) (by kernel_rfl) (by simp) ?_
                refine AllReadyH.cons (o := { dst := none, op := Op.store 26 (Operand.tmp 70) (Operand.tmp 69), type := 0, pos := "ref.go:145", after := _, guard := none }) rfl (fun K hK => ?_) AllReadyH.nil
                go_simp
                skip
                refine hK.out _ _ ?_ (fun hHeldcr12b22 => ?_)
                · trivial
                clear hK K hHeldcr10b20
                try simp only [Act.put, List.setIfInBounds_toArray, List.set_cons_zero, List.set_cons_succ]
                refine wpAnyH_done (by kernel_rfl) ?_ _
                go_wp2_with fail
                go_meet
                exact ⟨g', gc', gt, ct, (show Hid _ from (hxr.trans (BX6.mono hxr.size)).setCell (by simp) _), (show Hid _ from (HKA.out.keep BX6).set_ 2 _), (show Hid _ from (HKR.out.keep BX6).far (by simp) _), (show Hid _ from (HKS.out.keep BX6).far (by simp; omega) _), (show Hid _ from (HSX.out.below BX6).far (by simp) (by simp; omega) _), (show Hid _ from ownsRow_setCell_below HO.out (by simp; omega) _), (show Hid _ from ownsRow_setCell_below Ht6.out (by simp; omega) _)⟩
              refine AllReadyH.cons (o := { dst := some 66, op := Op.load 47 (Operand.tmp 65), type := 47, pos := "ref.go:145", after := _, guard := none }) rfl (fun K hK => ?_) ?_
              · go_simp
                skip
                refine hK.out _ _ ?_ (fun hHeldcr7b23 => ?_)
                · trivial
                clear hK K hHeldcr4b14
                try simp only [Act.put, List.setIfInBounds_toArray, List.set_cons_zero, List.set_cons_succ]
                refine wpAnyH_ready (rs := [2]) (by kernel_rfl) (by simp) ?_
                refine AllReadyH.cons (o := { dst := some 61, op := Op.call { callee := Callee.builtin Builtin.append, args := #[Operand.const (Value.slice none 0 0), Operand.tmp 60], argTypes := #[26, 26] }, type := 26, pos := "ref.go:145", after := _, guard := none }) rfl (fun K hK => ?_) AllReadyH.nil
                refine step_append_lies _ rfl (.const (.slice none 0 0)) (.tmp 60) _ rfl wr.heap.size 47 i0 _ 1 24 Try.underlying26 hi0 iz0 iz1 iz2 rfl (by omega) (.slice none 0 0) 0 [] rfl (World.ownsRow_nil _ _ _ _) ⟨b, o, none⟩ n d tvs rfl HTL.out (HTC.out _ (by repeat (first | assumption | exact Below.refl _ _ | refine Below.drew ?_ | refine Below.alloc ?_ (by first | omega | (simp; done) | (simp; omega)) _ | refine Below.setCell ?_ (by first | omega | (simp; done) | (simp; omega)) _))) HONE.out (by omega) (by unfold maxLen; omega) (by omega) (by first | omega | (simp; done) | (simp; omega)) _ rfl ?_
                intro g gc w4 hT hgT _ gl4
                simp only [Nat.zero_add, List.nil_append] at hT ⊢
                have BX4 : Below wr.heap.size wr w4 := Below.grown (by repeat (first | assumption | exact Below.refl _ _ | refine Below.drew ?_ | refine Below.alloc ?_ (by first | omega | (simp; done) | (simp; omega)) _ | refine Below.setCell ?_ (by first | omega | (simp; done) | (simp; omega)) _)) hgT (by first | omega | (simp; done) | (simp; omega)) (by simp [Value.ownBlock])
                have BY4 : Below w.heap.size w w4 := hxr.trans (BX4.mono hxr.size)
                obtain ⟨hc4, hf4⟩ := bcell BX4
                have hzz4 := BX4.size
                have HT := Lib.hid hT
                have HBT := Lib.hid (show Below _ _ w4 from (Below.refl _ _).grown hgT (Nat.le_refl _) (by simp [Value.ownBlock]))
                clear hT hgT
                refine hK.out _ _ ?_ (fun hHeldcr2b24 => ?_)
                · trivial
                clear hK K hHeldcr7b23
                try simp only [Act.put, List.setIfInBounds_toArray, List.set_cons_zero, List.set_cons_succ]
                refine wpAnyH_ready (rs := [8]) (by kernel_rfl) (by simp) ?_
                refine AllReadyH.cons (o := { dst := some 67, op := Op.call { callee := Callee.builtin Builtin.append, args := #[Operand.const (Value.slice none 0 0), Operand.tmp 66], argTypes := #[47, 47] }, type := 47, pos := "ref.go:145", after := _, guard := none }) rfl (fun K hK => ?_) AllReadyH.nil
                refine step_append_lies _ rfl (.const (.slice none 0 0)) (.tmp 66) _ rfl wr.heap.size 3 i1 _ 1 8 Try.underlying47 hi1 iy0 iy1 iy2 rfl (by omega) (.slice none 0 0) 0 [] rfl (World.ownsRow_nil _ _ _ _) ⟨b2, o2, none⟩ 4 ck (ts[k].flatMap encI) rfl TL4.out (HT4.out _ (by repeat (first | assumption | exact Below.refl _ _ | refine Below.drew ?_ | refine Below.alloc ?_ (by first | omega | (simp; done) | (simp; omega)) _ | refine Below.setCell ?_ (by first | omega | (simp; done) | (simp; omega)) _))) HONE4.out (by omega) (by unfold maxLen; omega) (by omega) (by first | omega | (simp; done) | (simp; omega)) _ rfl ?_
                intro gt ct w5 ht hgt _ gl5
                simp only [Nat.zero_add, List.nil_append] at ht ⊢
                have BX5 : Below wr.heap.size wr w5 := Below.grown (by repeat (first | assumption | exact Below.refl _ _ | refine Below.drew ?_ | refine Below.alloc ?_ (by first | omega | (simp; done) | (simp; omega)) _ | refine Below.setCell ?_ (by first | omega | (simp; done) | (simp; omega)) _)) hgt (by first | omega | (simp; done) | (simp; omega)) (by simp [Value.ownBlock])
                have BY5 : Below w.heap.size w w5 := hxr.trans (BX5.mono hxr.size)
                obtain ⟨hc5, hf5⟩ := bcell BX5
                have hzz5 := BX5.size
                have Ht := Lib.hid ht
                have HBt := Lib.hid (show Below _ _ w5 from (Below.refl _ _).grown hgt (Nat.le_refl _) (by simp [Value.ownBlock]))
                clear ht hgt
                refine hK.out _ _ ?_ (fun hHeldcr8b25 => ?_)
                · trivial
                clear hK K hHeldcr2b24
                try simp only [Act.put, List.setIfInBounds_toArray, List.set_cons_zero, List.set_cons_succ]
                refine wpAnyH_ready (rs := [9]) (by kernel_rfl) (by simp) ?_
                refine AllReadyH.cons (o := { dst := some 68, op := Op.buildSlice 26 1 #[(0, Operand.tmp 67)], type := 26, pos := "ref.go:145", after := _, guard := none }) rfl (fun K hK => ?_) AllReadyH.nil
                go_simp
                skip
                refine hK.out _ _ ?_ (fun hHeldcr9b26 => ?_)
                · trivial
                clear hK K hHeldcr8b25
                try simp only [Act.put, List.setIfInBounds_toArray, List.set_cons_zero, List.set_cons_succ]
                refine wpAnyH_ready (rs := [10]) (by kernel_rfl) (by simp) ?_
                refine AllReadyH.cons (o := { dst := some 69, op := Op.call { callee := Callee.builtin Builtin.append, args := #[Operand.tmp 61, Operand.tmp 68], argTypes := #[26, 26] }, type := 26, pos := "ref.go:145", after := _, guard := none }) rfl (fun K hK => ?_) AllReadyH.nil
                refine step_append_lies _ rfl (.tmp 61) (.tmp 68) _ rfl wr.heap.size 47 i0 _ 1 24 Try.underlying26 hi0 iz0 iz1 iz2 rfl (by omega) (.slice (some ⟨g, 0, none⟩) n gc) n tvs rfl (World.ownsRow.alloc (by first | exact own_below HT.out HBt.out | exact HT.out) _) ⟨_, 0, none⟩ 1 1 [.slice (some ⟨gt, 0, none⟩) 4 ct] rfl rfl (by intro j u hu; match j, hu with | 0, hu => (simp at hu; subst hu; simp [Addr.add])) (by simp [Value.oneCell']) (by omega) (by unfold maxLen; omega) (by omega) (by first | omega | (simp; done) | (simp; omega)) _ rfl ?_
                intro g' gc' w6 hO hgO _ gl6
                have hgg : wr.heap.size ≤ g := (own_block_ge HT.out rfl).1
                have BX6 : Below wr.heap.size wr w6 := Below.grown (by repeat (first | assumption | exact Below.refl _ _ | refine Below.drew ?_ | refine Below.alloc ?_ (by first | omega | (simp; done) | (simp; omega)) _ | refine Below.setCell ?_ (by first | omega | (simp; done) | (simp; omega)) _)) hgO (by first | omega | (simp; done) | (simp; omega)) (by intro q hq; simp [Value.ownBlock] at hq; omega)
                have Ht6 := Lib.hid (World.ownsRow.kept (World.ownsRow.alloc (by first | exact own_below Ht.out HBT.out | exact Ht.out) (.cells #[.slice (some ⟨gt, 0, none⟩) 4 ct] 47)) hgO (by first | exact own_kept_ne Ht.out (own_below HT.out HBt.out) (by decide) | exact own_kept_ne (own_below Ht.out HBT.out) HT.out (by decide)) : w6.ownsRow wr.heap.size 3 1 (.slice (some ⟨gt, 0, none⟩) 4 ct) 4 (ts[k].flatMap encI))
                obtain ⟨hc6, hf6⟩ := bcell BX6
                have hzz6 := BX6.size
                have HO := Lib.hid hO
                clear hO hgO
                refine hK.out _ _ ?_ (fun hHeldcr10b27 => ?_)
                · trivial
                clear hK K hHeldcr9b26
                try simp only [Act.put, List.setIfInBounds_toArray, List.set_cons_zero, List.set_cons_succ]
                refine wpAnyH_take (i := 11) (oi := { dst := some 70, op := Op.fieldAddr 28 (Operand.tmp 2) 1, type := 0, pos := "ref.go:145", after := _, guard := none }) (v := ?vcr11b28) rfl (by kernel_rfl) (by kernel_rfl) (by kernel_rfl) (fun _ _ _ h => h) (Or.inl ⟨by rfl, ?hycr11b28⟩) (by assumption) ?restcr11b28
                case hycr11b28 => (intro w hSw; (try dsimp only at hSw); go_simp <;> with_reducible rfl)
                try simp only [Act.put, List.setIfInBounds_toArray, List.set_cons_zero, List.set_cons_succ]
                refine wpAnyH_ready (rs := [12]) (by kernel_rfl) (by simp) ?_
                refine AllReadyH.cons (o := { dst := none, op := Op.store 26 (Operand.tmp 70) (Operand.tmp 69), type := 0, pos := "ref.go:145", after := _, guard := none }) rfl (fun K hK => ?_) AllReadyH.nil
                go_simp
                skip
                refine hK.out _ _ ?_ (fun hHeldcr12b29 => ?_)
                · trivial
                clear hK K hHeldcr10b27
                try simp only [Act.put, List.setIfInBounds_toArray, List.set_cons_zero, List.set_cons_succ]
                refine wpAnyH_done (by kernel_rfl) ?_ _
                go_wp2_with fail
                go_meet
                exact ⟨g', gc', gt, ct, (show Hid _ from (hxr.trans (BX6.mono hxr.size)).setCell (by simp) _), (show Hid _ from (HKA.out.keep BX6).set_ 2 _), (show Hid _ from (HKR.out.keep BX6).far (by simp) _), (show Hid _ from (HKS.out.keep BX6).far (by simp; omega) _), (show Hid _ from (HSX.out.below BX6).far (by simp) (by simp; omega) _), (show Hid _ from ownsRow_setCell_below HO.out (by simp; omega) _), (show Hid _ from ownsRow_setCell_below Ht6.out (by simp; omega) _)⟩
              exact AllReadyH.nil
            exact AllReadyH.nil
          refine AllReadyH.cons (o := { dst := some 63, op := Op.load 26 (Operand.tmp 62), type := 26, pos := "ref.go:145", after := _, guard := none }) rfl (fun K hK => ?_) ?_
          · go_simp
            skip
            refine hK.out _ _ ?_ (fun hHeldcr4b30 => ?_)
            · trivial
            clear hK K hHeldcr
            try simp only [Act.put, List.setIfInBounds_toArray, List.set_cons_zero, List.set_cons_succ]
            refine wpAnyH_take (i := 6) (oi := { dst := some 65, op := Op.indexAddr 26 (Operand.tmp 63) (Operand.tmp 64), type := 0, pos := "ref.go:145", after := _, guard := none }) (v := ?vcr6b31) rfl (by kernel_rfl) (by kernel_rfl) (by kernel_rfl) (fun _ _ _ h => h) (Or.inl ⟨by rfl, ?hycr6b31⟩) (by assumption) ?restcr6b31
            case hycr6b31 => (intro w hSw; (try dsimp only at hSw); go_simp <;> with_reducible rfl)
            try simp only [Act.put, List.setIfInBounds_toArray, List.set_cons_zero, List.set_cons_succ]
            refine wpAnyH_ready (rs := [1, 7]) (by kernel_rfl) (by simp) ?_
            refine AllReadyH.cons (o := { dst := some 60, op := Op.load 26 (Operand.tmp 59), type := 26, pos := "ref.go:145", after := _, guard := none }) rfl (fun K hK => ?_) ?_
            · go_simp
              skip
              refine hK.out _ _ ?_ (fun hHeldcr1b32 => ?_)
              · trivial
              clear hK K hHeldcr4b30
              try simp only [Act.put, List.setIfInBounds_toArray, List.set_cons_zero, List.set_cons_succ]
              refine wpAnyH_ready (rs := [2, 7]) (by kernel_rfl) (by simp) ?_
              refine AllReadyH.cons (o := { dst := some 61, op := Op.call { callee := Callee.builtin Builtin.append, args := #[Operand.const (Value.slice none 0 0), Operand.tmp 60], argTypes := #[26, 26] }, type := 26, pos := "ref.go:145", after := _, guard := none }) rfl (fun K hK => ?_) ?_
              · refine step_append_lies _ rfl (.const (.slice none 0 0)) (.tmp 60) _ rfl wr.heap.size 47 i0 _ 1 24 Try.underlying26 hi0 iz0 iz1 iz2 rfl (by omega) (.slice none 0 0) 0 [] rfl (World.ownsRow_nil _ _ _ _) ⟨b, o, none⟩ n d tvs rfl HTL.out (HTC.out _ (by repeat (first | assumption | exact Below.refl _ _ | refine Below.drew ?_ | refine Below.alloc ?_ (by first | omega | (simp; done) | (simp; omega)) _ | refine Below.setCell ?_ (by first | omega | (simp; done) | (simp; omega)) _))) HONE.out (by omega) (by unfold maxLen; omega) (by omega) (by first | omega | (simp; done) | (simp; omega)) _ rfl ?_
                intro g gc w4 hT hgT _ gl4
                simp only [Nat.zero_add, List.nil_append] at hT ⊢
                have BX4 : Below wr.heap.size wr w4 := Below.grown (by repeat (first | assumption | exact Below.refl _ _ | refine Below.drew ?_ | refine Below.alloc ?_ (by first | omega | (simp; done) | (simp; omega)) _ | refine Below.setCell ?_ (by first | omega | (simp; done) | (simp; omega)) _)) hgT (by first | omega | (simp; done) | (simp; omega)) (by simp [Value.ownBlock])
                have BY4 : Below w.heap.size w w4 := hxr.trans (BX4.mono hxr.size)
                obtain ⟨hc4, hf4⟩ := bcell BX4
                have hzz4 := BX4.size
                have HT := Lib.hid hT
                have HBT := Lib.hid (show Below _ _ w4 from (Below.refl _ _).grown hgT (Nat.le_refl _) (by simp [Value.ownBlock]))
                clear hT hgT
                refine hK.out _ _ ?_ (fun hHeldcr2b33 => ?_)
                · trivial
                clear hK K hHeldcr1b32
                try simp only [Act.put, List.setIfInBounds_toArray, List.set_cons_zero, List.set_cons_succ]
                refine wpAnyH_ready (rs := [7]) (by kernel_rfl) (by simp) ?_
                refine AllReadyH.cons (o := { dst := some 66, op := Op.load 47 (Operand.tmp 65), type := 47, pos := "ref.go:145", after := _, guard := none }) rfl (fun K hK => ?_) AllReadyH.nil
                go_simp
                skip
                refine hK.out _ _ ?_ (fun hHeldcr7b34 => ?_)
                · trivial
                clear hK K hHeldcr2b33
                try simp only [Act.put, List.setIfInBounds_toArray, List.set_cons_zero, List.set_cons_succ]
                refine wpAnyH_ready (rs := [8]) (by kernel_rfl) (by simp) ?_
                refine AllReadyH.cons (o := { dst := some 67, op := Op.call { callee := Callee.builtin Builtin.append, args := #[Operand.const (Value.slice none 0 0), Operand.tmp 66], argTypes := #[47, 47] }, type := 47, pos := "ref.go:145", after := _, guard := none }) rfl (fun K hK => ?_) AllReadyH.nil
                refine step_append_lies _ rfl (.const (.slice none 0 0)) (.tmp 66) _ rfl wr.heap.size 3 i1 _ 1 8 Try.underlying47 hi1 iy0 iy1 iy2 rfl (by omega) (.slice none 0 0) 0 [] rfl (World.ownsRow_nil _ _ _ _) ⟨b2, o2, none⟩ 4 ck (ts[k].flatMap encI) rfl TL4.out (HT4.out _ (by repeat (first | assumption | exact Below.refl _ _ | refine Below.drew ?_ | refine Below.alloc ?_ (by first | omega | (simp; done) | (simp; omega)) _ | refine Below.setCell ?_ (by first | omega | (simp; done) | (simp; omega)) _))) HONE4.out (by omega) (by unfold maxLen; omega) (by omega) (by first | omega | (simp; done) | (simp; omega)) _ rfl ?_
                intro gt ct w5 ht hgt _ gl5
                simp only [Nat.zero_add, List.nil_append] at ht ⊢
                have BX5 : Below wr.heap.size wr w5 := Below.grown (by repeat (first | assumption | exact Below.refl _ _ | refine Below.drew ?_ | refine Below.alloc ?_ (by first | omega | (simp; done) | (simp; omega)) _ | refine Below.setCell ?_ (by first | omega | (simp; done) | (simp; omega)) _)) hgt (by first | omega | (simp; done) | (simp; omega)) (by simp [Value.ownBlock])
                have BY5 : Below w.heap.size w w5 := hxr.trans (BX5.mono hxr.size)
                obtain ⟨hc5, hf5⟩ := bcell BX5
                have hzz5 := BX5.size
                have Ht := Lib.hid ht
                have HBt := Lib.hid (show Below _ _ w5 from (Below.refl _ _).grown hgt (Nat.le_refl _) (by simp [Value.ownBlock]))
                clear ht hgt
                refine hK.out _ _ ?_ (fun hHeldcr8b35 => ?_)
                · trivial
                clear hK K hHeldcr7b34
                try simp only [Act.put, List.setIfInBounds_toArray, List.set_cons_zero, List.set_cons_succ]
                refine wpAnyH_ready (rs := [9]) (by kernel_rfl) (by simp) ?_
                refine AllReadyH.cons (o := { dst := some 68, op := Op.buildSlice 26 1 #[(0, Operand.tmp 67)], type := 26, pos := "ref.go:145", after := _, guard := none }) rfl (fun K hK => ?_) AllReadyH.nil
                go_simp
                skip
                refine hK.out _ _ ?_ (fun hHeldcr9b36 => ?_)
                · trivial
                clear hK K hHeldcr8b35
                try simp only [Act.put, List.setIfInBounds_toArray, List.set_cons_zero, List.set_cons_succ]
                refine wpAnyH_ready (rs := [10]) (by kernel_rfl) (by simp) ?_
                refine AllReadyH.cons (o := { dst := some 69, op := Op.call { callee := Callee.builtin Builtin.append, args := #[Operand.tmp 61, Operand.tmp 68], argTypes := #[26, 26] }, type := 26, pos := "ref.go:145", after := _, guard := none }) rfl (fun K hK => ?_) AllReadyH.nil
                refine step_append_lies _ rfl (.tmp 61) (.tmp 68) _ rfl wr.heap.size 47 i0 _ 1 24 Try.underlying26 hi0 iz0 iz1 iz2 rfl (by omega) (.slice (some ⟨g, 0, none⟩) n gc) n tvs rfl (World.ownsRow.alloc (by first | exact own_below HT.out HBt.out | exact HT.out) _) ⟨_, 0, none⟩ 1 1 [.slice (some ⟨gt, 0, none⟩) 4 ct] rfl rfl (by intro j u hu; match j, hu with | 0, hu => (simp at hu; subst hu; simp [Addr.add])) (by simp [Value.oneCell']) (by omega) (by unfold maxLen; omega) (by omega) (by first | omega | (simp; done) | (simp; omega)) _ rfl ?_
                intro g' gc' w6 hO hgO _ gl6
                have hgg : wr.heap.size ≤ g := (own_block_ge HT.out rfl).1
                have BX6 : Below wr.heap.size wr w6 := Below.grown (by repeat (first | assumption | exact Below.refl _ _ | refine Below.drew ?_ | refine Below.alloc ?_ (by first | omega | (simp; done) | (simp; omega)) _ | refine Below.setCell ?_ (by first | omega | (simp; done) | (simp; omega)) _)) hgO (by first | omega | (simp; done) | (simp; omega)) (by intro q hq; simp [Value.ownBlock] at hq; omega)
                have Ht6 := Lib.hid (World.ownsRow.kept (World.ownsRow.alloc (by first | exact own_below Ht.out HBT.out | exact Ht.out) (.cells #[.slice (some ⟨gt, 0, none⟩) 4 ct] 47)) hgO (by first | exact own_kept_ne Ht.out (own_below HT.out HBt.out) (by decide) | exact own_kept_ne (own_below Ht.out HBT.out) HT.out (by decide)) : w6.ownsRow wr.heap.size 3 1 (.slice (some ⟨gt, 0, none⟩) 4 ct) 4 (ts[k].flatMap encI))
                obtain ⟨hc6, hf6⟩ := bcell BX6
                have hzz6 := BX6.size
                have HO := Lib.hid hO
                clear hO hgO
                refine hK.out _ _ ?_ (fun hHeldcr10b37 => ?_)
                · trivial
                clear hK K hHeldcr9b36
                try simp only [Act.put, List.setIfInBounds_toArray, List.set_cons_zero, List.set_cons_succ]
                refine wpAnyH_take (i := 11) (oi := { dst := some 70, op := Op.fieldAddr 28 (Operand.tmp 2) 1, type := 0, pos := "ref.go:145", after := _, guard := none }) (v := ?vcr11b38) rfl (by kernel_rfl) (by kernel_rfl) (by kernel_rfl) (fun _ _ _ h => h) (Or.inl ⟨by rfl, ?hycr11b38⟩) (by assumption) ?restcr11b38
                case hycr11b38 => (intro w hSw; (try dsimp only at hSw); go_simp <;> with_reducible rfl)
                try simp only [Act.put, List.setIfInBounds_toArray, List.set_cons_zero, List.set_cons_succ]
                refine wpAnyH_ready (rs := [12]) (by kernel_rfl) (by simp) ?_
                refine AllReadyH.cons (o := { dst := none, op := Op.store 26 (Operand.tmp 70) (Operand.tmp 69), type := 0, pos := "ref.go:145", after := _, guard := none }) rfl (fun K hK => ?_) AllReadyH.nil
                go_simp
                skip
                refine hK.out _ _ ?_ (fun hHeldcr12b39 => ?_)
                · trivial
                clear hK K hHeldcr10b37
                try simp only [Act.put, List.setIfInBounds_toArray, List.set_cons_zero, List.set_cons_succ]
                refine wpAnyH_done (by kernel_rfl) ?_ _
                go_wp2_with fail
                go_meet
                exact ⟨g', gc', gt, ct, (show Hid _ from (hxr.trans (BX6.mono hxr.size)).setCell (by simp) _), (show Hid _ from (HKA.out.keep BX6).set_ 2 _), (show Hid _ from (HKR.out.keep BX6).far (by simp) _), (show Hid _ from (HKS.out.keep BX6).far (by simp; omega) _), (show Hid _ from (HSX.out.below BX6).far (by simp) (by simp; omega) _), (show Hid _ from ownsRow_setCell_below HO.out (by simp; omega) _), (show Hid _ from ownsRow_setCell_below Ht6.out (by simp; omega) _)⟩
              refine AllReadyH.cons (o := { dst := some 66, op := Op.load 47 (Operand.tmp 65), type := 47, pos := "ref.go:145", after := _, guard := none }) rfl (fun K hK => ?_) ?_
              · go_simp
                skip
                refine hK.out _ _ ?_ (fun hHeldcr7b40 => ?_)
                · trivial
                clear hK K hHeldcr1b32
                try simp only [Act.put, List.setIfInBounds_toArray, List.set_cons_zero, List.set_cons_succ]
                refine wpAnyH_ready (rs := [2]) (by kernel_rfl) (by simp) ?_
                refine AllReadyH.cons (o := { dst := some 61, op := Op.call { callee := Callee.builtin Builtin.append, args := #[Operand.const (Value.slice none 0 0), Operand.tmp 60], argTypes := #[26, 26] }, type := 26, pos := "ref.go:145", after := _, guard := none }) rfl (fun K hK => ?_) AllReadyH.nil
                refine step_append_lies _ rfl (.const (.slice none 0 0)) (.tmp 60) _ rfl wr.heap.size 47 i0 _ 1 24 Try.underlying26 hi0 iz0 iz1 iz2 rfl (by omega) (.slice none 0 0) 0 [] rfl (World.ownsRow_nil _ _ _ _) ⟨b, o, none⟩ n d tvs rfl HTL.out (HTC.out _ (by repeat (first | assumption | exact Below.refl _ _ | refine Below.drew ?_ | refine Below.alloc ?_ (by first | omega | (simp; done) | (simp; omega)) _ | refine Below.setCell ?_ (by first | omega | (simp; done) | (simp; omega)) _))) HONE.out (by omega) (by unfold maxLen; omega) (by omega) (by first | omega | (simp; done) | (simp; omega)) _ rfl ?_
                intro g gc w4 hT hgT _ gl4
                simp only [Nat.zero_add, List.nil_append] at hT ⊢
                have BX4 : Below wr.heap.size wr w4 := Below.grown (by repeat (first | assumption | exact Below.refl _ _ | refine Below.drew ?_ | refine Below.alloc ?_ (by first | omega | (simp; done) | (simp; omega)) _ | refine Below.setCell ?_ (by first | omega | (simp; done) | (simp; omega)) _)) hgT (by first | omega | (simp; done) | (simp; omega)) (by simp [Value.ownBlock])
                have BY4 : Below w.heap.size w w4 := hxr.trans (BX4.mono hxr.size)
                obtain ⟨hc4, hf4⟩ := bcell BX4
                have hzz4 := BX4.size
                have HT := Lib.hid hT
                have HBT := Lib.hid (show Below _ _ w4 from (Below.refl _ _).grown hgT (Nat.le_refl _) (by simp [Value.ownBlock]))
                clear hT hgT
                refine hK.out _ _ ?_ (fun hHeldcr2b41 => ?_)
                · trivial
                clear hK K hHeldcr7b40
                try simp only [Act.put, List.setIfInBounds_toArray, List.set_cons_zero, List.set_cons_succ]
                refine wpAnyH_ready (rs := [8]) (by kernel_rfl) (by simp) ?_
                refine AllReadyH.cons (o := { dst := some 67, op := Op.call { callee := Callee.builtin Builtin.append, args := #[Operand.const (Value.slice none 0 0), Operand.tmp 66], argTypes := #[47, 47] }, type := 47, pos := "ref.go:145", after := _, guard := none }) rfl (fun K hK => ?_) AllReadyH.nil
                refine step_append_lies _ rfl (.const (.slice none 0 0)) (.tmp 66) _ rfl wr.heap.size 3 i1 _ 1 8 Try.underlying47 hi1 iy0 iy1 iy2 rfl (by omega) (.slice none 0 0) 0 [] rfl (World.ownsRow_nil _ _ _ _) ⟨b2, o2, none⟩ 4 ck (ts[k].flatMap encI) rfl TL4.out (HT4.out _ (by repeat (first | assumption | exact Below.refl _ _ | refine Below.drew ?_ | refine Below.alloc ?_ (by first | omega | (simp; done) | (simp; omega)) _ | refine Below.setCell ?_ (by first | omega | (simp; done) | (simp; omega)) _))) HONE4.out (by omega) (by unfold maxLen; omega) (by omega) (by first | omega | (simp; done) | (simp; omega)) _ rfl ?_
                intro gt ct w5 ht hgt _ gl5
                simp only [Nat.zero_add, List.nil_append] at ht ⊢
                have BX5 : Below wr.heap.size wr w5 := Below.grown (by repeat (first | assumption | exact Below.refl _ _ | refine Below.drew ?_ | refine Below.alloc ?_ (by first | omega | (simp; done) | (simp; omega)) _ | refine Below.setCell ?_ (by first | omega | (simp; done) | (simp; omega)) _)) hgt (by first | omega | (simp; done) | (simp; omega)) (by simp [Value.ownBlock])
                have BY5 : Below w.heap.size w w5 := hxr.trans (BX5.mono hxr.size)
                obtain ⟨hc5, hf5⟩ := bcell BX5
                have hzz5 := BX5.size
                have Ht := Lib.hid ht
                have HBt := Lib.hid (show Below _ _ w5 from (Below.refl _ _).grown hgt (Nat.le_refl _) (by simp [Value.ownBlock]))
                clear ht hgt
                refine hK.out _ _ ?_ (fun hHeldcr8b42 => ?_)
                · trivial
                clear hK K hHeldcr2b41
                try simp only [Act.put, List.setIfInBounds_toArray, List.set_cons_zero, List.set_cons_succ]
                refine wpAnyH_ready (rs := [9]) (by kernel_rfl) (by simp) ?_
                refine AllReadyH.cons (o := { dst := some 68, op := Op.buildSlice 26 1 #[(0, Operand.tmp 67)], type := 26, pos := "ref.go:145", after := _, guard := none }) rfl (fun K hK => ?_) AllReadyH.nil
                go_simp
                skip
                refine hK.out _ _ ?_ (fun hHeldcr9b43 => ?_)
                · trivial
                clear hK K hHeldcr8b42
                try simp only [Act.put, List.setIfInBounds_toArray, List.set_cons_zero, List.set_cons_succ]
                refine wpAnyH_ready (rs := [10]) (by kernel_rfl) (by simp) ?_
                refine AllReadyH.cons (o := { dst := some 69, op := Op.call { callee := Callee.builtin Builtin.append, args := #[Operand.tmp 61, Operand.tmp 68], argTypes := #[26, 26] }, type := 26, pos := "ref.go:145", after := _, guard := none }) rfl (fun K hK => ?_) AllReadyH.nil
                refine step_append_lies _ rfl (.tmp 61) (.tmp 68) _ rfl wr.heap.size 47 i0 _ 1 24 Try.underlying26 hi0 iz0 iz1 iz2 rfl (by omega) (.slice (some ⟨g, 0, none⟩) n gc) n tvs rfl (World.ownsRow.alloc (by first | exact own_below HT.out HBt.out | exact HT.out) _) ⟨_, 0, none⟩ 1 1 [.slice (some ⟨gt, 0, none⟩) 4 ct] rfl rfl (by intro j u hu; match j, hu with | 0, hu => (simp at hu; subst hu; simp [Addr.add])) (by simp [Value.oneCell']) (by omega) (by unfold maxLen; omega) (by omega) (by first | omega | (simp; done) | (simp; omega)) _ rfl ?_
                intro g' gc' w6 hO hgO _ gl6
                have hgg : wr.heap.size ≤ g := (own_block_ge HT.out rfl).1
                have BX6 : Below wr.heap.size wr w6 := Below.grown (by repeat (first | assumption | exact Below.refl _ _ | refine Below.drew ?_ | refine Below.alloc ?_ (by first | omega | (simp; done) | (simp; omega)) _ | refine Below.setCell ?_ (by first | omega | (simp; done) | (simp; omega)) _)) hgO (by first | omega | (simp; done) | (simp; omega)) (by intro q hq; simp [Value.ownBlock] at hq; omega)
                have Ht6 := Lib.hid (World.ownsRow.kept (World.ownsRow.alloc (by first | exact own_below Ht.out HBT.out | exact Ht.out) (.cells #[.slice (some ⟨gt, 0, none⟩) 4 ct] 47)) hgO (by first | exact own_kept_ne Ht.out (own_below HT.out HBt.out) (by decide) | exact own_kept_ne (own_below Ht.out HBT.out) HT.out (by decide)) : w6.ownsRow wr.heap.size 3 1 (.slice (some ⟨gt, 0, none⟩) 4 ct) 4 (ts[k].flatMap encI))
                obtain ⟨hc6, hf6⟩ := bcell BX6
                have hzz6 := BX6.size
                have HO := Lib.hid hO
                clear hO hgO
                refine hK.out _ _ ?_ (fun hHeldcr10b44 => ?_)
                · trivial
                clear hK K hHeldcr9b43
                try simp only [Act.put, List.setIfInBounds_toArray, List.set_cons_zero, List.set_cons_succ]
                refine wpAnyH_take (i := 11) (oi := { dst := some 70, op := Op.fieldAddr 28 (Operand.tmp 2) 1, type := 0, pos := "ref.go:145", after := _, guard := none }) (v := ?vcr11b45) rfl (by kernel_rfl) (by kernel_rfl) (by kernel_rfl) (fun _ _ _ h => h) (Or.inl ⟨by rfl, ?hycr11b45⟩) (by assumption) ?restcr11b45
                case hycr11b45 => (intro w hSw; (try dsimp only at hSw); go_simp <;> with_reducible rfl)
                try simp only [Act.put, List.setIfInBounds_toArray, List.set_cons_zero, List.set_cons_succ]
                refine wpAnyH_ready (rs := [12]) (by kernel_rfl) (by simp) ?_
                refine AllReadyH.cons (o := { dst := none, op := Op.store 26 (Operand.tmp 70) (Operand.tmp 69), type := 0, pos := "ref.go:145", after := _, guard := none }) rfl (fun K hK => ?_) AllReadyH.nil
                go_simp
                skip
                refine hK.out _ _ ?_ (fun hHeldcr12b46 => ?_)
                · trivial
                clear hK K hHeldcr10b44
                try simp only [Act.put, List.setIfInBounds_toArray, List.set_cons_zero, List.set_cons_succ]
                refine wpAnyH_done (by kernel_rfl) ?_ _
                go_wp2_with fail
                go_meet
                exact ⟨g', gc', gt, ct, (show Hid _ from (hxr.trans (BX6.mono hxr.size)).setCell (by simp) _), (show Hid _ from (HKA.out.keep BX6).set_ 2 _), (show Hid _ from (HKR.out.keep BX6).far (by simp) _), (show Hid _ from (HKS.out.keep BX6).far (by simp; omega) _), (show Hid _ from (HSX.out.below BX6).far (by simp) (by simp; omega) _), (show Hid _ from ownsRow_setCell_below HO.out (by simp; omega) _), (show Hid _ from ownsRow_setCell_below Ht6.out (by simp; omega) _)⟩
              exact AllReadyH.nil
            refine AllReadyH.cons (o := { dst := some 66, op := Op.load 47 (Operand.tmp 65), type := 47, pos := "ref.go:145", after := _, guard := none }) rfl (fun K hK => ?_) ?_
            · go_simp
              skip
              refine hK.out _ _ ?_ (fun hHeldcr7b47 => ?_)
              · trivial
              clear hK K hHeldcr4b30
              try simp only [Act.put, List.setIfInBounds_toArray, List.set_cons_zero, List.set_cons_succ]
              refine wpAnyH_ready (rs := [1]) (by kernel_rfl) (by simp) ?_
              refine AllReadyH.cons (o := { dst := some 60, op := Op.load 26 (Operand.tmp 59), type := 26, pos := "ref.go:145", after := _, guard := none }) rfl (fun K hK => ?_) AllReadyH.nil
              go_simp
              skip
              refine hK.out _ _ ?_ (fun hHeldcr1b48 => ?_)
              · trivial
              clear hK K hHeldcr7b47
              try simp only [Act.put, List.setIfInBounds_toArray, List.set_cons_zero, List.set_cons_succ]
              refine wpAnyH_ready (rs := [2]) (by kernel_rfl) (by simp) ?_
              refine AllReadyH.cons (o := { dst := some 61, op := Op.call { callee := Callee.builtin Builtin.append, args := #[Operand.const (Value.slice none 0 0), Operand.tmp 60], argTypes := #[26, 26] }, type := 26, pos := "ref.go:145", after := _, guard := none }) rfl (fun K hK => ?_) AllReadyH.nil
              refine step_append_lies _ rfl (.const (.slice none 0 0)) (.tmp 60) _ rfl wr.heap.size 47 i0 _ 1 24 Try.underlying26 hi0 iz0 iz1 iz2 rfl (by omega) (.slice none 0 0) 0 [] rfl (World.ownsRow_nil _ _ _ _) ⟨b, o, none⟩ n d tvs rfl HTL.out (HTC.out _ (by repeat (first | assumption | exact Below.refl _ _ | refine Below.drew ?_ | refine Below.alloc ?_ (by first | omega | (simp; done) | (simp; omega)) _ | refine Below.setCell ?_ (by first | omega | (simp; done) | (simp; omega)) _))) HONE.out (by omega) (by unfold maxLen; omega) (by omega) (by first | omega | (simp; done) | (simp; omega)) _ rfl ?_
              intro g gc w4 hT hgT _ gl4
              simp only [Nat.zero_add, List.nil_append] at hT ⊢
              have BX4 : Below wr.heap.size wr w4 := Below.grown (by repeat (first | assumption | exact Below.refl _ _ | refine Below.drew ?_ | refine Below.alloc ?_ (by first | omega | (simp; done) | (simp; omega)) _ | refine Below.setCell ?_ (by first | omega | (simp; done) | (simp; omega)) _)) hgT (by first | omega | (simp; done) | (simp; omega)) (by simp [Value.ownBlock])
              have BY4 : Below w.heap.size w w4 := hxr.trans (BX4.mono hxr.size)
              obtain ⟨hc4, hf4⟩ := bcell BX4
              have hzz4 := BX4.size
              have HT := Lib.hid hT
              have HBT := Lib.hid (show Below _ _ w4 from (Below.refl _ _).grown hgT (Nat.le_refl _) (by simp [Value.ownBlock]))
              clear hT hgT
              refine hK.out _ _ ?_ (fun hHeldcr2b49 => ?_)
              · trivial
              clear hK K hHeldcr1b48
              try simp only [Act.put, List.setIfInBounds_toArray, List.set_cons_zero, List.set_cons_succ]
              refine wpAnyH_ready (rs := [8]) (by kernel_rfl) (by simp) ?_
              refine AllReadyH.cons (o := { dst := some 67, op := Op.call { callee := Callee.builtin Builtin.append, args := #[Operand.const (Value.slice none 0 0), Operand.tmp 66], argTypes := #[47, 47] }, type := 47, pos := "ref.go:145", after := _, guard := none }) rfl (fun K hK => ?_) AllReadyH.nil
              refine step_append_lies _ rfl (.const (.slice none 0 0)) (.tmp 66) _ rfl wr.heap.size 3 i1 _ 1 8 Try.underlying47 hi1 iy0 iy1 iy2 rfl (by omega) (.slice none 0 0) 0 [] rfl (World.ownsRow_nil _ _ _ _) ⟨b2, o2, none⟩ 4 ck (ts[k].flatMap encI) rfl TL4.out (HT4.out _ (by repeat (first | assumption | exact Below.refl _ _ | refine Below.drew ?_ | refine Below.alloc ?_ (by first | omega | (simp; done) | (simp; omega)) _ | refine Below.setCell ?_ (by first | omega | (simp; done) | (simp; omega)) _))) HONE4.out (by omega) (by unfold maxLen; omega) (by omega) (by first | omega | (simp; done) | (simp; omega)) _ rfl ?_
              intro gt ct w5 ht hgt _ gl5
              simp only [Nat.zero_add, List.nil_append] at ht ⊢
              have BX5 : Below wr.heap.size wr w5 := Below.grown (by repeat (first | assumption | exact Below.refl _ _ | refine Below.drew ?_ | refine Below.alloc ?_ (by first | omega | (simp; done) | (simp; omega)) _ | refine Below.setCell ?_ (by first | omega | (simp; done) | (simp; omega)) _)) hgt (by first | omega | (simp; done) | (simp; omega)) (by simp [Value.ownBlock])
              have BY5 : Below w.heap.size w w5 := hxr.trans (BX5.mono hxr.size)
              obtain ⟨hc5, hf5⟩ := bcell BX5
              have hzz5 := BX5.size
              have Ht := Lib.hid ht
              have HBt := Lib.hid (show Below _ _ w5 from (Below.refl _ _).grown hgt (Nat.le_refl _) (by simp [Value.ownBlock]))
              clear ht hgt
              refine hK.out _ _ ?_ (fun hHeldcr8b50 => ?_)
              · trivial
              clear hK K hHeldcr2b49
              try simp only [Act.put, List.setIfInBounds_toArray, List.set_cons_zero, List.set_cons_succ]
              refine wpAnyH_ready (rs := [9]) (by kernel_rfl) (by simp) ?_
              refine AllReadyH.cons (o := { dst := some 68, op := Op.buildSlice 26 1 #[(0, Operand.tmp 67)], type := 26, pos := "ref.go:145", after := _, guard := none }) rfl (fun K hK => ?_) AllReadyH.nil
              go_simp
              skip
              refine hK.out _ _ ?_ (fun hHeldcr9b51 => ?_)
              · trivial
              clear hK K hHeldcr8b50
              try simp only [Act.put, List.setIfInBounds_toArray, List.set_cons_zero, List.set_cons_succ]
              refine wpAnyH_ready (rs := [10]) (by kernel_rfl) (by simp) ?_
              refine AllReadyH.cons (o := { dst := some 69, op := Op.call { callee := Callee.builtin Builtin.append, args := #[Operand.tmp 61, Operand.tmp 68], argTypes := #[26, 26] }, type := 26, pos := "ref.go:145", after := _, guard := none }) rfl (fun K hK => ?_) AllReadyH.nil
              refine step_append_lies _ rfl (.tmp 61) (.tmp 68) _ rfl wr.heap.size 47 i0 _ 1 24 Try.underlying26 hi0 iz0 iz1 iz2 rfl (by omega) (.slice (some ⟨g, 0, none⟩) n gc) n tvs rfl (World.ownsRow.alloc (by first | exact own_below HT.out HBt.out | exact HT.out) _) ⟨_, 0, none⟩ 1 1 [.slice (some ⟨gt, 0, none⟩) 4 ct] rfl rfl (by intro j u hu; match j, hu with | 0, hu => (simp at hu; subst hu; simp [Addr.add])) (by simp [Value.oneCell']) (by omega) (by unfold maxLen; omega) (by omega) (by first | omega | (simp; done) | (simp; omega)) _ rfl ?_
              intro g' gc' w6 hO hgO _ gl6
              have hgg : wr.heap.size ≤ g := (own_block_ge HT.out rfl).1
              have BX6 : Below wr.heap.size wr w6 := Below.grown (by repeat (first | assumption | exact Below.refl _ _ | refine Below.drew ?_ | refine Below.alloc ?_ (by first | omega | (simp; done) | (simp; omega)) _ | refine Below.setCell ?_ (by first | omega | (simp; done) | (simp; omega)) _)) hgO (by first | omega | (simp; done) | (simp; omega)) (by intro q hq; simp [Value.ownBlock] at hq; omega)
              have Ht6 := Lib.hid (World.ownsRow.kept (World.ownsRow.alloc (by first | exact own_below Ht.out HBT.out | exact Ht.out) (.cells #[.slice (some ⟨gt, 0, none⟩) 4 ct] 47)) hgO (by first | exact own_kept_ne Ht.out (own_below HT.out HBt.out) (by decide) | exact own_kept_ne (own_below Ht.out HBT.out) HT.out (by decide)) : w6.ownsRow wr.heap.size 3 1 (.slice (some ⟨gt, 0, none⟩) 4 ct) 4 (ts[k].flatMap encI))
              obtain ⟨hc6, hf6⟩ := bcell BX6
              have hzz6 := BX6.size
              have HO := Lib.hid hO
              clear hO hgO
              refine hK.out _ _ ?_ (fun hHeldcr10b52 => ?_)
              · trivial
              clear hK K hHeldcr9b51
              try simp only [Act.put, List.setIfInBounds_toArray, List.set_cons_zero, List.set_cons_succ]
              refine wpAnyH_take (i := 11) (oi := { dst := some 70, op := Op.fieldAddr 28 (Operand.tmp 2) 1, type := 0, pos := "ref.go:145", after := _, guard := none }) (v := ?vcr11b53) rfl (by kernel_rfl) (by kernel_rfl) (by kernel_rfl) (fun _ _ _ h => h) (Or.inl ⟨by rfl, ?hycr11b53⟩) (by assumption) ?restcr11b53
              case hycr11b53 => (intro w hSw; (try dsimp only at hSw); go_simp <;> with_reducible rfl)
              try simp only [Act.put, List.setIfInBounds_toArray, List.set_cons_zero, List.set_cons_succ]
              refine wpAnyH_ready (rs := [12]) (by kernel_rfl) (by simp) ?_
              refine AllReadyH.cons (o := { dst := none, op := Op.store 26 (Operand.tmp 70) (Operand.tmp 69), type := 0, pos := "ref.go:145", after := _, guard := none }) rfl (fun K hK => ?_) AllReadyH.nil
              go_simp
              skip
              refine hK.out _ _ ?_ (fun hHeldcr12b54 => ?_)
              · trivial
              clear hK K hHeldcr10b52
              try simp only [Act.put, List.setIfInBounds_toArray, List.set_cons_zero, List.set_cons_succ]
              refine wpAnyH_done (by kernel_rfl) ?_ _
              go_wp2_with fail
              go_meet
              exact ⟨g', gc', gt, ct, (show Hid _ from (hxr.trans (BX6.mono hxr.size)).setCell (by simp) _), (show Hid _ from (HKA.out.keep BX6).set_ 2 _), (show Hid _ from (HKR.out.keep BX6).far (by simp) _), (show Hid _ from (HKS.out.keep BX6).far (by simp; omega) _), (show Hid _ from (HSX.out.below BX6).far (by simp) (by simp; omega) _), (show Hid _ from ownsRow_setCell_below HO.out (by simp; omega) _), (show Hid _ from ownsRow_setCell_below Ht6.out (by simp; omega) _)⟩
            exact AllReadyH.nil
          exact AllReadyH.nil
        case rest =>
          obtain ⟨g, gc, gt, ct, HX6, HKA6, HKR6, HKS6, HSX6, HO6, Ht6⟩ := hcut
          have lw := HX.out.size
          have s0 : wc.cell? ⟨w1.heap.size, 0, none⟩ = some (.int .i64 cap) := by rw [HKS6.out.cell]; rfl
          have s1 : wc.cell? ⟨w1.heap.size, 1, none⟩ = some (.slice A9 ps.length c9) := by rw [HKS6.out.cell]; rfl
          have a0 : wc.cell? ⟨w.heap.size, 0, none⟩ = some (.int .i64 cap) := by rw [HKA6.out.cell]; rfl
          have a1 : wc.cell? ⟨w.heap.size, 1, none⟩ = some (.slice A ps.length c) := by rw [HKA6.out.cell]; rfl
          have b2' : wc.cell? ⟨w.heap.size, 2, none⟩ = some (.slice (some ⟨g, 0, none⟩) (n + 1) gc) := by rw [HKA6.out.cell]; rfl
          have af6 := HKA6.out.free
          have lsc := HKS6.out.lt
          have lac := HKA6.out.lt
          have lrc := HKR6.out.lt
          have rf6 := HKR6.out.free
          have q0 : wc.cell? ⟨w.heap.size + 1, 0, none⟩ = some (.int .i64 0) := by rw [HKR6.out.cell]; rfl
          have q1 : wc.cell? ⟨w.heap.size + 1, 1, none⟩ = some (.slice none 0 0) := by rw [HKR6.out.cell]; rfl
          have q2 : wc.cell? ⟨w.heap.size + 1, 2, none⟩ = some (.slice none 0 0) := by rw [HKR6.out.cell]; rfl
          have hn1 : IntKind.i64.wrap (n : Int) = (n : Int) := by rw [IntKind.wrap_i64]; omega
          clear a2 f0 af
          go_upto_region 15 with fail
          obtain ⟨w7, hw7⟩ : ∃ x, (wc.setCell ⟨w.heap.size, 0, none⟩ (.int .i64 cap)).setCell ⟨w.heap.size, 1, none⟩ (.slice A9 ps.length c9) = x := ⟨_, rfl⟩
          rw [hw7]
          have K7 := Lib.hid (hw7 ▸ (HKA6.out.set_ 0 (.int .i64 cap)).set_ 1 (.slice A9 ps.length c9) : Blk w7 w.heap.size 28 #[.int .i64 cap, .slice A9 ps.length c9, .slice (some ⟨g, 0, none⟩) (n + 1) gc])
          have R7 := Lib.hid (hw7 ▸ (HKR6.out.far (p := ⟨w.heap.size, 0, none⟩) (by simp) (.int .i64 cap)).far (p := ⟨w.heap.size, 1, none⟩) (by simp) (.slice A9 ps.length c9) : Blk w7 (w.heap.size + 1) 28 #[.int .i64 0, .slice none 0 0, .slice none 0 0])
          have X7 := Lib.hid (hw7 ▸ (HX6.out.setCell (p := ⟨w.heap.size, 0, none⟩) (by simp) (.int .i64 cap)).setCell (p := ⟨w.heap.size, 1, none⟩) (by simp) (.slice A9 ps.length c9) : Below w.heap.size w w7)
          have S7 := Lib.hid (hw7 ▸ (HSX6.out.far (p := ⟨w.heap.size, 0, none⟩) (by simp) (by simp; omega) (.int .i64 cap)).far (p := ⟨w.heap.size, 1, none⟩) (by simp) (by simp; omega) (.slice A9 ps.length c9) : SlX w7 w.heap.size (w1.heap.size + 1) 5 (.slice A9 ps.length c9) ps.length ((each_shareL cap ps (pgsK ts[k] 4)).flatMap encP))
          have O7 := Lib.hid (hw7 ▸ ownsRow_setCell_below (ownsRow_setCell_below HO6.out (a := ⟨w.heap.size, 0, none⟩) (by simp; omega) (.int .i64 cap)) (a := ⟨w.heap.size, 1, none⟩) (by simp; omega) (.slice A9 ps.length c9) : w7.ownsRow wr.heap.size 47 1 (.slice (some ⟨g, 0, none⟩) (n + 1) gc) (n + 1) (tvs ++ [.slice (some ⟨gt, 0, none⟩) 4 ct]))
          have T7 := Lib.hid (hw7 ▸ ownsRow_setCell_below (ownsRow_setCell_below Ht6.out (a := ⟨w.heap.size, 0, none⟩) (by simp; omega) (.int .i64 cap)) (a := ⟨w.heap.size, 1, none⟩) (by simp; omega) (.slice A9 ps.length c9) : w7.ownsRow wr.heap.size 3 1 (.slice (some ⟨gt, 0, none⟩) 4 ct) 4 (ts[k].flatMap encI))
          clear s0 s1 a0 a1 b2' q0 q1 q2 af6 rf6 hw7 lsc lac lrc
          have a0 : w7.cell? ⟨w.heap.size, 0, none⟩ = some (.int .i64 cap) := by rw [K7.out.cell]; rfl
          have a1 : w7.cell? ⟨w.heap.size, 1, none⟩ = some (.slice A9 ps.length c9) := by rw [K7.out.cell]; rfl
          have a2 : w7.cell? ⟨w.heap.size, 2, none⟩ = some (.slice (some ⟨g, 0, none⟩) (n + 1) gc) := by rw [K7.out.cell]; rfl
          have q0 : w7.cell? ⟨w.heap.size + 1, 0, none⟩ = some (.int .i64 0) := by rw [R7.out.cell]; rfl
          have q1 : w7.cell? ⟨w.heap.size + 1, 1, none⟩ = some (.slice none 0 0) := by rw [R7.out.cell]; rfl
          have q2 : w7.cell? ⟨w.heap.size + 1, 2, none⟩ = some (.slice none 0 0) := by rw [R7.out.cell]; rfl
          have rf7 := R7.out.free
          have lac := K7.out.lt
          have lrc := R7.out.lt
          refine wp_region_held_drew (S := fun w' => w'.cell? ⟨w.heap.size, 0, none⟩ = some (.int .i64 cap) ∧ w'.cell? ⟨w.heap.size, 1, none⟩ = some (.slice A9 ps.length c9) ∧ w'.cell? ⟨w.heap.size, 2, none⟩ = some (.slice (some ⟨g, 0, none⟩) (n + 1) gc)) (by kernel_rfl) ?_ (fun hHelddr => ?_)
          · exact ⟨a0, a1, a2⟩
          refine wpAnyH_take (i := 0) (oi := { dst := some 73, op := Op.load 28 (Operand.tmp 2), type := 28, pos := "ref.go:147", after := _, guard := none }) (v := ?vdr0) rfl (by kernel_rfl) (by kernel_rfl) (by kernel_rfl) (fun _ _ _ h => h) (Or.inl ⟨by rfl, ?hydr0⟩) (by assumption) ?restdr0
          case hydr0 => (intro w hSw; (try dsimp only at hSw); go_simp <;> with_reducible rfl)
          try simp only [Act.put, List.setIfInBounds_toArray, List.set_cons_zero, List.set_cons_succ]
          refine wpAnyH_take (i := 1) (oi := { dst := some 74, op := Op.fieldAddr 28 (Operand.tmp 2) 1, type := 0, pos := "ref.go:147", after := _, guard := none }) (v := ?vdr1) rfl (by kernel_rfl) (by kernel_rfl) (by kernel_rfl) (fun _ _ _ h => h) (Or.inl ⟨by rfl, ?hydr1⟩) (by assumption) ?restdr1
          case hydr1 => (intro w hSw; (try dsimp only at hSw); go_simp <;> with_reducible rfl)
          try simp only [Act.put, List.setIfInBounds_toArray, List.set_cons_zero, List.set_cons_succ]
          refine wpAnyH_take (i := 2) (oi := { dst := some 75, op := Op.load 26 (Operand.tmp 74), type := 26, pos := "ref.go:147", after := _, guard := none }) (v := ?vdr2) rfl (by kernel_rfl) (by kernel_rfl) (by kernel_rfl) (fun _ _ _ h => h) (Or.inl ⟨by rfl, ?hydr2⟩) (by assumption) ?restdr2
          case hydr2 => (intro w hSw; (try dsimp only at hSw); go_simp <;> with_reducible rfl)
          try simp only [Act.put, List.setIfInBounds_toArray, List.set_cons_zero, List.set_cons_succ]
          refine wpAnyH_take (i := 3) (oi := { dst := some 76, op := Op.call { callee := Callee.builtin Builtin.len, args := #[Operand.tmp 75], argTypes := #[26] }, type := 3, pos := "ref.go:147", after := _, guard := none }) (v := ?vdr3) rfl (by kernel_rfl) (by kernel_rfl) (by kernel_rfl) (fun _ _ _ h => h) (Or.inl ⟨by rfl, ?hydr3⟩) (by assumption) ?restdr3
          case hydr3 => (intro w hSw; (try dsimp only at hSw); go_simp <;> with_reducible rfl)
          try simp only [Act.put, List.setIfInBounds_toArray, List.set_cons_zero, List.set_cons_succ]
          refine wpAnyH_take (i := 4) (oi := { dst := some 77, op := Op.binOp BinOp.sub 3 (Operand.tmp 76) (Operand.const (Value.int IntKind.i64 1)) 3, type := 3, pos := "ref.go:147", after := _, guard := none }) (v := .int .i64 (n : Int)) rfl (by kernel_rfl) (by kernel_rfl) (by kernel_rfl) (fun _ _ _ h => h) (Or.inl ⟨by rfl, ?hydr4⟩) (by assumption) ?restdr4
          case hydr4 => (intro w hSw; (try dsimp only at hSw); go_simp <;> first | done | with_reducible rfl | omega | (simp; done) | (simp; omega) | (simp [*]; done) | (simp [*]; omega) | exact decide_eq_false (by omega) | exact decide_eq_true (by omega))
          try simp only [Act.put, List.setIfInBounds_toArray, List.set_cons_zero, List.set_cons_succ]
          refine wpAnyH_ready (rs := [5]) (by kernel_rfl) (by simp) ?_
          refine AllReadyH.cons (o := { dst := none, op := Op.store 28 (Operand.tmp 4) (Operand.tmp 73), type := 0, pos := "ref.go:147", after := _, guard := none }) rfl (fun K hK => ?_) AllReadyH.nil
          go_simp
          skip
          refine hK.out _ _ ?_ (fun hHelddr5 => ?_)
          · (refine ⟨?_, ?_, ?_⟩ <;> (show World.cell? (World.setCell _ _ _) _ = _; rw [World.cell?_setCell_far _ _ _ _ (by simp), World.cell?_setCell_far _ _ _ _ (by simp), World.cell?_setCell_far _ _ _ _ (by simp)]; assumption))
          clear hK K hHelddr
          try simp only [Act.put, List.setIfInBounds_toArray, List.set_cons_zero, List.set_cons_succ]
          refine wpAnyH_take (i := 6) (oi := { dst := some 5, op := Op.assign (Operand.tmp 77), type := 3, pos := "ref.go:147", after := _, guard := none }) (v := ?vdr6) rfl (by kernel_rfl) (by kernel_rfl) (by kernel_rfl) (fun _ _ _ h => h) (Or.inl ⟨by rfl, ?hydr6⟩) (by assumption) ?restdr6
          case hydr6 => (intro w hSw; (try dsimp only at hSw); go_simp <;> with_reducible rfl)
          try simp only [Act.put, List.setIfInBounds_toArray, List.set_cons_zero, List.set_cons_succ]
          refine wpAnyH_take (i := 7) (oi := { dst := some 6, op := Op.assign (Operand.const (Value.int IntKind.i64 0)), type := 31, pos := "ref.go:147", after := _, guard := none }) (v := ?vdr7) rfl (by kernel_rfl) (by kernel_rfl) (by kernel_rfl) (fun _ _ _ h => h) (Or.inl ⟨by rfl, ?hydr7⟩) (by assumption) ?restdr7
          case hydr7 => (intro w hSw; (try dsimp only at hSw); go_simp <;> with_reducible rfl)
          try simp only [Act.put, List.setIfInBounds_toArray, List.set_cons_zero, List.set_cons_succ]
          refine wpAnyH_done (by kernel_rfl) ?_ _
          go_wp2
          refine bodyPost_ret (v := .tuple #[.agg #[.int .i64 cap, .slice A9 ps.length c9, .slice (some ⟨g, 0, none⟩) (n + 1) gc], .int .i64 n, .int .i64 0]) (by simp [results, Try.results20, go_sem, *]) rfl ?_
          rw [HF.out]
          have hS3 : Below w7.heap.size w7 w7 := Below.refl _ _
          have hN := HN.out
          have hN4 := H4.out
          refine ⟨_, by rw [hN], ⟨_, _, rfl, ?_, tvs ++ [.slice (some ⟨gt, 0, none⟩) 4 ct], ?_, tbs_app HTS.out ?_ ?_⟩, ?_⟩
          · rw [each_shareL_len, ← HALL.out]
            exact (((S7.out.far (p := ⟨w.heap.size + 1, 0, none⟩) (by simp) (by simp; omega) _).far (p := ⟨w.heap.size + 1, 1, none⟩) (by simp) (by simp; omega) _).far (p := ⟨w.heap.size + 1, 2, none⟩) (by simp) (by simp; omega) _).1
          · rw [List.length_append, List.length_singleton, ← hN]
            exact Sl.of_own (ownsRow_setCell_below (ownsRow_setCell_below (ownsRow_setCell_below O7.out (a := ⟨w.heap.size + 1, 0, none⟩) (by simp; omega) _) (a := ⟨w.heap.size + 1, 1, none⟩) (by simp; omega) _) (a := ⟨w.heap.size + 1, 2, none⟩) (by simp; omega) _)
          · exact (((X7.out.setCell (p := ⟨w.heap.size + 1, 0, none⟩) (by simp) _).setCell (p := ⟨w.heap.size + 1, 1, none⟩) (by simp) _).setCell (p := ⟨w.heap.size + 1, 2, none⟩) (by simp) _).drew
          · rw [hN4]
            exact Sl.of_own (ownsRow_setCell_below (ownsRow_setCell_below (ownsRow_setCell_below T7.out (a := ⟨w.heap.size + 1, 0, none⟩) (by simp; omega) _) (a := ⟨w.heap.size + 1, 1, none⟩) (by simp; omega) _) (a := ⟨w.heap.size + 1, 2, none⟩) (by simp; omega) _)
          · exact (((X7.out.setCell (p := ⟨w.heap.size + 1, 0, none⟩) (by simp) _).setCell (p := ⟨w.heap.size + 1, 1, none⟩) (by simp) _).setCell (p := ⟨w.heap.size + 1, 2, none⟩) (by simp) _).drew
end Go.Proofs.Ytoogobenjhmjjaa
namespace Go.Proofs.Ytoogobenjhmjjaa
open Go Go.RowKit
set_option linter.unusedVariables false
attribute [local go_sem ↓] Go.wp_at_zero Go.wp_at_succ

theorem Sl.blk_lt {w : World} {k n : Nat} {v : Value} {vs : List Value} (h : Sl w k v n vs) (hn : 0 < n) (g : Nat) (hg : v.ownBlock = some g) : g < w.heap.size := by
  obtain ⟨hl, ⟨rfl, h0⟩ | ⟨a, c, rfl, hc, hm, hr⟩⟩ := h
  · omega
  · have := (hr hn).2.1
    simp [Value.ownBlock] at hg
    omega

set_option maxRecDepth 100000 in
set_option maxHeartbeats 16000000 in
theorem rDrop_any (x : Value) (cap : Int) (ps : List Pg) (ts : List (List Int)) (t : Int) (w : World) (hv : HpV w x cap ps ts) (hn : ps.length ≤ 990) (hm : ts.length ≤ 1000) (hl : ∀ t ∈ ts, t.length ≤ 1000) :
    Calls Try.prog 22 #[x, .int .i64 t] w (RefH2 cap (dropH cap ps ts t).2.1 (dropH cap ps ts t).2.2.1 (dropH cap ps ts t).2.2.2 w) := by
  obtain ⟨i0, hi0, iz0, iz1, iz2⟩ := info_parts clone_tabs_info
  obtain ⟨i1, hi1, iy0, iy1, iy2⟩ := info_parts clone_ints_info
  obtain ⟨A, c, B, d, rfl, hv⟩ := hv.form
  have cW := fun u W h => rwhy_any u cap ps ts t 0 W h (by omega) hl
  by_cases h0 : whyH cap ps ts t 0 = 0
  case neg =>
    rw [show dropH cap ps ts t = (-1, whyH cap ps ts t 0, ps, ts) from by unfold dropH; rw [if_neg h0]]
    generalize whyH cap ps ts t 0 = er at *
    have h0' : (er != 0) = true := by rw [bne_iff_ne]; exact h0
    clear h0 hl
    go_enter Try.func22, Try.ntmps22
    go_wp2_with fail
    refine (cW _ _ (hv.keep (by repeat (first | assumption | exact Below.refl _ _ | refine Below.alloc ?_ (by first | omega | (simp; done) | (simp; omega)) _ | refine Below.setCell ?_ (by first | omega | (simp; done) | (simp; omega)) _ | refine Below.drew ?_)))).mono ?_
    rintro e w1 ⟨rfl, hb1⟩
    have hz1 := hb1.size
    try simp at hz1
    have hY1 : Below w.heap.size w w1 := Below.trans (by repeat (first | assumption | exact Below.refl _ _ | refine Below.alloc ?_ (by first | omega | (simp; done) | (simp; omega)) _ | refine Below.setCell ?_ (by first | omega | (simp; done) | (simp; omega)) _ | refine Below.drew ?_)) (hb1.mono (by first | omega | (simp; done) | (simp; omega)))
    obtain ⟨hc1, hf1⟩ := bcell hb1
    have z1_0 : w.heap.size < w1.heap.size := by omega
    have z1_1 : w.heap.size + 1 < w1.heap.size := by omega
    have HB1 := Lib.hid hb1
    clear hb1
    go_wp2
    refine bodyPost_ret (v := .tuple #[.agg #[.int .i64 cap, .slice A ps.length c, .slice B ts.length d], .int .i64 er]) (by simp [results, Try.results22, go_sem, *]) rfl ⟨_, rfl, hv.keep (by repeat (first | assumption | exact Below.refl _ _ | refine Below.alloc ?_ (by first | omega | (simp; done) | (simp; omega)) _ | refine Below.setCell ?_ (by first | omega | (simp; done) | (simp; omega)) _ | refine Below.drew ?_)), (by repeat (first | assumption | exact Below.refl _ _ | refine Below.alloc ?_ (by first | omega | (simp; done) | (simp; omega)) _ | refine Below.setCell ?_ (by first | omega | (simp; done) | (simp; omega)) _ | refine Below.drew ?_))⟩
  case pos =>
    obtain ⟨hmy, k, rfl, hk, htab, hne, ha0, ha1⟩ := why_ok h0
    have hM := mayH_iff.1 hmy
    have h4 := hM.four hk hne
    obtain ⟨b, o, rfl, hb, hel⟩ := hv.tabs.elem (by omega)
    obtain ⟨Ak, ck, e0, hsl⟩ := hel k hk
    obtain ⟨b2, o2, rfl, hb2, hel2⟩ := ints_elem hsl (by omega)
    obtain ⟨tvs, hT, hTS⟩ := hv.tabs
    have hTC : ∀ (W : World), Below w.heap.size w W → ∀ j u, tvs[j]? = some u → W.cell? ((⟨b, o, none⟩ : Addr).add j) = some u := by
      intro W hW
      refine news_of_cells fun j u hu => (hW.cell (p := ⟨b, o + j, none⟩) hb).trans ?_
      rcases hT.2 with ⟨he, _⟩ | ⟨a, c', he, _, _, hr⟩
      · cases he
      · injection he with h1 _ _
        injection h1 with h1
        subst h1
        exact ((hr (by omega)).2).2 j u hu
    have hone : ∀ u ∈ tvs, u.oneCell' = true := fun u hu => by
      obtain ⟨j, hj, rfl⟩ := List.getElem_of_mem hu
      obtain ⟨A3, c3, e3, _, _⟩ := (hTS.2 j _ _ (List.getElem?_eq_getElem hj) (List.getElem?_eq_getElem (by have := hTS.1; omega))).form
      rw [e3]; rfl
    have hTl : tvs.length = ts.length * 1 := by have := hTS.1; omega
    have hpl := fun j (hj : j < ts[k].length) => hM.place hk hj
    have hst := fun j (hj : j < ts[k].length) q (e : ts[k][j] = ((q : Nat) : Int)) => hM.free_step hk hj e
    rw [h4] at e0
    have HF := Lib.hid (show dropH cap ps ts (k : Int) = ((k : Int), 0, each_freeL cap ps (pgs ts[k]), ts.set k []) from by
      unfold dropH dropS
      rw [if_pos h0, Int.toNat_natCast, List.getD_eq_getElem?_getD, List.getElem?_eq_getElem hk]; rfl)
    obtain ⟨n, hn2⟩ : ∃ n, n = ts.length := ⟨_, rfl⟩
    have HPL := Lib.hid hpl
    have HSTP := Lib.hid hst
    have HTC := Lib.hid hTC
    have HTS := Lib.hid hTS
    have HONE := Lib.hid hone
    have HV := Lib.hid hv
    have H4 := Lib.hid h4
    have HE2 := Lib.hid hel2
    have hk0 : (0 : Int) ≤ (k : Int) := by omega
    have hk1 : (k : Int) < (n : Int) := by omega
    have cS := fun (j : Nat) (p : Int) u W (h : StV W u cap (each_freeL cap ps (pgsK (ts[k]'hk) j))) => RFree_any u cap p _ W h (by rw [each_freeL_len]; omega)
    have CS := Lib.hid cS
    have hkn : k < n := by omega
    rw [h0] at cW
    have hvk := fun W h => hv.keep (w' := W) h
    rw [← hn2] at hm hTl hvk ⊢
    have CW := Lib.hid (fun W h => cW _ W (hvk W h))
    have HN := Lib.hid hn2
    have HTL := Lib.hid hTl
    have hbig : (n : Int) ≤ 1000 := by omega
    clear hel hel2 hsl hmy htab hne h0 hM hl hT hTS hpl hst hTC hone hTl h4 cS cW hv hvk hn2
    go_enter Try.func22, Try.ntmps22
    go_wp2_with fail
    refine (CW.out _ (by repeat (first | assumption | exact Below.refl _ _ | refine Below.alloc ?_ (by first | omega | (simp; done) | (simp; omega)) _ | refine Below.setCell ?_ (by first | omega | (simp; done) | (simp; omega)) _ | refine Below.drew ?_))).mono ?_
    rintro e w1 ⟨rfl, hb1⟩
    have hz1 := hb1.size
    try simp at hz1
    have hY1 : Below w.heap.size w w1 := Below.trans (by repeat (first | assumption | exact Below.refl _ _ | refine Below.alloc ?_ (by first | omega | (simp; done) | (simp; omega)) _ | refine Below.setCell ?_ (by first | omega | (simp; done) | (simp; omega)) _ | refine Below.drew ?_)) (hb1.mono (by first | omega | (simp; done) | (simp; omega)))
    obtain ⟨hc1, hf1⟩ := bcell hb1
    have z1_0 : w.heap.size < w1.heap.size := by omega
    have z1_1 : w.heap.size + 1 < w1.heap.size := by omega
    have HB1 := Lib.hid hb1
    clear hb1
    have x1_0 := (hY1.cell (p := ⟨b, o + k, none⟩) hb).trans e0
    have y1_0 : b < w1.heap.size := by omega
    go_wp2_with fail
    go_loopg [8] 4 (fun gg s9 wr => ∃ j : Nat, j ≤ 4 ∧ 4 - j ≤ gg ∧ s9 = .int .i64 j ∧ Hid (ForkIFree w w1 wr b o n d A ps c cap ts[k] j))
    case atStart =>
      refine ⟨0, Nat.zero_le _, by omega, rfl, ?_⟩
      refine ⟨(by repeat (first | assumption | exact Below.refl _ _ | refine Below.alloc ?_ (by first | omega | (simp; done) | (simp; omega)) _ | refine Below.setCell ?_ (by first | omega | (simp; done) | (simp; omega)) _ | refine Below.drew ?_)), (((Blk.new_ w 28 _ _ rfl).alloc _).keep HB1.out).alloc _, ((Blk.new_ _ _ _ _ (by simp)).keep HB1.out).alloc _, A, c, Blk.new_ _ _ _ _ rfl, ?_⟩
      have hs0 := HV.out.store.sl
      exact ((SlX.of (hi := w1.heap.size + 1) hs0).below hY1).alloc _
    case round =>
      obtain ⟨j, hj, hg, rfl, HI⟩ := hrel
      obtain ⟨hX, kA, kR, A9, c9, kS, hSX⟩ := HI.out
      have HSX := Lib.hid hSX
      have HKA := Lib.hid kA
      have HKR := Lib.hid kR
      have HKS := Lib.hid kS
      have a0 : wr.cell? ⟨w.heap.size, 0, none⟩ = some (.int .i64 cap) := by rw [kA.cell]; rfl
      have a1 : wr.cell? ⟨w.heap.size, 1, none⟩ = some (.slice A ps.length c) := by rw [kA.cell]; rfl
      have a2 : wr.cell? ⟨w.heap.size, 2, none⟩ = some (.slice (some ⟨b, o, none⟩) n d) := by rw [kA.cell]; rfl
      have s0 : wr.cell? ⟨w1.heap.size, 0, none⟩ = some (.int .i64 cap) := by rw [kS.cell]; rfl
      have s1 : wr.cell? ⟨w1.heap.size, 1, none⟩ = some (.slice A9 ps.length c9) := by rw [kS.cell]; rfl
      have sf := kS.free
      have af := kA.free
      have rf := kR.free
      have ls := kS.lt
      have la := kA.lt
      have lr := kR.lt
      have r0 := kR.cell
      have f0 := (hX.cell (p := ⟨b, o + k, none⟩) hb).trans e0
      have lb : b < wr.heap.size := Nat.lt_of_lt_of_le hb hX.size
      have lb2 : b2 < wr.heap.size := Nat.lt_of_lt_of_le hb2 hX.size
      have HX := Lib.hid hX
      clear hX kA kR kS hSX HI x1_0 y1_0 e0
      by_cases hlt : j < 4
      · have hjk : j < ts[k].length := by have := H4.out; omega
        have f1 := (HX.out.cell (p := ⟨b2, o2 + j, none⟩) hb2).trans (HE2.out j hjk)
        have hj0 : (0 : Int) ≤ (j : Int) := by omega
        have hj1 : (j : Int) < 4 := by omega
        have hP := HPL.out j hjk
        have hQ := fun q e => HSTP.out j hjk q e
        have hN0 := fun e : ts[k][j] = -1 => pgsK_none hjk e
        obtain ⟨y, hy⟩ : ∃ y, y = ts[k][j] := ⟨_, rfl⟩
        rw [← hy] at f1
        have HQ := Lib.hid hQ
        have HN0 := Lib.hid hN0
        have HY := Lib.hid hy
        have HP := Lib.hid hP
        clear hQ hN0 hy hP
        by_cases hy0 : 0 ≤ y
        · obtain ⟨q, rfl⟩ := Int.eq_ofNat_of_zero_le hy0
          have HSH := Lib.hid (HQ.out q HY.out.symm)
          have hC := fun u W h => CS.out j (q : Int) u W h
          rw [HSH.out] at hC
          have HC := Lib.hid hC
          have HSF := Lib.hid (fun (W : World) (h : Below wr.heap.size wr W) => (show W.cell? ⟨w1.heap.size, 0, none⟩ = some (.int .i64 cap) ∧ W.cell? ⟨w1.heap.size, 1, none⟩ = some (.slice A9 ps.length c9) ∧ W.cell? ⟨w.heap.size, 2, none⟩ = some (.slice (some ⟨b, o, none⟩) n d) ∧ W.cell? ⟨b, o + k, none⟩ = some (.slice (some ⟨b2, o2, none⟩) 4 ck) ∧ W.cell? ⟨b2, o2 + j, none⟩ = some (.int .i64 (q : Int)) from ⟨(h.cell (p := ⟨w1.heap.size, 0, none⟩) ls).trans s0, (h.cell (p := ⟨w1.heap.size, 1, none⟩) ls).trans s1, (h.cell (p := ⟨w.heap.size, 2, none⟩) la).trans a2, (h.cell (p := ⟨b, o + k, none⟩) lb).trans f0, (h.cell (p := ⟨b2, o2 + j, none⟩) lb2).trans f1⟩))
          clear hC a0 a1 rf af r0
          go_upto_region 9 with fail
          go_cut [9] (fun s10 wx => ∃ g A3 c3, s10 = .pointer (some ⟨g, 0, none⟩) ∧ wr.heap.size ≤ g ∧ Hid (Below wr.heap.size wr wx) ∧ Hid (Blk wx g 25 #[.int .i64 cap, .slice A3 ps.length c3]) ∧ Hid (SlX wx w.heap.size (w1.heap.size + 1) 5 (.slice A3 ps.length c3) ps.length ((each_freeL cap ps (pgsK ts[k] (j + 1))).flatMap encP)))
          case first =>
            clear s0 s1 a2 f0 f1
            refine wp_region_held_drew (S := fun w' => w'.cell? ⟨w1.heap.size, 0, none⟩ = some (.int .i64 cap) ∧ w'.cell? ⟨w1.heap.size, 1, none⟩ = some (.slice A9 ps.length c9) ∧ w'.cell? ⟨w.heap.size, 2, none⟩ = some (.slice (some ⟨b, o, none⟩) n d) ∧ w'.cell? ⟨b, o + k, none⟩ = some (.slice (some ⟨b2, o2, none⟩) 4 ck) ∧ w'.cell? ⟨b2, o2 + j, none⟩ = some (.int .i64 (q : Int))) (by kernel_rfl) ?_ (fun hHeldbr => ?_)
            · exact HSF.out _ (Below.refl _ _).drew
            refine wpAnyH_take (i := 0) (oi := { dst := some 40, op := Op.load 25 (Operand.tmp 7), type := 25, pos := "ref.go:159", after := _, guard := none }) (v := ?vbr0b1) rfl (by kernel_rfl) (by kernel_rfl) (by kernel_rfl) (fun _ _ _ h => h) (Or.inl ⟨by rfl, ?hybr0b1⟩) (by assumption) ?restbr0b1
            case hybr0b1 => (intro w hSw; (try dsimp only at hSw); go_simp <;> with_reducible rfl)
            try simp only [Act.put, List.setIfInBounds_toArray, List.set_cons_zero, List.set_cons_succ]
            refine wpAnyH_take (i := 1) (oi := { dst := some 41, op := Op.fieldAddr 28 (Operand.tmp 2) 1, type := 0, pos := "ref.go:159", after := _, guard := none }) (v := ?vbr1b2) rfl (by kernel_rfl) (by kernel_rfl) (by kernel_rfl) (fun _ _ _ h => h) (Or.inl ⟨by rfl, ?hybr1b2⟩) (by assumption) ?restbr1b2
            case hybr1b2 => (intro w hSw; (try dsimp only at hSw); go_simp <;> with_reducible rfl)
            try simp only [Act.put, List.setIfInBounds_toArray, List.set_cons_zero, List.set_cons_succ]
            refine wpAnyH_take (i := 2) (oi := { dst := some 42, op := Op.load 26 (Operand.tmp 41), type := 26, pos := "ref.go:159", after := _, guard := none }) (v := ?vbr2b3) rfl (by kernel_rfl) (by kernel_rfl) (by kernel_rfl) (fun _ _ _ h => h) (Or.inl ⟨by rfl, ?hybr2b3⟩) (by assumption) ?restbr2b3
            case hybr2b3 => (intro w hSw; (try dsimp only at hSw); go_simp <;> with_reducible rfl)
            try simp only [Act.put, List.setIfInBounds_toArray, List.set_cons_zero, List.set_cons_succ]
            refine wpAnyH_take (i := 3) (oi := { dst := some 43, op := Op.move (Operand.tmp 1), type := 3, pos := "ref.go:159", after := _, guard := none }) (v := ?vbr3b4) rfl (by kernel_rfl) (by kernel_rfl) (by kernel_rfl) (fun _ _ _ h => h) (Or.inl ⟨by rfl, ?hybr3b4⟩) (by assumption) ?restbr3b4
            case hybr3b4 => (intro w hSw; (try dsimp only at hSw); go_simp <;> with_reducible rfl)
            try simp only [Act.put, List.setIfInBounds_toArray, List.set_cons_zero, List.set_cons_succ]
            refine wpAnyH_take (i := 4) (oi := { dst := some 44, op := Op.indexAddr 26 (Operand.tmp 42) (Operand.tmp 43), type := 0, pos := "ref.go:159", after := _, guard := none }) (v := ?vbr4b5) rfl (by kernel_rfl) (by kernel_rfl) (by kernel_rfl) (fun _ _ _ h => h) (Or.inl ⟨by rfl, ?hybr4b5⟩) (by assumption) ?restbr4b5
            case hybr4b5 => (intro w hSw; (try dsimp only at hSw); go_simp <;> with_reducible rfl)
            try simp only [Act.put, List.setIfInBounds_toArray, List.set_cons_zero, List.set_cons_succ]
            refine wpAnyH_take (i := 5) (oi := { dst := some 45, op := Op.load 47 (Operand.tmp 44), type := 47, pos := "ref.go:159", after := _, guard := none }) (v := ?vbr5b6) rfl (by kernel_rfl) (by kernel_rfl) (by kernel_rfl) (fun _ _ _ h => h) (Or.inl ⟨by rfl, ?hybr5b6⟩) (by assumption) ?restbr5b6
            case hybr5b6 => (intro w hSw; (try dsimp only at hSw); go_simp <;> with_reducible rfl)
            try simp only [Act.put, List.setIfInBounds_toArray, List.set_cons_zero, List.set_cons_succ]
            refine wpAnyH_take (i := 6) (oi := { dst := some 46, op := Op.move (Operand.tmp 8), type := 3, pos := "ref.go:159", after := _, guard := none }) (v := ?vbr6b7) rfl (by kernel_rfl) (by kernel_rfl) (by kernel_rfl) (fun _ _ _ h => h) (Or.inl ⟨by rfl, ?hybr6b7⟩) (by assumption) ?restbr6b7
            case hybr6b7 => (intro w hSw; (try dsimp only at hSw); go_simp <;> with_reducible rfl)
            try simp only [Act.put, List.setIfInBounds_toArray, List.set_cons_zero, List.set_cons_succ]
            refine wpAnyH_take (i := 7) (oi := { dst := some 47, op := Op.indexAddr 47 (Operand.tmp 45) (Operand.tmp 46), type := 0, pos := "ref.go:159", after := _, guard := none }) (v := ?vbr7b8) rfl (by kernel_rfl) (by kernel_rfl) (by kernel_rfl) (fun _ _ _ h => h) (Or.inl ⟨by rfl, ?hybr7b8⟩) (by assumption) ?restbr7b8
            case hybr7b8 => (intro w hSw; (try dsimp only at hSw); go_simp <;> with_reducible rfl)
            try simp only [Act.put, List.setIfInBounds_toArray, List.set_cons_zero, List.set_cons_succ]
            refine wpAnyH_take (i := 8) (oi := { dst := some 48, op := Op.load 3 (Operand.tmp 47), type := 3, pos := "ref.go:159", after := _, guard := none }) (v := ?vbr8b9) rfl (by kernel_rfl) (by kernel_rfl) (by kernel_rfl) (fun _ _ _ h => h) (Or.inl ⟨by rfl, ?hybr8b9⟩) (by assumption) ?restbr8b9
            case hybr8b9 => (intro w hSw; (try dsimp only at hSw); go_simp <;> with_reducible rfl)
            try simp only [Act.put, List.setIfInBounds_toArray, List.set_cons_zero, List.set_cons_succ]
            refine wpAnyH_ready (rs := [9, 13]) (by kernel_rfl) (by simp) ?_
            refine AllReadyH.cons (o := { dst := some 49, op := Op.call { callee := Callee.value (Operand.func 47), args := #[Operand.tmp 40, Operand.tmp 48], argTypes := #[25, 3] }, type := 76, pos := "ref.go:159", after := _, guard := none }) rfl (fun K hK => ?_) ?_
            · go_simp
              refine (HC.out _ _ ⟨_, rfl, by rw [each_freeL_len]; exact (HSX.out.below (by repeat (first | assumption | exact Below.refl _ _ | refine Below.drew ?_ | refine Below.alloc ?_ (by first | omega | (simp; done) | (simp; omega)) _ | refine Below.setCell ?_ (by first | omega | (simp; done) | (simp; omega)) _))).1⟩).mono ?_
              rintro x w3 ⟨v3, rfl, ⟨-, hso⟩, hb3⟩
              obtain ⟨p3, rfl, hsn⟩ := hso rfl
              clear hso
              simp only [each_freeL_len] at hsn
              obtain ⟨A3, c3, rfl, _, _⟩ := (Sl.of_own hsn).form
              have BX : Below wr.heap.size wr w3 := Below.trans (by repeat (first | assumption | exact Below.refl _ _ | refine Below.drew ?_ | refine Below.alloc ?_ (by first | omega | (simp; done) | (simp; omega)) _ | refine Below.setCell ?_ (by first | omega | (simp; done) | (simp; omega)) _)) (hb3.mono (by first | (simp; done) | (simp; omega)))
              have hzz := BX.size
              obtain ⟨hc3, hf3⟩ := bcell hb3
              have hz3 := hb3.size
              simp at hz3
              have HSO := Lib.hid hsn
              have HB3 := Lib.hid hb3
              clear hb3 hsn
              try go_wp2_with fail
              refine hK.out _ _ ?_ (fun hHeldbr9b10 => ?_)
              · exact HSF.out _ BX
              clear hK K hHeldbr
              try simp only [Act.put, List.setIfInBounds_toArray, List.set_cons_zero, List.set_cons_succ]
              refine wpAnyH_take (i := 10) (oi := { dst := some 39, op := Op.move (Operand.tmp 49), type := 76, pos := "ref.go:159", after := _, guard := none }) (v := ?vbr10b11) rfl (by kernel_rfl) (by kernel_rfl) (by kernel_rfl) (fun _ _ _ h => h) (Or.inl ⟨by rfl, ?hybr10b11⟩) (by assumption) ?restbr10b11
              case hybr10b11 => (intro w hSw; (try dsimp only at hSw); go_simp <;> with_reducible rfl)
              try simp only [Act.put, List.setIfInBounds_toArray, List.set_cons_zero, List.set_cons_succ]
              refine wpAnyH_take (i := 11) (oi := { dst := some 50, op := Op.extract (Operand.tmp 39) 0, type := 25, pos := "ref.go:159", after := _, guard := none }) (v := ?vbr11b12) rfl (by kernel_rfl) (by kernel_rfl) (by kernel_rfl) (fun _ _ _ h => h) (Or.inl ⟨by rfl, ?hybr11b12⟩) (by assumption) ?restbr11b12
              case hybr11b12 => (intro w hSw; (try dsimp only at hSw); go_simp <;> with_reducible rfl)
              try simp only [Act.put, List.setIfInBounds_toArray, List.set_cons_zero, List.set_cons_succ]
              refine wpAnyH_take (i := 12) (oi := { dst := some 51, op := Op.extract (Operand.tmp 39) 1, type := 31, pos := "ref.go:159", after := _, guard := none }) (v := ?vbr12b13) rfl (by kernel_rfl) (by kernel_rfl) (by kernel_rfl) (fun _ _ _ h => h) (Or.inl ⟨by rfl, ?hybr12b13⟩) (by assumption) ?restbr12b13
              case hybr12b13 => (intro w hSw; (try dsimp only at hSw); go_simp <;> with_reducible rfl)
              try simp only [Act.put, List.setIfInBounds_toArray, List.set_cons_zero, List.set_cons_succ]
              refine wpAnyH_ready (rs := [13]) (by kernel_rfl) (by simp) ?_
              refine AllReadyH.cons (o := { dst := some 9, op := Op.alloc 25, type := 0, pos := "ref.go:159", after := _, guard := none }) rfl (fun K hK => ?_) AllReadyH.nil
              go_simp
              skip
              refine hK.out _ _ ?_ (fun hHeldbr13b14 => ?_)
              · exact HSF.out _ (by repeat (first | assumption | exact Below.refl _ _ | refine Below.drew ?_ | refine Below.alloc ?_ (by first | omega | (simp; done) | (simp; omega)) _ | refine Below.setCell ?_ (by first | omega | (simp; done) | (simp; omega)) _))
              clear hK K hHeldbr9b10
              try simp only [Act.put, List.setIfInBounds_toArray, List.set_cons_zero, List.set_cons_succ]
              refine wpAnyH_ready (rs := [14]) (by kernel_rfl) (by simp) ?_
              refine AllReadyH.cons (o := { dst := none, op := Op.store 25 (Operand.tmp 9) (Operand.tmp 50), type := 0, pos := "ref.go:159", after := _, guard := none }) rfl (fun K hK => ?_) AllReadyH.nil
              go_simp
              skip
              refine hK.out _ _ ?_ (fun hHeldbr14b15 => ?_)
              · exact HSF.out _ (by repeat (first | assumption | exact Below.refl _ _ | refine Below.drew ?_ | refine Below.alloc ?_ (by first | omega | (simp; done) | (simp; omega)) _ | refine Below.setCell ?_ (by first | omega | (simp; done) | (simp; omega)) _))
              clear hK K hHeldbr13b14
              try simp only [Act.put, List.setIfInBounds_toArray, List.set_cons_zero, List.set_cons_succ]
              refine wpAnyH_take (i := 15) (oi := { dst := some 10, op := Op.assign (Operand.tmp 51), type := 31, pos := "ref.go:159", after := _, guard := none }) (v := ?vbr15b16) rfl (by kernel_rfl) (by kernel_rfl) (by kernel_rfl) (fun _ _ _ h => h) (Or.inl ⟨by rfl, ?hybr15b16⟩) (by assumption) ?restbr15b16
              case hybr15b16 => (intro w hSw; (try dsimp only at hSw); go_simp <;> with_reducible rfl)
              try simp only [Act.put, List.setIfInBounds_toArray, List.set_cons_zero, List.set_cons_succ]
              refine wpAnyH_done (by kernel_rfl) ?_ _
              go_wp2_with fail
              go_meet
              first | exact ⟨_, A3, c3, rfl, by omega, (show Hid _ from (by repeat (first | assumption | exact Below.refl _ _ | refine Below.drew ?_ | refine Below.alloc ?_ (by first | omega | (simp; done) | (simp; omega)) _ | refine Below.setCell ?_ (by first | omega | (simp; done) | (simp; omega)) _))), (show Hid _ from Blk.new_ _ _ _ _ rfl), (show Hid _ from (SlX.own (lo := w.heap.size) HSO.out (by simp; omega)).alloc _)⟩ | exact ⟨_, A3, c3, rfl, by omega, (show Hid _ from (by repeat (first | assumption | exact Below.refl _ _ | refine Below.drew ?_ | refine Below.alloc ?_ (by first | omega | (simp; done) | (simp; omega)) _ | refine Below.setCell ?_ (by first | omega | (simp; done) | (simp; omega)) _))), (show Hid _ from (((Blk.new_ wr.drew 25 _ _ rfl).keep HB3.out).set_ 0 _).set_ 1 _), (show Hid _ from SlX.own (lo := w.heap.size) (hi := w1.heap.size + 1) (ownsRow_setCell_below (ownsRow_setCell_below HSO.out (by simp) _) (by simp) _) (by simp; omega))⟩
            refine AllReadyH.cons (o := { dst := some 9, op := Op.alloc 25, type := 0, pos := "ref.go:159", after := _, guard := none }) rfl (fun K hK => ?_) ?_
            · go_simp
              skip
              refine hK.out _ _ ?_ (fun hHeldbr13b17 => ?_)
              · exact HSF.out _ (by repeat (first | assumption | exact Below.refl _ _ | refine Below.drew ?_ | refine Below.alloc ?_ (by first | omega | (simp; done) | (simp; omega)) _ | refine Below.setCell ?_ (by first | omega | (simp; done) | (simp; omega)) _))
              clear hK K hHeldbr
              try simp only [Act.put, List.setIfInBounds_toArray, List.set_cons_zero, List.set_cons_succ]
              refine wpAnyH_ready (rs := [9]) (by kernel_rfl) (by simp) ?_
              refine AllReadyH.cons (o := { dst := some 49, op := Op.call { callee := Callee.value (Operand.func 47), args := #[Operand.tmp 40, Operand.tmp 48], argTypes := #[25, 3] }, type := 76, pos := "ref.go:159", after := _, guard := none }) rfl (fun K hK => ?_) AllReadyH.nil
              go_simp
              refine (HC.out _ _ ⟨_, rfl, by rw [each_freeL_len]; exact (HSX.out.below (by repeat (first | assumption | exact Below.refl _ _ | refine Below.drew ?_ | refine Below.alloc ?_ (by first | omega | (simp; done) | (simp; omega)) _ | refine Below.setCell ?_ (by first | omega | (simp; done) | (simp; omega)) _))).1⟩).mono ?_
              rintro x w3 ⟨v3, rfl, ⟨-, hso⟩, hb3⟩
              obtain ⟨p3, rfl, hsn⟩ := hso rfl
              clear hso
              simp only [each_freeL_len] at hsn
              obtain ⟨A3, c3, rfl, _, _⟩ := (Sl.of_own hsn).form
              have BX : Below wr.heap.size wr w3 := Below.trans (by repeat (first | assumption | exact Below.refl _ _ | refine Below.drew ?_ | refine Below.alloc ?_ (by first | omega | (simp; done) | (simp; omega)) _ | refine Below.setCell ?_ (by first | omega | (simp; done) | (simp; omega)) _)) (hb3.mono (by first | (simp; done) | (simp; omega)))
              have hzz := BX.size
              obtain ⟨hc3, hf3⟩ := bcell hb3
              have hz3 := hb3.size
              simp at hz3
              have HSO := Lib.hid hsn
              have HB3 := Lib.hid hb3
              clear hb3 hsn
              try go_wp2_with fail
              refine hK.out _ _ ?_ (fun hHeldbr9b18 => ?_)
              · exact HSF.out _ BX
              clear hK K hHeldbr13b17
              try simp only [Act.put, List.setIfInBounds_toArray, List.set_cons_zero, List.set_cons_succ]
              refine wpAnyH_take (i := 10) (oi := { dst := some 39, op := Op.move (Operand.tmp 49), type := 76, pos := "ref.go:159", after := _, guard := none }) (v := ?vbr10b19) rfl (by kernel_rfl) (by kernel_rfl) (by kernel_rfl) (fun _ _ _ h => h) (Or.inl ⟨by rfl, ?hybr10b19⟩) (by assumption) ?restbr10b19
              case hybr10b19 => (intro w hSw; (try dsimp only at hSw); go_simp <;> with_reducible rfl)
              try simp only [Act.put, List.setIfInBounds_toArray, List.set_cons_zero, List.set_cons_succ]
              refine wpAnyH_take (i := 11) (oi := { dst := some 50, op := Op.extract (Operand.tmp 39) 0, type := 25, pos := "ref.go:159", after := _, guard := none }) (v := ?vbr11b20) rfl (by kernel_rfl) (by kernel_rfl) (by kernel_rfl) (fun _ _ _ h => h) (Or.inl ⟨by rfl, ?hybr11b20⟩) (by assumption) ?restbr11b20
              case hybr11b20 => (intro w hSw; (try dsimp only at hSw); go_simp <;> with_reducible rfl)
              try simp only [Act.put, List.setIfInBounds_toArray, List.set_cons_zero, List.set_cons_succ]
              refine wpAnyH_take (i := 12) (oi := { dst := some 51, op := Op.extract (Operand.tmp 39) 1, type := 31, pos := "ref.go:159", after := _, guard := none }) (v := ?vbr12b21) rfl (by kernel_rfl) (by kernel_rfl) (by kernel_rfl) (fun _ _ _ h => h) (Or.inl ⟨by rfl, ?hybr12b21⟩) (by assumption) ?restbr12b21
              case hybr12b21 => (intro w hSw; (try dsimp only at hSw); go_simp <;> with_reducible rfl)
              try simp only [Act.put, List.setIfInBounds_toArray, List.set_cons_zero, List.set_cons_succ]
              refine wpAnyH_ready (rs := [14]) (by kernel_rfl) (by simp) ?_
              refine AllReadyH.cons (o := { dst := none, op := Op.store 25 (Operand.tmp 9) (Operand.tmp 50), type := 0, pos := "ref.go:159", after := _, guard := none }) rfl (fun K hK => ?_) AllReadyH.nil
              go_simp
              skip
              refine hK.out _ _ ?_ (fun hHeldbr14b22 => ?_)
              · exact HSF.out _ (by repeat (first | assumption | exact Below.refl _ _ | refine Below.drew ?_ | refine Below.alloc ?_ (by first | omega | (simp; done) | (simp; omega)) _ | refine Below.setCell ?_ (by first | omega | (simp; done) | (simp; omega)) _))
              clear hK K hHeldbr9b18
              try simp only [Act.put, List.setIfInBounds_toArray, List.set_cons_zero, List.set_cons_succ]
              refine wpAnyH_take (i := 15) (oi := { dst := some 10, op := Op.assign (Operand.tmp 51), type := 31, pos := "ref.go:159", after := _, guard := none }) (v := ?vbr15b23) rfl (by kernel_rfl) (by kernel_rfl) (by kernel_rfl) (fun _ _ _ h => h) (Or.inl ⟨by rfl, ?hybr15b23⟩) (by assumption) ?restbr15b23
              case hybr15b23 => (intro w hSw; (try dsimp only at hSw); go_simp <;> with_reducible rfl)
              try simp only [Act.put, List.setIfInBounds_toArray, List.set_cons_zero, List.set_cons_succ]
              refine wpAnyH_done (by kernel_rfl) ?_ _
              go_wp2_with fail
              go_meet
              first | exact ⟨_, A3, c3, rfl, by omega, (show Hid _ from (by repeat (first | assumption | exact Below.refl _ _ | refine Below.drew ?_ | refine Below.alloc ?_ (by first | omega | (simp; done) | (simp; omega)) _ | refine Below.setCell ?_ (by first | omega | (simp; done) | (simp; omega)) _))), (show Hid _ from Blk.new_ _ _ _ _ rfl), (show Hid _ from (SlX.own (lo := w.heap.size) HSO.out (by simp; omega)).alloc _)⟩ | exact ⟨_, A3, c3, rfl, by omega, (show Hid _ from (by repeat (first | assumption | exact Below.refl _ _ | refine Below.drew ?_ | refine Below.alloc ?_ (by first | omega | (simp; done) | (simp; omega)) _ | refine Below.setCell ?_ (by first | omega | (simp; done) | (simp; omega)) _))), (show Hid _ from (((Blk.new_ wr.drew 25 _ _ rfl).keep HB3.out).set_ 0 _).set_ 1 _), (show Hid _ from SlX.own (lo := w.heap.size) (hi := w1.heap.size + 1) (ownsRow_setCell_below (ownsRow_setCell_below HSO.out (by simp) _) (by simp) _) (by simp; omega))⟩
            exact AllReadyH.nil
          case rest =>
            obtain ⟨g, A3, c3, rfl, hgl, HBX, HKG, HSX3⟩ := hcut
            have kG := HKG.out
            have g0 : wc.cell? ⟨g, 0, none⟩ = some (.int .i64 cap) := by rw [kG.cell]; rfl
            have g1 : wc.cell? ⟨g, 1, none⟩ = some (.slice A3 ps.length c3) := by rw [kG.cell]; rfl
            have t0 := (HBX.out.cell (p := ⟨w1.heap.size, 0, none⟩) ls).trans s0
            have t1 := (HBX.out.cell (p := ⟨w1.heap.size, 1, none⟩) ls).trans s1
            have tf := fun i => (HBX.out.frozen (p := ⟨w1.heap.size, i, none⟩) ls).trans (sf i)
            have l3 : w1.heap.size < wc.heap.size := Nat.lt_of_lt_of_le ls HBX.out.size
            have l4 : ¬ g = w1.heap.size := by omega
            have hzz := HBX.out.size
            clear kG s0 s1 a2 f0 f1 sf HSF
            go_wp2
            go_roundg (4 - (j + 1))
            case measure => omega
            case rel =>
              refine ⟨j + 1, by omega, by omega, by go_num, (show Hid _ from ?_)⟩
              have hS := ((HKS.out.keep HBX.out).set_ 0 (.int .i64 cap)).set_ 1 (.slice A3 ps.length c3)
              refine ⟨?_, ((HKA.out.keep HBX.out).far (p := ⟨w1.heap.size, 0, none⟩) (by simp; omega) _).far (p := ⟨w1.heap.size, 1, none⟩) (by simp; omega) _, ((HKR.out.keep HBX.out).far (p := ⟨w1.heap.size, 0, none⟩) (by simp; omega) _).far (p := ⟨w1.heap.size, 1, none⟩) (by simp; omega) _, A3, c3, hS, ?_⟩
              · exact ((HX.out.trans (HBX.out.mono HX.out.size)).setCell (p := ⟨w1.heap.size, 0, none⟩) (by simp; omega) _).setCell (p := ⟨w1.heap.size, 1, none⟩) (by simp; omega) _
              · exact (HSX3.out.far (p := ⟨w1.heap.size, 0, none⟩) (by simp; omega) (by simp) _).far (p := ⟨w1.heap.size, 1, none⟩) (by simp; omega) (by simp) _
        · obtain rfl : y = -1 := by
            have h1 := HY.out
            rcases HP.out with h | ⟨q, h, _⟩
            · rw [← h1] at h; exact h
            · rw [← h1] at h; omega
          clear a0 a1 rf af r0
          go_wp2
          go_roundg (4 - (j + 1))
          case measure => omega
          case rel => exact ⟨j + 1, by omega, by omega, by go_num, (show Hid _ from ⟨HX.out, HKA.out, HKR.out, A9, c9, HKS.out, by rw [HN0.out HY.out.symm]; exact HSX.out⟩)⟩
      · obtain rfl : j = 4 := by omega
        have HALL := Lib.hid (show pgsK ts[k] 4 = pgs ts[k] from by have := pgsK_all ts[k]; rw [H4.out] at this; exact this)
        clear sf af rf r0 s0 s1 a0 a1
        go_upto_region 12 with (at_builtin; refine wpList_append_own_at _ rfl (.const (.slice none 0 0)) (.tmp 54) _ rfl wr.heap.size 47 i0 _ 1 24 Try.underlying26 hi0 iz0 iz1 iz2 rfl (by omega) (.slice none 0 0) 0 [] rfl (World.ownsRow_nil _ _ _ _) ⟨b, o, none⟩ n d tvs rfl HTL.out (HTC.out _ HX.out) HONE.out (by unfold maxLen; omega) (by omega) (by first | omega | (simp; done) | (simp; omega)) ?_; intro v1 w2 hown hgrow _ _; simp only [Nat.zero_add, List.nil_append] at hown; obtain ⟨g, gc, cur, rfl, hg, hrow, hc1', hc2', hc3', hc4'⟩ := own_form hown (by omega); have BX : Below wr.heap.size wr w2 := (Below.refl _ _).grown hgrow (Nat.le_refl _) (by simp [Value.ownBlock]); have hrlt := hrow.lt; have gfr := hrow.free; have ht' := HTS.out; have hkt : k < tvs.length := (by have := ht'.1; have := HN.out; omega); have gk : w2.cell? ⟨g, k, none⟩ = some tvs[k] := (by have := hown.cells (g := g) rfl k _ (List.getElem?_eq_getElem hkt); rwa [add_none, Nat.zero_add] at this); have HO := Lib.hid hown; have HBX := Lib.hid BX; have kA2 := HKA.out.keep BX; have kR2 := HKR.out.keep BX; have kS2 := HKS.out.keep BX; have a0 := kA2.cell; have af := kA2.free; have r0 := kR2.cell; have rf := kR2.free; have s0 := kS2.cell; have sf := kS2.free; have l1 := kA2.lt; have l2 := kR2.lt; have l3 := kS2.lt; have hzz := BX.size; have hxz := HX.out.size; have HA2 := Lib.hid kA2; have HR2 := Lib.hid kR2; have HS2 := Lib.hid kS2; have n1 : ¬ g = w.heap.size := (by omega); have n2 : ¬ g = w.heap.size + 1 := (by omega); have n3 : ¬ g = w1.heap.size := (by omega); have n4 : ¬ w.heap.size = g := (by omega); have n5 : ¬ w.heap.size + 1 = g := (by omega); have n6 : ¬ w1.heap.size = g := (by omega); have n7 : ¬ w1.heap.size = w.heap.size := (by omega); have n8 : ¬ w1.heap.size = w.heap.size + 1 := (by omega); clear hown hgrow hrow hc1' hc2' hc3' hc4' BX kA2 kR2 kS2 ht' la lr ls a2)
        go_wp2
        refine bodyPost_ret (v := .tuple #[.agg #[.int .i64 cap, .slice A9 ps.length c9, .slice (some ⟨g, 0, none⟩) n gc], .int .i64 0]) (by simp [results, Try.results22, go_sem, *]) rfl ?_
        rw [HF.out]
        have hN := HN.out
        have lww := HKR.out.lt
        have hX2 : Below w.heap.size w w2 := HX.out.trans (HBX.out.mono HX.out.size)
        have hSl := (HSX.out.below HBX.out).1
        have hno : 0 < ps.length → ∀ q, (Value.slice A9 ps.length c9).ownBlock = some q → q ≠ w.heap.size ∧ q ≠ w.heap.size + 1 ∧ q ≠ g := fun hn q hq => by
          have h1 := HSX.out.2 hn q hq
          have h2 := HSX.out.1.blk_lt hn q hq
          omega
        have hYF : Below w.heap.size w (((((((w2.setCell ⟨w.heap.size, 2, none⟩ (.slice (some ⟨g, 0, none⟩) n gc)).setCell ⟨g, k, none⟩ (.slice none 0 0)).setCell ⟨w.heap.size, 0, none⟩ (.int .i64 cap)).setCell ⟨w.heap.size, 1, none⟩ (.slice A9 ps.length c9)).setCell ⟨w.heap.size + 1, 0, none⟩ (.int .i64 cap)).setCell ⟨w.heap.size + 1, 1, none⟩ (.slice A9 ps.length c9)).setCell ⟨w.heap.size + 1, 2, none⟩ (.slice (some ⟨g, 0, none⟩) n gc)) := ((((((hX2.setCell (by simp) _).setCell (by simp; omega) _).setCell (by simp) _).setCell (by simp) _).setCell (by simp) _).setCell (by simp) _).setCell (by simp) _
        refine ⟨_, rfl, ⟨_, _, rfl, ?_, tvs.set k (.slice none 0 0), ?_, tbs_set HTS.out hYF hk (Sl.nil _ _)⟩, hYF⟩
        · rw [each_freeL_len, ← HALL.out]
          exact ((((((hSl.far (fun h e => (hno h _ e).1 rfl) _).far (fun h e => (hno h _ e).2.2 rfl) _).far (fun h e => (hno h _ e).1 rfl) _).far (fun h e => (hno h _ e).1 rfl) _).far (fun h e => (hno h _ e).2.1 rfl) _).far (fun h e => (hno h _ e).2.1 rfl) _).far (fun h e => (hno h _ e).2.1 rfl) _
        · rw [List.length_set, ← hN]
          exact Sl.of_own (ownsRow_setCell_below (ownsRow_setCell_below (ownsRow_setCell_below (ownsRow_setCell_below (ownsRow_setCell_below (own_set (ownsRow_setCell_below HO.out (a := ⟨w.heap.size, 2, none⟩) (by simp; omega) _) k _) (a := ⟨w.heap.size, 0, none⟩) (by simp; omega) _) (a := ⟨w.heap.size, 1, none⟩) (by simp; omega) _) (a := ⟨w.heap.size + 1, 0, none⟩) (by simp; omega) _) (a := ⟨w.heap.size + 1, 1, none⟩) (by simp; omega) _) (a := ⟨w.heap.size + 1, 2, none⟩) (by simp; omega) _)
end Go.Proofs.Ytoogobenjhmjjaa
