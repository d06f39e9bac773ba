/- Several texts in one: TrMayH, TrRead, TrWithH, TrWriteH, TrPlain. -/
import Derived.Test.YtoogobenjhmjjaaTrB
import Derived.Deep.CutBlock
import Derived.Test.YtoogobenjhmjjaaTbReadW
namespace Go.Proofs.Ytoogobenjhmjjaa
open Go Go.RowKit
set_option linter.unusedVariables false
attribute [local go_sem ↓] Go.wp_at_zero Go.wp_at_succ

theorem mayH_no {cap : Int} {ps : List Pg} {ts : List (List Int)} (h : ¬ MH cap ps ts) : mayH cap ps ts = false := by
  cases hh : mayH cap ps ts with
  | false => rfl
  | true => exact absurd (mayH_iff.1 hh) h

/-- One place of a table: may it stand there? -/
def plB (ps : List Pg) (x : Int) : Bool := x == -1 || (decide (0 ≤ x) && (decide (x < (ps.length : Int)) && !((pgAt ps x).r == 0)))
theorem plB_no {cap : Int} {ps : List Pg} {ts : List (List Int)} {i k : Nat} (hi : i < ts.length) (hk : k < ts[i].length) (h : plB ps ts[i][k] = false) : mayH cap ps ts = false := by
  refine mayH_no fun hM => ?_
  rcases hM.place hi hk with h2 | ⟨q, h2, hq, h3, h4⟩
  · simp [plB, h2] at h
  · rw [h2] at h
    simp [plB, pgAt_get hq] at h
    omega
theorem plB_ok {ps : List Pg} {x : Int} (h : plB ps x = true) : okPl ps.length x = true := by
  simp [plB] at h
  simp [okPl]
  rcases h with h | ⟨h1, h2, _⟩
  · exact .inl h
  · exact .inr ⟨h1, h2⟩
theorem mayH_mk {cap : Int} {ps : List Pg} {ts : List (List Int)} (h1 : mayP cap ps = true) (h2 : ts.length ≤ 5) (h3 : ∀ i (h : i < ts.length), (ts[i].length = 0 ∨ ts[i].length = 4) ∧ ∀ k (h2 : k < ts[i].length), plB ps ts[i][k] = true)
    (h4 : ∀ p (h : p < ps.length), ((ts.flatten.count (p : Int) : Nat) : Int) = ps[p].r) : mayH cap ps ts = true := by
  unfold mayH
  rw [h1]
  simp only [Bool.true_and, Bool.and_eq_true, decide_eq_true_eq, List.all_eq_true]
  refine ⟨h2, fun t ht => ?_, ?_⟩
  · obtain ⟨i, hi, rfl⟩ := List.getElem_of_mem ht
    have := h3 i hi
    unfold okTb
    simp only [Bool.and_eq_true, List.all_eq_true, Bool.or_eq_true, beq_iff_eq]
    refine ⟨this.1, fun x hx => ?_⟩
    obtain ⟨k, hk, rfl⟩ := List.getElem_of_mem hx
    exact plB_ok (this.2 k hk)
  · refine eqR_all (by rw [cnts_len]) fun k h1 h2 => ?_
    rw [cnts_at _ _ _ h2]
    unfold isRefs
    rw [beq_iff_eq]
    exact h4 k h2

set_option maxRecDepth 100000 in
set_option maxHeartbeats 8000000 in
theorem rmayH_any (v : Value) (cap : Int) (ps : List Pg) (ts : List (List Int)) (w : World) (hv : HpV w v cap ps ts) (hn : ps.length ≤ 1000) (hl : ∀ t ∈ ts, t.length ≤ 1000) :
    Calls Try.prog 24 #[v] w fun e w' => e = .returned (.bool (mayH cap ps ts)) ∧ Below w.heap.size w w' := by
  obtain ⟨A, c, B, d, rfl, hv⟩ := hv.form
  have hb0 := (Below.refl w.heap.size w).alloc (Nat.le_refl _) (.cells #[.int .i64 cap, .slice A ps.length c, .slice B ts.length d] 28)
  have hcS := rmay_any cap (.slice A ps.length c) ps _ ((hv.keep hb0).pages)
  cases hs : mayP cap ps with
  | false =>
    rw [mayH_no (fun hM => by have := hM.may; rw [hs] at this; cases this)]
    rw [hs] at hcS
    clear hv hs hl
    go_enter Try.func24, Try.ntmps24
    go_wp2_with fail
    refine hcS.mono ?_
    rintro e w1 ⟨rfl, hb1⟩
    go_wp2
    go_ret
    exact ⟨rfl, hb0.trans (hb1.mono hb0.size)⟩
  | true =>
  rw [hs] at hcS
  by_cases h5 : 5 < ts.length
  · rw [mayH_no (fun hM => by have := hM.five; omega)]
    have h5' : (5 : Int) < (ts.length : Int) := by omega
    generalize ts.length = n at *
    have kB := Blk.new_ w 28 #[.int .i64 cap, .slice A ps.length c, .slice B n d] _ rfl
    clear hv hs hl
    go_enter Try.func24, Try.ntmps24
    go_wp2_with fail
    refine hcS.mono ?_
    rintro e w1 ⟨rfl, hb1⟩
    have k1 := (kB.keep hb1).cell
    go_wp2
    go_ret
    exact ⟨rfl, hb0.trans (hb1.mono hb0.size)⟩
  obtain ⟨n, hn2⟩ : ∃ n, n = ts.length := ⟨_, rfl⟩
  obtain ⟨m, hm2⟩ : ∃ m, m = ps.length := ⟨_, rfl⟩
  have hnb : n ≤ 5 := by omega
  have hmb : m ≤ 1000 := by omega
  have hST := fun p W h => rstands_any (.agg #[.int .i64 cap, .slice A ps.length c, .slice B ts.length d]) cap p ps ts W h (by omega) hl
  have hv' := hv
  rw [← hn2, ← hm2] at hv'
  have HV := Lib.hid hv'
  clear hv'
  have kB := Blk.new_ w 28 #[.int .i64 cap, .slice A ps.length c, .slice B ts.length d] _ rfl
  have HMK := Lib.hid (fun a b => mayH_mk (ts := ts) hs (by omega) a b)
  have HL := Lib.hid hl
  have hE := fun h0 : 0 < n => hv.tabs.elem (by omega)
  have hP := fun h0 : 0 < m => Sl.pos encP encP_len hv.pages (by omega)
  rw [← hn2, ← hm2] at hb0 kB hcS hST ⊢
  have HN := Lib.hid hn2
  have HM := Lib.hid hm2
  have HE := Lib.hid hE
  have HP := Lib.hid hP
  have HS := Lib.hid hST
  clear hs h5 hn hl hv hn2 hm2 hE hP hST
  go_enter Try.func24, Try.ntmps24
  go_wp2_with fail
  refine hcS.mono ?_
  rintro e w1 ⟨rfl, hb1⟩
  have hY1 := hb0.trans (hb1.mono hb0.size)
  have K1 := Lib.hid (kB.keep hb1)
  have k1 := (kB.keep hb1).cell
  have HY1 := Lib.hid hY1
  clear hcS hb0 hb1 kB
  go_upto_block 0 with fail
  go_cut [1] (fun a1 wr => a1 = .pointer (some ⟨w.heap.size, 0, none⟩) ∧ wr = w1 ∧ Hid (∀ i (h : i < ts.length), (ts[i].length = 0 ∨ ts[i].length = 4) ∧ ∀ k (h2 : k < ts[i].length), plB ps ts[i][k] = true))
  case first =>
    go_wp2_with fail
    go_loop [4] (fun i4 => ∃ i : Nat, i ≤ n ∧ i4 = .int .i64 i ∧ Hid (∀ j (h : j < ts.length), j < i → (ts[j].length = 0 ∨ ts[j].length = 4) ∧ ∀ k (h2 : k < ts[j].length), plB ps ts[j][k] = true)) (fun i4 => n - (intOf i4).toNat)
    case atStart => exact ⟨0, Nat.zero_le _, rfl, fun j _ hj => absurd hj (Nat.not_lt_zero _)⟩
    case round =>
      obtain ⟨i, hi, rfl, AA⟩ := hrel
      by_cases hlt : i < n
      · have hit : i < ts.length := by have := HN.out; omega
        obtain ⟨b, o, rfl, hb, hel⟩ := HE.out (by omega)
        obtain ⟨Ai, ci, x0, hsi⟩ := hel i hit
        have x1 := (HY1.out.cell (p := ⟨b, o + i, none⟩) hb).trans x0
        obtain ⟨l, hl⟩ : ∃ l, l = ts[i].length := ⟨_, rfl⟩
        have hI := fun h0 : 0 < l => ints_elem hsi (by omega)
        have hll : l ≤ 1000 := by rw [hl]; exact HL.out _ (List.getElem_mem _)
        rw [← hl] at x1
        have HLL := Lib.hid hl
        have HI := Lib.hid hI
        clear hl hI hsi hel x0
        have hi0 : (0 : Int) ≤ (i : Int) := by omega
        have hi1 : (i : Int) < (n : Int) := by omega
        by_cases hbad : l = 0 ∨ l = 4
        case neg =>
          have q1 : ((l : Int) != 0) = true := by rw [bne_iff_ne]; omega
          have q2 : ((l : Int) != 4) = true := by rw [bne_iff_ne]; omega
          have HX := Lib.hid (show mayH cap ps ts = false from mayH_no fun hM => hbad (by have := hM.len ts[i] (List.getElem_mem _); have := HLL.out; omega))
          clear hbad
          go_wp2
          go_ret
          rw [HX.out]
          exact ⟨rfl, HY1.out⟩
        case pos =>
          have HG := Lib.hid hbad
          have qq : (((l : Int) != 0) = false) ∨ (((l : Int) != 0) = true ∧ ((l : Int) != 4) = false) := by
            by_cases e : l = 0
            · exact .inl (by simp [e])
            · exact .inr ⟨by rw [bne_iff_ne]; omega, by simp; omega⟩
          have HR : ∃ c41, c41 = false := ⟨_, rfl⟩
          clear hbad HR
          rcases qq with q1 | ⟨q1, q2⟩
          all_goals
            go_wp2
            go_loop [5] (fun k5 => ∃ k : Nat, k ≤ l ∧ k5 = .int .i64 k ∧ Hid (∀ j (h2 : j < ts[i].length), j < k → plB ps ts[i][j] = true)) (fun k5 => l - (intOf k5).toNat)
            case atStart => exact ⟨0, Nat.zero_le _, rfl, fun j _ hj => absurd hj (Nat.not_lt_zero _)⟩
            case round =>
              obtain ⟨k, hk, rfl, BB⟩ := hrel
              by_cases hkt : k < l
              · have hkl : k < ts[i].length := by have := HLL.out; omega
                obtain ⟨b2, o2, rfl, hb2, he2⟩ := HI.out (by omega)
                have y1 := (HY1.out.cell (p := ⟨b2, o2 + k, none⟩) hb2).trans (he2 k hkl)
                have BAD := Lib.hid (fun h : plB ps ts[i][k] = false => plB_no (cap := cap) hit hkl h)
                obtain ⟨y, hy⟩ : ∃ y, y = ts[i][k] := ⟨_, rfl⟩
                rw [← hy] at y1 BAD
                have HY := Lib.hid hy
                clear hy he2
                have hk0 : (0 : Int) ≤ (k : Int) := by omega
                have hk1 : (k : Int) < (l : Int) := by omega
                by_cases c1 : y < -1
                · have HX := Lib.hid (BAD.out (by simp [plB]; omega))
                  go_wp2
                  go_ret
                  rw [HX.out]
                  exact ⟨rfl, HY1.out⟩
                by_cases c2 : (m : Int) ≤ y
                · have HX := Lib.hid (BAD.out (by simp [plB]; have := HM.out; omega))
                  go_wp2
                  go_ret
                  rw [HX.out]
                  exact ⟨rfl, HY1.out⟩
                by_cases c3 : 0 ≤ y
                · obtain ⟨z, rfl⟩ := Int.eq_ofNat_of_zero_le c3
                  have hzm : z < m := by omega
                  have hz : z < ps.length := by have := HM.out; omega
                  obtain ⟨b3, o3, rfl, hb3, he3⟩ := HP.out (by omega)
                  have e0 := he3 w1 HY1.out z hz 0 _ rfl
                  simp only [Nat.add_zero] at e0
                  have HG2 := Lib.hid (pgAt_get hz)
                  obtain ⟨r, hr⟩ : ∃ r, r = ps[z].r := ⟨_, rfl⟩
                  rw [← hr] at e0
                  have HR := Lib.hid hr
                  have hz0 : (0 : Int) ≤ (z : Int) := by omega
                  have hz1 : (z : Int) < (m : Int) := by omega
                  clear he3 hr
                  cases hr0 : (r == 0) with
                  | true =>
                    have HX := Lib.hid (BAD.out (by simp only [plB, HG2.out, ← HR.out, hr0]; simp))
                    go_wp2
                    go_ret
                    rw [HX.out]
                    exact ⟨rfl, HY1.out⟩
                  | false =>
                    have HX := Lib.hid (show plB ps (z : Int) = true from by simp only [plB, HG2.out, ← HR.out, hr0]; simp; exact hz)
                    go_wp2
                    go_round
                    case rel =>
                      refine ⟨k + 1, by omega, by go_num, (show Hid _ from fun j h hj => ?_)⟩
                      by_cases e : j = k
                      · subst e; rw [← HY.out]; exact HX.out
                      · exact BB.out j h (by omega)
                    case measure => simp [intOf]; omega
                · obtain rfl : y = -1 := by omega
                  go_wp2
                  go_round
                  case rel =>
                    refine ⟨k + 1, by omega, by go_num, (show Hid _ from fun j h hj => ?_)⟩
                    by_cases e : j = k
                    · subst e; rw [← HY.out]; rfl
                    · exact BB.out j h (by omega)
                  case measure => simp [intOf]; omega
              · obtain rfl : k = l := by omega
                go_wp2
                go_round
                case rel =>
                  refine ⟨i + 1, by omega, by go_num, (show Hid _ from fun j h hj => ?_)⟩
                  by_cases e : j = i
                  · subst e
                    exact ⟨by have := HLL.out; have := HG.out; omega, fun k' h2 => BB.out k' h2 (by have := HLL.out; omega)⟩
                  · exact AA.out j h (by omega)
                case measure => simp [intOf]; omega
      · obtain rfl : i = n := by omega
        go_wp2
        go_meet
        exact ⟨rfl, rfl, (show Hid _ from fun j h => AA.out j h (by have := HN.out; omega))⟩
  case rest =>
    obtain ⟨rfl, ew, AA⟩ := hcut
    replace ew := ew.symm
    subst ew
    clear k1
    go_wp2_with fail
    go_loopg [7] m (fun gg s7 wr => ∃ q : Nat, q ≤ m ∧ m - q ≤ gg ∧ s7 = .int .i64 q ∧ Hid (Below w1.heap.size w1 wr) ∧ Hid (∀ j (h : j < ps.length), j < q → ((ts.flatten.count (j : Int) : Nat) : Int) = ps[j].r))
    case atStart => exact ⟨0, Nat.zero_le _, by omega, rfl, Below.refl _ _, fun j _ hj => absurd hj (Nat.not_lt_zero _)⟩
    case round =>
      obtain ⟨q, hq, hg, rfl, BW, BB⟩ := hrel
      have kr := (K1.out.keep BW.out).cell
      have klt := (K1.out.keep BW.out).lt
      by_cases hlt : q < m
      · have hqt : q < ps.length := by have := HM.out; omega
        obtain ⟨b3, o3, rfl, hb3, he3⟩ := HP.out (by omega)
        have hX := HY1.out.trans (BW.out.mono HY1.out.size)
        have e0 := he3 wr hX q hqt 0 _ rfl
        simp only [Nat.add_zero] at e0
        have lb3 : b3 < wr.heap.size := Nat.lt_of_lt_of_le hb3 hX.size
        have hST := fun W (h : Below wr.heap.size wr W) => HS.out (q : Int) W (HV.out.keep (hX.trans (h.mono hX.size)))
        obtain ⟨x, hx⟩ : ∃ x, x = ((ts.flatten.count (q : Int) : Nat) : Int) := ⟨_, rfl⟩
        rw [← hx] at hST
        have HX := Lib.hid hx
        obtain ⟨r, hr⟩ : ∃ r, r = ps[q].r := ⟨_, rfl⟩
        rw [← hr] at e0
        have HR := Lib.hid hr
        have hq0 : (0 : Int) ≤ (q : Int) := by omega
        have hq1 : (q : Int) < (m : Int) := by omega
        have BWD := (Below.refl wr.heap.size wr).drew
        have s0 := kr 0
        have s1 := kr 1
        have s2 := kr 2
        simp at s0 s1 s2
        clear hx he3 hX hr kr
        go_wp2_with fail
        refine wp_region_held_drew (S := fun w' => w'.cell? ⟨w.heap.size, 0, none⟩ = some (.int .i64 cap) ∧ w'.cell? ⟨w.heap.size, 1, none⟩ = some (.slice (some ⟨b3, o3, none⟩) m c) ∧ w'.cell? ⟨w.heap.size, 2, none⟩ = some (.slice B n d) ∧ w'.cell? ⟨b3, o3 + q * 5, none⟩ = some (.int .i64 r)) (by kernel_rfl) ?_ (fun hHeldbr => ?_)
        · exact ⟨s0, s1, s2, e0⟩
        refine wpAnyH_take (i := 0) (oi := { dst := some 92, op := Op.load 28 (Operand.tmp 1), type := 28, pos := "ref.go:50", after := _, guard := none }) (v := ?vbr0) rfl (by kernel_rfl) (by kernel_rfl) (by kernel_rfl) (fun _ _ _ h => h) (Or.inl ⟨by rfl, ?hybr0⟩) (by assumption) ?restbr0
        case hybr0 => (intro w hSw; (try dsimp only at hSw); go_simp <;> with_reducible rfl)
        try simp only [Act.put, List.setIfInBounds_toArray, List.set_cons_zero, List.set_cons_succ]
        refine wpAnyH_take (i := 1) (oi := { dst := some 93, op := Op.move (Operand.tmp 7), type := 3, pos := "ref.go:50", after := _, guard := none }) (v := ?vbr1) rfl (by kernel_rfl) (by kernel_rfl) (by kernel_rfl) (fun _ _ _ h => h) (Or.inl ⟨by rfl, ?hybr1⟩) (by assumption) ?restbr1
        case hybr1 => (intro w hSw; (try dsimp only at hSw); go_simp <;> with_reducible rfl)
        try simp only [Act.put, List.setIfInBounds_toArray, List.set_cons_zero, List.set_cons_succ]
        refine wpAnyH_take (i := 3) (oi := { dst := some 95, op := Op.fieldAddr 28 (Operand.tmp 1) 0, type := 0, pos := "ref.go:50", after := _, guard := none }) (v := ?vbr3) rfl (by kernel_rfl) (by kernel_rfl) (by kernel_rfl) (fun _ _ _ h => h) (Or.inl ⟨by rfl, ?hybr3⟩) (by assumption) ?restbr3
        case hybr3 => (intro w hSw; (try dsimp only at hSw); go_simp <;> with_reducible rfl)
        try simp only [Act.put, List.setIfInBounds_toArray, List.set_cons_zero, List.set_cons_succ]
        refine wpAnyH_take (i := 4) (oi := { dst := some 96, op := Op.fieldAddr 25 (Operand.tmp 95) 1, type := 0, pos := "ref.go:50", after := _, guard := none }) (v := ?vbr4) rfl (by kernel_rfl) (by kernel_rfl) (by kernel_rfl) (fun _ _ _ h => h) (Or.inl ⟨by rfl, ?hybr4⟩) (by assumption) ?restbr4
        case hybr4 => (intro w hSw; (try dsimp only at hSw); go_simp <;> with_reducible rfl)
        try simp only [Act.put, List.setIfInBounds_toArray, List.set_cons_zero, List.set_cons_succ]
        refine wpAnyH_take (i := 5) (oi := { dst := some 97, op := Op.load 23 (Operand.tmp 96), type := 23, pos := "ref.go:50", after := _, guard := none }) (v := ?vbr5) rfl (by kernel_rfl) (by kernel_rfl) (by kernel_rfl) (fun _ _ _ h => h) (Or.inl ⟨by rfl, ?hybr5⟩) (by assumption) ?restbr5
        case hybr5 => (intro w hSw; (try dsimp only at hSw); go_simp <;> with_reducible rfl)
        try simp only [Act.put, List.setIfInBounds_toArray, List.set_cons_zero, List.set_cons_succ]
        refine wpAnyH_take (i := 6) (oi := { dst := some 98, op := Op.move (Operand.tmp 7), type := 3, pos := "ref.go:50", after := _, guard := none }) (v := ?vbr6) rfl (by kernel_rfl) (by kernel_rfl) (by kernel_rfl) (fun _ _ _ h => h) (Or.inl ⟨by rfl, ?hybr6⟩) (by assumption) ?restbr6
        case hybr6 => (intro w hSw; (try dsimp only at hSw); go_simp <;> with_reducible rfl)
        try simp only [Act.put, List.setIfInBounds_toArray, List.set_cons_zero, List.set_cons_succ]
        refine wpAnyH_take (i := 7) (oi := { dst := some 99, op := Op.indexAddr 23 (Operand.tmp 97) (Operand.tmp 98), type := 0, pos := "ref.go:50", after := _, guard := none }) (v := ?vbr7) rfl (by kernel_rfl) (by kernel_rfl) (by kernel_rfl) (fun _ _ _ h => h) (Or.inl ⟨by rfl, ?hybr7⟩) (by assumption) ?restbr7
        case hybr7 => (intro w hSw; (try dsimp only at hSw); go_simp <;> with_reducible rfl)
        try simp only [Act.put, List.setIfInBounds_toArray, List.set_cons_zero, List.set_cons_succ]
        refine wpAnyH_take (i := 8) (oi := { dst := some 100, op := Op.fieldAddr 54 (Operand.tmp 99) 0, type := 0, pos := "ref.go:50", after := _, guard := none }) (v := ?vbr8) rfl (by kernel_rfl) (by kernel_rfl) (by kernel_rfl) (fun _ _ _ h => h) (Or.inl ⟨by rfl, ?hybr8⟩) (by assumption) ?restbr8
        case hybr8 => (intro w hSw; (try dsimp only at hSw); go_simp <;> with_reducible rfl)
        try simp only [Act.put, List.setIfInBounds_toArray, List.set_cons_zero, List.set_cons_succ]
        refine wpAnyH_take (i := 9) (oi := { dst := some 101, op := Op.load 3 (Operand.tmp 100), type := 3, pos := "ref.go:50", after := _, guard := none }) (v := ?vbr9) rfl (by kernel_rfl) (by kernel_rfl) (by kernel_rfl) (fun _ _ _ h => h) (Or.inl ⟨by rfl, ?hybr9⟩) (by assumption) ?restbr9
        case hybr9 => (intro w hSw; (try dsimp only at hSw); go_simp <;> with_reducible rfl)
        try simp only [Act.put, List.setIfInBounds_toArray, List.set_cons_zero, List.set_cons_succ]
        refine wpAnyH_ready (rs := [2]) (by kernel_rfl) (by simp) ?_
        refine AllReadyH.cons (o := { dst := some 94, op := Op.call { callee := Callee.value (Operand.func 51), args := #[Operand.tmp 92, Operand.tmp 93], argTypes := #[28, 3] }, type := 3, pos := "ref.go:50", after := _, guard := none }) rfl (fun K hK => ?_) AllReadyH.nil
        go_simp
        refine (hST _ BWD).mono ?_
        rintro x w3 ⟨rfl, hb3⟩
        have BX := BWD.trans (hb3.mono BWD.size)
        try go_wp2_with fail
        refine hK.out _ _ ?_ (fun hHeldbr2 => ?_)
        · exact ⟨(BX.cell (p := ⟨w.heap.size, 0, none⟩) klt).trans s0, (BX.cell (p := ⟨w.heap.size, 1, none⟩) klt).trans s1, (BX.cell (p := ⟨w.heap.size, 2, none⟩) klt).trans s2, (BX.cell (p := ⟨b3, o3 + q * 5, none⟩) lb3).trans e0⟩
        clear hK K hHeldbr
        try simp only [Act.put, List.setIfInBounds_toArray, List.set_cons_zero, List.set_cons_succ]
        refine wpAnyH_take (i := 10) (oi := { dst := some 102, op := Op.binOp BinOp.neq 3 (Operand.tmp 94) (Operand.tmp 101) 3, type := 4, pos := "ref.go:50", after := _, guard := none }) (v := ?vbr10) rfl (by kernel_rfl) (by kernel_rfl) (by kernel_rfl) (fun _ _ _ h => h) (Or.inl ⟨by rfl, ?hybr10⟩) (by assumption) ?restbr10
        case hybr10 => (intro w hSw; (try dsimp only at hSw); go_simp <;> with_reducible rfl)
        try simp only [Act.put, List.setIfInBounds_toArray, List.set_cons_zero, List.set_cons_succ]
        refine wpAnyH_done (by kernel_rfl) ?_ _
        have BY := Lib.hid (BW.out.trans (BX.mono BW.out.size))
        clear BX BWD s0 s1 s2 e0
        cases hxr : (x != r) with
        | true =>
          go_wp2
          go_ret
          refine ⟨?_, HY1.out.trans (BY.out.mono HY1.out.size)⟩
          rw [mayH_no (fun hM => by have := hM.refs q hqt; have h1 := HX.out; have h2 := HR.out; unfold cnt at this; rw [bne_iff_ne] at hxr; omega)]
          rfl
        | false =>
          go_wp2
          go_roundg (m - (q + 1))
          case measure => omega
          case rel =>
            refine ⟨q + 1, by omega, by omega, by go_num, BY, (show Hid _ from fun j h hj => ?_)⟩
            by_cases e : j = q
            · subst e
              rw [← HX.out, ← HR.out]
              simpa using hxr
            · exact BB.out j h (by omega)
      · obtain rfl : q = m := by omega
        go_wp2
        go_ret
        refine ⟨?_, HY1.out.trans (BW.out.mono HY1.out.size)⟩
        rw [HMK.out (fun i h => AA.out i h) (fun p h => BB.out p h (by have := HM.out; omega))]
        rfl
end Go.Proofs.Ytoogobenjhmjjaa
namespace Go.Proofs.Ytoogobenjhmjjaa
open Go Go.RowKit
set_option linter.unusedVariables false

set_option maxHeartbeats 4000000 in
theorem rwhy_any (v : Value) (cap : Int) (ps : List Pg) (ts : List (List Int)) (t a : Int) (w : World) (hv : HpV w v cap ps ts) (hps : ps.length ≤ 1000) (hll : ∀ t ∈ ts, t.length ≤ 1000) :
    Calls Try.prog 39 #[v, .int .i64 t, .int .i64 a] w fun e w' => e = .returned (.int .i64 (whyH cap ps ts t a)) ∧ Below w.heap.size w w' := by
  obtain ⟨A, c, A2, c2, rfl, hv⟩ := hv.form
  have hb0 : Below w.heap.size w (w.alloc (.cells #[.int .i64 cap, .slice A ps.length c, .slice A2 ts.length c2] 28)) := (Below.refl w.heap.size w).alloc (Nat.le_refl _) _
  have cM := rmayH_any _ cap ps ts _ (hv.keep hb0) hps hll
  clear hll
  have hE := fun h0 => hv.tabs.elem h0
  cases hm : mayH cap ps ts with
  | false =>
    rw [hm] at cM
    rw [wh1 hm]
    clear hm hv hE
    go_enter Try.func39, Try.ntmps39
    go_wp2_with fail
    refine cM.mono ?_
    rintro e w1 ⟨rfl, hb1⟩
    go_wp2
    go_ret
    exact ⟨rfl, hb0.trans (hb1.mono (by simp))⟩
  | true =>
    rw [hm] at cM
    have HE := Lib.hid hE
    clear hE hv
    have H11 := Lib.hid (fun h => wh11 (t := t) (a := a) hm h)
    have H0 := Lib.hid (fun h => wh0 (t := t) (a := a) hm h)
    clear hm
    by_cases t0 : t < 0
    · rw [H11.out (.inl t0)]
      clear H11 H0 HE
      go_enter Try.func39, Try.ntmps39
      go_wp2_with fail
      refine cM.mono ?_
      rintro e w1 ⟨rfl, hb1⟩
      go_wp2
      go_ret
      exact ⟨rfl, hb0.trans (hb1.mono (by simp))⟩
    by_cases t1 : (ts.length : Int) ≤ t
    · rw [H11.out (.inr (.inl t1))]
      clear H11 H0 HE
      go_enter Try.func39, Try.ntmps39
      go_wp2_with fail
      refine cM.mono ?_
      rintro e w1 ⟨rfl, hb1⟩
      have k0 : Blk w1 w.heap.size 28 #[.int .i64 cap, .slice A ps.length c, .slice A2 ts.length c2] := (Blk.new_ w _ _ _ rfl).keep hb1
      have p2 : w1.cell? ⟨w.heap.size, 2, none⟩ = some (.slice A2 ts.length c2) := by rw [k0.cell]; rfl
      clear k0
      go_wp2
      go_ret
      exact ⟨rfl, hb0.trans (hb1.mono (by simp))⟩
    obtain ⟨k, rfl⟩ : ∃ k : Nat, t = (k : Int) := ⟨t.toNat, by omega⟩
    have hk : k < ts.length := by omega
    have htab : tabAt ts (k : Int) = ts[k] := by unfold tabAt; rw [Int.toNat_natCast, List.getD_eq_getElem?_getD, List.getElem?_eq_getElem hk]; rfl
    rw [htab] at H11 H0
    obtain ⟨b, o, rfl, hb, hel⟩ := HE.out (by omega)
    obtain ⟨Ak, ck, e0, _⟩ := hel k hk
    clear HE hel htab
    generalize ts[k] = tb at *
    have hk0 : (0 : Int) ≤ (k : Int) := by omega
    have hk1 : (k : Int) < (ts.length : Int) := by omega
    generalize ts.length = m at *
    clear hk t0 t1
    by_cases l0 : tb.length = 0
    · rw [H11.out (.inr (.inr (.inl l0)))]
      rw [l0] at e0
      clear H11 H0
      go_enter Try.func39, Try.ntmps39
      go_wp2_with fail
      refine cM.mono ?_
      rintro e w1 ⟨rfl, hb1⟩
      have hY := hb0.trans (hb1.mono (by simp))
      have k0 : Blk w1 w.heap.size 28 #[.int .i64 cap, .slice A ps.length c, .slice (some ⟨b, o, none⟩) m c2] := (Blk.new_ w _ _ _ rfl).keep hb1
      have p2 : w1.cell? ⟨w.heap.size, 2, none⟩ = some (.slice (some ⟨b, o, none⟩) m c2) := by rw [k0.cell]; rfl
      have x0 := (hY.cell (p := ⟨b, o + k, none⟩) hb).trans e0
      clear k0
      go_wp2
      go_ret
      exact ⟨rfl, hY⟩
    have l0' : ((tb.length : Int) == 0) = false := by rw [beq_eq_false_iff_ne]; omega
    have HR : ∀ q : Int, whyH cap ps ts (k : Int) a = q → ((a < 0 ∨ 16 ≤ a) ∧ q = 11 ∨ ¬ (a < 0 ∨ 16 ≤ a) ∧ q = 0) := by
      intro q hq
      by_cases ha : a < 0 ∨ 16 ≤ a
      · exact .inl ⟨ha, by rw [← hq, H11.out (.inr (.inr (.inr ha)))]⟩
      · exact .inr ⟨ha, by rw [← hq, H0.out (by rintro (h | h | h | h); omega; omega; exact l0 h; exact ha h)]⟩
    obtain ⟨q, hq⟩ : ∃ q, whyH cap ps ts (k : Int) a = q := ⟨_, rfl⟩
    have HR2 := HR q hq
    rw [hq]
    clear HR hq H11 H0 l0
    by_cases a0 : a < 0
    · obtain rfl : q = 11 := by omega
      clear HR2
      go_enter Try.func39, Try.ntmps39
      go_wp2_with fail
      refine cM.mono ?_
      rintro e w1 ⟨rfl, hb1⟩
      have hY := hb0.trans (hb1.mono (by simp))
      have k0 : Blk w1 w.heap.size 28 #[.int .i64 cap, .slice A ps.length c, .slice (some ⟨b, o, none⟩) m c2] := (Blk.new_ w _ _ _ rfl).keep hb1
      have p2 : w1.cell? ⟨w.heap.size, 2, none⟩ = some (.slice (some ⟨b, o, none⟩) m c2) := by rw [k0.cell]; rfl
      have x0 := (hY.cell (p := ⟨b, o + k, none⟩) hb).trans e0
      clear k0
      go_wp2
      go_ret
      exact ⟨rfl, hY⟩
    by_cases a1 : 16 ≤ a
    · obtain rfl : q = 11 := by omega
      clear HR2
      go_enter Try.func39, Try.ntmps39
      go_wp2_with fail
      refine cM.mono ?_
      rintro e w1 ⟨rfl, hb1⟩
      have hY := hb0.trans (hb1.mono (by simp))
      have k0 : Blk w1 w.heap.size 28 #[.int .i64 cap, .slice A ps.length c, .slice (some ⟨b, o, none⟩) m c2] := (Blk.new_ w _ _ _ rfl).keep hb1
      have p2 : w1.cell? ⟨w.heap.size, 2, none⟩ = some (.slice (some ⟨b, o, none⟩) m c2) := by rw [k0.cell]; rfl
      have x0 := (hY.cell (p := ⟨b, o + k, none⟩) hb).trans e0
      clear k0
      go_wp2
      go_ret
      exact ⟨rfl, hY⟩
    · obtain rfl : q = 0 := by omega
      clear HR2
      go_enter Try.func39, Try.ntmps39
      go_wp2_with fail
      refine cM.mono ?_
      rintro e w1 ⟨rfl, hb1⟩
      have hY := hb0.trans (hb1.mono (by simp))
      have k0 : Blk w1 w.heap.size 28 #[.int .i64 cap, .slice A ps.length c, .slice (some ⟨b, o, none⟩) m c2] := (Blk.new_ w _ _ _ rfl).keep hb1
      have p2 : w1.cell? ⟨w.heap.size, 2, none⟩ = some (.slice (some ⟨b, o, none⟩) m c2) := by rw [k0.cell]; rfl
      have x0 := (hY.cell (p := ⟨b, o + k, none⟩) hb).trans e0
      clear k0
      go_wp2
      go_ret
      exact ⟨rfl, hY⟩

set_option maxRecDepth 100000 in
set_option maxHeartbeats 4000000 in
theorem RRead_any (v : Value) (cap : Int) (ps : List Pg) (ts : List (List Int)) (t a : Int) (w : World) (hv : HpV w v cap ps ts) (hn : ps.length ≤ 1000) (hll : ∀ t ∈ ts, t.length ≤ 1000) :
    Calls Try.prog 17 #[v, .int .i64 t, .int .i64 a] w fun e w' => e = .returned (.tuple #[.int .i64 (readH cap ps ts t a).1, .int .i64 (readH cap ps ts t a).2]) ∧ Below w.heap.size w w' := by
  obtain ⟨A, c, A2, c2, rfl, hv⟩ := hv.form
  have hA0 : Below w.heap.size w (w.alloc (.cells #[.int .i64 cap, .slice A ps.length c, .slice A2 ts.length c2] 28)) := (Below.refl w.heap.size w).alloc (Nat.le_refl _) _
  have cW := rwhy_any _ cap ps ts t a _ (hv.keep hA0) hn hll
  clear hll
  by_cases h0 : whyH cap ps ts t a = 0
  · obtain ⟨hm, k, rfl, hk, htab, hne, ha0, ha1⟩ := why_ok h0
    have hok := may_tab hm k hk
    have h4 : ts[k].length = 4 := by have := okTb_len hok; omega
    obtain ⟨n, rfl⟩ : ∃ n : Nat, a = (n : Int) := ⟨a.toNat, by omega⟩
    have hn4 : n / 4 < ts[k].length := by omega
    have hpl : plAt ts (k : Int) (n : Int) = ts[k][n / 4] := by unfold plAt; rw [htab, Int.toNat_natCast, List.getD_eq_getElem?_getD, List.getElem?_eq_getElem hn4]; rfl
    obtain ⟨b, o, rfl, hb, hel⟩ := hv.tabs.elem (by omega)
    obtain ⟨Ak, ck, e0, hsl⟩ := hel k hk
    obtain ⟨b2, o2, rfl, hb2, hel2⟩ := ints_elem hsl (by omega)
    have e1 := hel2 (n / 4) hn4
    rw [h4] at e0
    have hp := okTb_pl hok (n / 4) hn4
    have HRD := Lib.hid (show readH cap ps ts (k : Int) (n : Int) = if plAt ts (k : Int) (n : Int) = -1 then (0, 0) else (wget (pgAt ps (plAt ts (k : Int) (n : Int))) (n % 4), 0) from by unfold readH; rw [if_pos h0, Int.toNat_natCast])
    rw [hpl] at HRD
    generalize ts[k][n / 4] = p at *
    have hk0 : (0 : Int) ≤ (k : Int) := by omega
    have hk1 : (k : Int) < (ts.length : Int) := by omega
    have hd0 : (0 : Int) ≤ (n : Int) / 4 := by omega
    have hd1 : (n : Int) / 4 < 4 := by omega
    have hm0 : (0 : Int) ≤ (n : Int) % 4 := by omega
    have hm1 : (n : Int) % 4 < 4 := by omega
    rw [h0] at cW
    have HE := Lib.hid (fun h => Sl.pos encP encP_len hv.pages h)
    have hps : ps.length ≤ 1000 := hn
    clear hel hel2 hsl hok hm h4 hn4 hpl htab hne h0 hn
    rcases hp with rfl | ⟨q, rfl, hq⟩
    · have HR := Lib.hid (show readH cap ps ts (k : Int) (n : Int) = (0, 0) from by rw [HRD.out, if_pos rfl])
      clear HRD HE hv
      go_enter Try.func17, Try.ntmps17
      go_wp2_with fail
      refine cW.mono ?_
      rintro e w1 ⟨rfl, hb1⟩
      have hY1 := hA0.trans (hb1.mono (by simp))
      have k0 : Blk w1 w.heap.size 28 #[.int .i64 cap, .slice A ps.length c, .slice (some ⟨b, o, none⟩) ts.length c2] := (Blk.new_ w _ _ _ rfl).keep hb1
      have p2 : w1.cell? ⟨w.heap.size, 2, none⟩ = some (.slice (some ⟨b, o, none⟩) ts.length c2) := by rw [k0.cell]; rfl
      have x0 := (hY1.cell (p := ⟨b, o + k, none⟩) hb).trans e0
      have x1 := (hY1.cell (p := ⟨b2, o2 + n / 4, none⟩) hb2).trans e1
      clear k0 e0 e1
      go_wp2
      go_ret2
      exact ⟨by rw [HR.out]; rfl, hY1⟩
    · have hq1 : ((q : Int) == -1) = false := by rw [beq_eq_false_iff_ne]; omega
      have HR := Lib.hid (show readH cap ps ts (k : Int) (n : Int) = (wget ps[q] (n % 4), 0) from by
        rw [HRD.out, if_neg (by omega)]
        unfold pgAt
        rw [Int.toNat_natCast, List.getD_eq_getElem?_getD, List.getElem?_eq_getElem hq]; rfl)
      obtain ⟨bp, op, rfl, hbp, help⟩ := HE.out (by omega)
      have ep := help w (Below.refl _ _) q hq (1 + n % 4) _ (wget_enc _ _ (by omega))
      have hq0 : (0 : Int) ≤ (q : Int) := by omega
      have hq2 : (q : Int) < (ps.length : Int) := by omega
      generalize wget ps[q] (n % 4) = u at *
      clear HRD HE hv help hq
      go_enter Try.func17, Try.ntmps17
      go_wp2_with fail
      refine cW.mono ?_
      rintro e w1 ⟨rfl, hb1⟩
      have hY1 := hA0.trans (hb1.mono (by simp))
      have k0 : Blk w1 w.heap.size 28 #[.int .i64 cap, .slice (some ⟨bp, op, none⟩) ps.length c, .slice (some ⟨b, o, none⟩) ts.length c2] := (Blk.new_ w _ _ _ rfl).keep hb1
      have p1 : w1.cell? ⟨w.heap.size, 1, none⟩ = some (.slice (some ⟨bp, op, none⟩) ps.length c) := by rw [k0.cell]; rfl
      have p2 : w1.cell? ⟨w.heap.size, 2, none⟩ = some (.slice (some ⟨b, o, none⟩) ts.length c2) := by rw [k0.cell]; rfl
      have x0 := (hY1.cell (p := ⟨b, o + k, none⟩) hb).trans e0
      have x1 := (hY1.cell (p := ⟨b2, o2 + n / 4, none⟩) hb2).trans e1
      have ep' : w.cell? ⟨bp, op + q * 5 + 1 + n % 4, none⟩ = some (.int .i64 u) := by
        rw [show op + q * 5 + 1 + n % 4 = op + q * 5 + (1 + n % 4) from by omega]; exact ep
      have xp := (hY1.cell (p := ⟨bp, op + q * 5 + 1 + n % 4, none⟩) hbp).trans ep'
      clear k0 e0 e1 ep ep'
      go_wp2
      go_ret2
      exact ⟨by rw [HR.out]; rfl, hY1⟩
  · have HR := Lib.hid (show readH cap ps ts t a = (0, whyH cap ps ts t a) from by unfold readH; rw [if_neg h0])
    generalize whyH cap ps ts t a = er at *
    have h0' : (er != 0) = true := by rw [bne_iff_ne]; exact h0
    clear hv h0
    go_enter Try.func17, Try.ntmps17
    go_wp2_with fail
    refine cW.mono ?_
    rintro e w1 ⟨rfl, hb1⟩
    go_wp2
    go_ret2
    exact ⟨by rw [HR.out]; rfl, hA0.trans (hb1.mono (by simp))⟩
end Go.Proofs.Ytoogobenjhmjjaa
namespace Go.Proofs.Ytoogobenjhmjjaa
open Go Go.RowKit
set_option linter.unusedVariables false
attribute [local go_sem ↓] Go.wp_at_zero Go.wp_at_succ

theorem news_of_cells {w : World} {b o : Nat} {vs : List Value} (h : ∀ j u, vs[j]? = some u → w.cell? ⟨b, o + j, none⟩ = some u) : ∀ j u, vs[j]? = some u → w.cell? ((⟨b, o, none⟩ : Addr).add j) = some u := fun j u hu => by
  rw [add_none]; exact h j u hu

/-- Slices whose one value is another table's. -/
theorem tbs_set {w w' : World} {tvs : List Value} {ts : List (List Int)} {k : Nat} {v : Value} {t : List Int} (h : TbS w tvs ts) (hb : Below w.heap.size w w') (hk : k < ts.length) (hv : Sl w' 1 v t.length (t.flatMap encI)) : TbS w' (tvs.set k v) (ts.set k t) := by
  refine ⟨by simp [h.1], fun i x y h1 h2 => ?_⟩
  by_cases e : k = i
  · subst e
    rw [List.getElem?_set_self (by rw [h.1]; exact hk)] at h1
    rw [List.getElem?_set_self hk] at h2
    cases h1; cases h2
    exact hv
  · rw [List.getElem?_set_ne e] at h1 h2
    exact (h.2 i x y h1 h2).below hb

/-- What 'with' hands back: the slice of tables, and the table, are of one's own. -/
def RefWith (vs : Value) (cap2 : Int) (n : Nat) (tvs : List Value) (t m : Nat) (l : List Value) (w : World) (e : Ending) (w' : World) : Prop :=
  ∃ pv' tv' v2, vs = .agg #[.int .i64 cap2, pv'] ∧ e = .returned (.agg #[.int .i64 cap2, pv', tv']) ∧ w'.ownsRow w.heap.size 47 1 tv' n (tvs.set t v2) ∧ w'.ownsRow w.heap.size 3 1 v2 m l ∧ Below w.heap.size w w'

set_option maxRecDepth 100000 in
set_option maxHeartbeats 8000000 in
theorem rwithH_any (v vs pv tv : Value) (cap cap2 p : Int) (ps ps2 : List Pg) (ts : List (List Int)) (tvs : List Value) (t k : Nat) (w : World) (hv : HpV w v cap ps ts) (he : v = .agg #[.int .i64 cap, pv, tv]) (hT : Sl w 1 tv ts.length tvs) (hTS : TbS w tvs ts) (hs : StV w vs cap2 ps2) (ht : t < ts.length) (hk : k < ts[t].length) (hm : ts.length ≤ 1000) (hl : ts[t].length ≤ 1000) :
    Calls Try.prog 42 #[v, vs, .int .i64 (t : Int), .int .i64 (k : Int), .int .i64 p] w (RefWith vs cap2 ts.length tvs t ts[t].length ((ts[t].set k p).flatMap encI) w) := by
  obtain ⟨i0, hi0, hz0, hz1, hz2⟩ := info_parts clone_tabs_info
  obtain ⟨i1, hi1, hy0, hy1, hy2⟩ := info_parts clone_ints_info
  obtain ⟨A, c, B, d, rfl, hv⟩ := hv.form
  injection he with he
  simp at he
  obtain ⟨rfl, rfl⟩ := he
  obtain ⟨A2, c2, rfl, hs⟩ := hs.form
  obtain ⟨b, o, rfl, hb, hel⟩ := hv.tabs.elem (by omega)
  obtain ⟨Ak, ck, e0, hsl⟩ := hel t ht
  obtain ⟨b2, o2, rfl, hb2, hel2⟩ := ints_elem hsl (by omega)
  have hTl := hTS.1
  have hTC : ∀ j u, tvs[j]? = some u → w.cell? ⟨b, o + j, none⟩ = some u := by
    rcases hT.2 with ⟨he, _⟩ | ⟨a, c', he, _, _, hr⟩
    · cases he
    · injection he with h1 _ _
      injection h1 with h1
      subst h1
      exact ((hr (by omega)).2).2
  have htv : tvs[t]? = some (.slice (some ⟨b2, o2, none⟩) ts[t].length ck) := by
    have h1 : t < tvs.length := by omega
    have := hTC t _ (List.getElem?_eq_getElem h1)
    rw [e0] at this
    rw [List.getElem?_eq_getElem h1]
    exact this.symm
  obtain ⟨w1, hw1⟩ : ∃ x, ((w.alloc (.cells #[.int .i64 cap2, .slice A2 ps2.length c2, .slice (some ⟨b, o, none⟩) ts.length d] 28)).alloc (.cells #[.int .i64 cap2, .slice A2 ps2.length c2] 25)).alloc (.cells #[.int .i64 0, .slice none 0 0, .slice none 0 0] 28) = x := ⟨_, rfl⟩
  have hb0 : Below w.heap.size w w1 := hw1 ▸ (((Below.refl _ w).alloc (Nat.le_refl _) _).alloc (by simp) _).alloc (by simp; omega) _
  have k0 : Blk w1 w.heap.size 28 #[.int .i64 cap2, .slice A2 ps2.length c2, .slice (some ⟨b, o, none⟩) ts.length d] := hw1 ▸ ((Blk.new_ w _ _ _ rfl).alloc _).alloc _
  have k2 : Blk w1 (w.heap.size + 2) 28 #[.int .i64 0, .slice none 0 0, .slice none 0 0] := hw1 ▸ Blk.new_ _ _ _ _ (by simp)
  have hsz : w1.heap.size = w.heap.size + 3 := by rw [← hw1]; simp
  have c1 := k0.cell
  have f1 := k0.free
  have hnews : ∀ j u, tvs[j]? = some u → w1.cell? ((⟨b, o, none⟩ : Addr).add j) = some u := news_of_cells fun j u hu => (hb0.cell (p := ⟨b, o + j, none⟩) hb).trans (hTC j u hu)
  have hone : ∀ u ∈ tvs, u.oneCell' = true := fun u hu => by
    obtain ⟨j, hj, rfl⟩ := List.getElem_of_mem hu
    obtain ⟨A3, c3, e3, _, _⟩ := (hTS.2 j _ _ (List.getElem?_eq_getElem hj) (List.getElem?_eq_getElem (by omega))).form
    rw [e3]; rfl
  obtain ⟨n, hn⟩ : ∃ n, n = ts.length := ⟨_, rfl⟩
  obtain ⟨m, hmm⟩ : ∃ m, m = ts[t].length := ⟨_, rfl⟩
  have hTl' : tvs.length = n * 1 := by omega
  have hnews2 : ∀ j u, (ts[t].flatMap encI)[j]? = some u → w.cell? ⟨b2, o2 + j, none⟩ = some u := fun j u hu => by
    have hj : j < ts[t].length := by have := (List.getElem?_eq_some_iff.1 hu).1; rw [flat_len encI encI_len] at this; omega
    rw [hel2 j hj, ← hu, encI_get _ _ hj]
  have hlen2 : (ts[t].flatMap encI).length = m * 1 := by rw [flat_len encI encI_len, hmm]
  rw [← hn] at c1 k0 hw1 hm ht
  rw [← hmm] at htv hk hl
  have ht0 : (0 : Int) ≤ (t : Int) := by omega
  have ht1 : (t : Int) < (n : Int) := by omega
  have hk0 : (0 : Int) ≤ (k : Int) := by omega
  have hk1 : (k : Int) < (m : Int) := by omega
  have HW := Lib.hid hw1
  have HTV := Lib.hid htv
  have HB0 := Lib.hid hb0
  have HTS := Lib.hid hTS
  have HN := Lib.hid hn
  have HMM := Lib.hid hmm
  have HST := Lib.hid hs
  have hone2 := encI_one ts[t]
  clear hT hTC hel hel2 hsl hw1 hv hs htv hTS hTl hn hmm e0 k0
  go_enter Try.func42, Try.ntmps42
  go_upto_region 2 with fail
  rw [← HN.out, HW.out]
  go_upto_region 3 with (at_builtin; refine wpList_append_own_at _ rfl (.const (.slice none 0 0)) (.tmp 14) _ rfl w1.heap.size 47 i0 _ 1 24 Try.underlying26 hi0 hz0 hz1 hz2 rfl (by omega) (.slice none 0 0) 0 [] rfl (World.ownsRow_nil _ _ _ _) ⟨b, o, none⟩ n d tvs rfl hTl' hnews hone (by unfold maxLen; omega) (by omega) (by simp) ?_; intro v1 w2 hown hgrow _ _; simp only [Nat.zero_add, List.nil_append] at hown; obtain ⟨g, gc, cur, rfl, hg, hrow, hc1, hc2, hc3, hc4⟩ := own_form hown (by omega); have g1 := fun i => (hgrow.cell_far ⟨w.heap.size, i, none⟩ (by rw [hsz]; simp; try omega) (by simp [Value.ownBlock])).trans (c1 i); have gf1 := fun i => (hgrow.frozen_far ⟨w.heap.size, i, none⟩ (by rw [hsz]; simp; try omega) (by simp [Value.ownBlock])).trans (f1 i); have k2' := k2.grown hgrow (by simp [Value.ownBlock]); have hrlt := hrow.lt; have ng : ¬ g = w.heap.size := (by omega); have ng' : ¬ w.heap.size = g := (by omega); have HO := Lib.hid hown; have HG := Lib.hid hgrow; have K2 := Lib.hid k2'; clear hown hgrow hrow hc1 hc2 hc3 hc4 c1 f1 k2' k2)
  obtain ⟨w3, hw3⟩ : ∃ x, w2.setCell ⟨w.heap.size, 2, none⟩ (.slice (some ⟨g, 0, none⟩) n gc) = x := ⟨_, rfl⟩
  have hY2 : Below w.heap.size w w2 := HB0.out.grown HG.out (by omega) (by simp [Value.ownBlock])
  have hz2' := HG.out.size
  have hY3 : Below w.heap.size w w3 := hw3 ▸ hY2.setCell (by simp) _
  have hz3 : w3.heap.size = w2.heap.size := by rw [← hw3]; simp
  have HO3 := Lib.hid (hw3 ▸ own_far HO.out (p := ⟨w.heap.size, 2, none⟩) (by simp [Value.ownBlock]; omega) (.slice (some ⟨g, 0, none⟩) n gc))
  have K3 := Lib.hid (hw3 ▸ K2.out.far (p := ⟨w.heap.size, 2, none⟩) (by simp) (.slice (some ⟨g, 0, none⟩) n gc))
  have s0 : w3.cell? ⟨w.heap.size, 0, none⟩ = some (.int .i64 cap2) := by rw [← hw3, World.cell?_setCell_other _ _ _ _ (by simp)]; exact g1 0
  have s1 : w3.cell? ⟨w.heap.size, 1, none⟩ = some (.slice A2 ps2.length c2) := by rw [← hw3, World.cell?_setCell_other _ _ _ _ (by simp)]; exact g1 1
  have s2 : w3.cell? ⟨w.heap.size, 2, none⟩ = some (.slice (some ⟨g, 0, none⟩) n gc) := by rw [← hw3]; exact World.cell?_setCell_same _ _ _ (by rw [g1 2]; rfl)
  have gt : w3.cell? ⟨g, t, none⟩ = some (.slice (some ⟨b2, o2, none⟩) m ck) := by
    have := HO3.out.cells (g := g) rfl t _ HTV.out
    rwa [add_none, Nat.zero_add] at this
  have hfr : ∀ o, w3.frozen? ⟨g, o, none⟩ = false := by
    obtain ⟨g', gc', cur', he, _, hrow', _⟩ := own_form HO3.out (by omega)
    injection he with h1 _ _
    injection h1 with h1
    injection h1 with h1
    subst h1
    exact hrow'.free
  have hwl : w.heap.size < w3.heap.size := by omega
  have hgl : g < w3.heap.size := by omega
  have hnw : ∀ j u, (ts[t].flatMap encI)[j]? = some u → w3.cell? ((⟨b2, o2, none⟩ : Addr).add j) = some u := news_of_cells fun j u hu => (hY3.cell (p := ⟨b2, o2 + j, none⟩) hb2).trans (hnews2 j u hu)
  rw [hw3]
  have HY3 := Lib.hid hY3
  have BW := (Below.refl w3.heap.size w3).drew
  clear g1 gf1 hw3 hY2 hY3 hnews hnews2 HO K2 hone
  refine wp_region_held_drew (S := fun w' => w'.cell? ⟨w.heap.size, 2, none⟩ = some (.slice (some ⟨g, 0, none⟩) n gc)) (by kernel_rfl) ?_ (fun hHeldbr => ?_)
  · exact s2
  refine wpAnyH_take (i := 0) (oi := { dst := some 17, op := Op.fieldAddr 28 (Operand.tmp 5) 1, type := 0, pos := "ref.go:101", after := _, guard := none }) (v := ?vbr0) rfl (by kernel_rfl) (by kernel_rfl) (by kernel_rfl) (fun _ _ _ h => h) (Or.inl ⟨by rfl, ?hybr0⟩) (by assumption) ?restbr0
  case hybr0 => (intro w hSw; (try dsimp only at hSw); go_simp <;> with_reducible rfl)
  try simp only [Act.put, List.setIfInBounds_toArray, List.set_cons_zero, List.set_cons_succ]
  refine wpAnyH_take (i := 1) (oi := { dst := some 18, op := Op.load 26 (Operand.tmp 17), type := 26, pos := "ref.go:101", after := _, guard := none }) (v := ?vbr1) rfl (by kernel_rfl) (by kernel_rfl) (by kernel_rfl) (fun _ _ _ h => h) (Or.inl ⟨by rfl, ?hybr1⟩) (by assumption) ?restbr1
  case hybr1 => (intro w hSw; (try dsimp only at hSw); go_simp <;> with_reducible rfl)
  try simp only [Act.put, List.setIfInBounds_toArray, List.set_cons_zero, List.set_cons_succ]
  refine wpAnyH_take (i := 2) (oi := { dst := some 19, op := Op.move (Operand.tmp 2), type := 3, pos := "ref.go:101", after := _, guard := none }) (v := ?vbr2) rfl (by kernel_rfl) (by kernel_rfl) (by kernel_rfl) (fun _ _ _ h => h) (Or.inl ⟨by rfl, ?hybr2⟩) (by assumption) ?restbr2
  case hybr2 => (intro w hSw; (try dsimp only at hSw); go_simp <;> with_reducible rfl)
  try simp only [Act.put, List.setIfInBounds_toArray, List.set_cons_zero, List.set_cons_succ]
  refine wpAnyH_take (i := 3) (oi := { dst := some 20, op := Op.fieldAddr 28 (Operand.tmp 5) 1, type := 0, pos := "ref.go:101", after := _, guard := none }) (v := ?vbr3) rfl (by kernel_rfl) (by kernel_rfl) (by kernel_rfl) (fun _ _ _ h => h) (Or.inl ⟨by rfl, ?hybr3⟩) (by assumption) ?restbr3
  case hybr3 => (intro w hSw; (try dsimp only at hSw); go_simp <;> with_reducible rfl)
  try simp only [Act.put, List.setIfInBounds_toArray, List.set_cons_zero, List.set_cons_succ]
  refine wpAnyH_take (i := 4) (oi := { dst := some 21, op := Op.load 26 (Operand.tmp 20), type := 26, pos := "ref.go:101", after := _, guard := none }) (v := ?vbr4) rfl (by kernel_rfl) (by kernel_rfl) (by kernel_rfl) (fun _ _ _ h => h) (Or.inl ⟨by rfl, ?hybr4⟩) (by assumption) ?restbr4
  case hybr4 => (intro w hSw; (try dsimp only at hSw); go_simp <;> with_reducible rfl)
  try simp only [Act.put, List.setIfInBounds_toArray, List.set_cons_zero, List.set_cons_succ]
  refine wpAnyH_take (i := 5) (oi := { dst := some 22, op := Op.move (Operand.tmp 2), type := 3, pos := "ref.go:101", after := _, guard := none }) (v := ?vbr5) rfl (by kernel_rfl) (by kernel_rfl) (by kernel_rfl) (fun _ _ _ h => h) (Or.inl ⟨by rfl, ?hybr5⟩) (by assumption) ?restbr5
  case hybr5 => (intro w hSw; (try dsimp only at hSw); go_simp <;> with_reducible rfl)
  try simp only [Act.put, List.setIfInBounds_toArray, List.set_cons_zero, List.set_cons_succ]
  refine wpAnyH_take (i := 6) (oi := { dst := some 23, op := Op.indexAddr 26 (Operand.tmp 21) (Operand.tmp 22), type := 0, pos := "ref.go:101", after := _, guard := none }) (v := ?vbr6) rfl (by kernel_rfl) (by kernel_rfl) (by kernel_rfl) (fun _ _ _ h => h) (Or.inl ⟨by rfl, ?hybr6⟩) (by assumption) ?restbr6
  case hybr6 => (intro w hSw; (try dsimp only at hSw); go_simp <;> with_reducible rfl)
  try simp only [Act.put, List.setIfInBounds_toArray, List.set_cons_zero, List.set_cons_succ]
  refine wpAnyH_ready (rs := [7]) (by kernel_rfl) (by simp) ?_
  refine AllReadyH.cons (o := { dst := some 24, op := Op.load 47 (Operand.tmp 23), type := 47, pos := "ref.go:101", after := _, guard := none }) rfl (fun K hK => ?_) AllReadyH.nil
  go_simp
  skip
  refine hK.out _ _ ?_ (fun hHeldbr7 => ?_)
  · exact s2
  clear hK K hHeldbr
  try simp only [Act.put, List.setIfInBounds_toArray, List.set_cons_zero, List.set_cons_succ]
  refine wpAnyH_ready (rs := [8]) (by kernel_rfl) (by simp) ?_
  refine AllReadyH.cons (o := { dst := some 25, op := Op.call { callee := Callee.builtin Builtin.append, args := #[Operand.const (Value.slice none 0 0), Operand.tmp 24], argTypes := #[47, 47] }, type := 47, pos := "ref.go:101", after := _, guard := none }) rfl (fun K hK => ?_) AllReadyH.nil
  refine step_append_lies _ rfl (.const (.slice none 0 0)) (.tmp 24) _ rfl w3.heap.size 3 i1 _ 1 8 Try.underlying47 hi1 hy0 hy1 hy2 rfl (by omega) (.slice none 0 0) 0 [] rfl (World.ownsRow_nil _ _ _ _) ⟨b2, o2, none⟩ m ck (ts[t].flatMap encI) rfl hlen2 hnw hone2 (by omega) (by unfold maxLen; omega) (by omega) (by simp) _ rfl ?_
  intro g2 gc2 w4 hown4 hgrow4 hor hg4
  simp only [Nat.zero_add, List.nil_append] at hown4 ⊢
  have gt4 := (hgrow4.cell_far ⟨g, t, none⟩ (by simp; omega) (by simp [Value.ownBlock])).trans gt
  have gf4 := (hgrow4.frozen_far ⟨g, t, none⟩ (by simp; omega) (by simp [Value.ownBlock])).trans (hfr t)
  have s24 := (hgrow4.cell_far ⟨w.heap.size, 2, none⟩ (by simp; omega) (by simp [Value.ownBlock])).trans s2
  have s14 := (hgrow4.cell_far ⟨w.heap.size, 1, none⟩ (by simp; omega) (by simp [Value.ownBlock])).trans s1
  have s04 := (hgrow4.cell_far ⟨w.heap.size, 0, none⟩ (by simp; omega) (by simp [Value.ownBlock])).trans s0
  have HO4 := Lib.hid hown4
  have HG4 := Lib.hid hgrow4
  have hz4 := hgrow4.size
  have hz4' : w3.heap.size ≤ w4.heap.size := hz4
  clear hown4 hgrow4 gt s0 s1 s2 hnw hz4
  refine hK.out _ _ ?_ (fun hHeldbr8 => ?_)
  · exact s24
  clear hK K hHeldbr7
  try simp only [Act.put, List.setIfInBounds_toArray, List.set_cons_zero, List.set_cons_succ]
  refine wpAnyH_take (i := 9) (oi := { dst := some 26, op := Op.indexAddr 26 (Operand.tmp 18) (Operand.tmp 19), type := 0, pos := "ref.go:101", after := _, guard := none }) (v := ?vbr9) rfl (by kernel_rfl) (by kernel_rfl) (by kernel_rfl) (fun _ _ _ h => h) (Or.inl ⟨by rfl, ?hybr9⟩) (by assumption) ?restbr9
  case hybr9 => (intro w hSw; (try dsimp only at hSw); go_simp <;> with_reducible rfl)
  try simp only [Act.put, List.setIfInBounds_toArray, List.set_cons_zero, List.set_cons_succ]
  refine wpAnyH_ready (rs := [10]) (by kernel_rfl) (by simp) ?_
  refine AllReadyH.cons (o := { dst := none, op := Op.store 47 (Operand.tmp 26) (Operand.tmp 25), type := 0, pos := "ref.go:101", after := _, guard := none }) rfl (fun K hK => ?_) AllReadyH.nil
  go_simp
  skip
  refine hK.out _ _ ?_ (fun hHeldbr10 => ?_)
  · (rw [World.cell?_setCell_far _ _ _ _ (by simp; omega)]; exact s24)
  clear hK K hHeldbr8
  try simp only [Act.put, List.setIfInBounds_toArray, List.set_cons_zero, List.set_cons_succ]
  refine wpAnyH_done (by kernel_rfl) ?_ _
  obtain ⟨w5, hw5⟩ : ∃ x, w4.setCell ⟨g, t, none⟩ (.slice (some ⟨g2, 0, none⟩) m gc2) = x := ⟨_, rfl⟩
  have hg2 : w3.heap.size ≤ g2 := by
    obtain ⟨g', gc', cur', he, hx, hrow', _⟩ := own_form HO4.out (by omega)
    injection he with h1 _ _
    injection h1 with h1
    injection h1 with h1
    subst h1
    exact hx
  have hY4 : Below w.heap.size w w4 := HY3.out.drew.grown HG4.out (by simp; omega) (by simp [Value.ownBlock])
  have HY5 := Lib.hid (hw5 ▸ hY4.setCell (p := ⟨g, t, none⟩) (by simp; omega) (.slice (some ⟨g2, 0, none⟩) m gc2) : Below w.heap.size w w5)
  have HR5 := Lib.hid (hw5 ▸ own_far HO4.out (p := ⟨g, t, none⟩) (by simp [Value.ownBlock]; omega) (.slice (some ⟨g2, 0, none⟩) m gc2))
  have HT5 := Lib.hid (hw5 ▸ own_set (own_below HO3.out (show Below w3.heap.size w3 w4 from ((Below.refl w3.heap.size w3).drew.grown HG4.out (by simp) (by simp [Value.ownBlock])))) t (.slice (some ⟨g2, 0, none⟩) m gc2))
  have K5 := Lib.hid (hw5 ▸ (K3.out.drew.grown HG4.out (by simp [Value.ownBlock])).far (p := ⟨g, t, none⟩) (by simp; omega) (.slice (some ⟨g2, 0, none⟩) m gc2))
  have q0 : w5.cell? ⟨w.heap.size, 0, none⟩ = some (.int .i64 cap2) := by rw [← hw5, World.cell?_setCell_far _ _ _ _ (by simp; omega)]; exact s04
  have q1 : w5.cell? ⟨w.heap.size, 1, none⟩ = some (.slice A2 ps2.length c2) := by rw [← hw5, World.cell?_setCell_far _ _ _ _ (by simp; omega)]; exact s14
  have q2 : w5.cell? ⟨w.heap.size, 2, none⟩ = some (.slice (some ⟨g, 0, none⟩) n gc) := by rw [← hw5, World.cell?_setCell_far _ _ _ _ (by simp; omega)]; exact s24
  have qg : w5.cell? ⟨g, t, none⟩ = some (.slice (some ⟨g2, 0, none⟩) m gc2) := by rw [← hw5]; exact World.cell?_setCell_same _ _ _ gt4
  have hkl : k < ts[t].length := by have := HMM.out; omega
  have qk : w5.cell? ⟨g2, k, none⟩ = some (.int .i64 ts[t][k]) := by
    have := HR5.out.cells (g := g2) rfl k _ (encI_get _ _ hkl)
    rwa [add_none, Nat.zero_add] at this
  have qf : w5.frozen? ⟨g2, k, none⟩ = false := by
    obtain ⟨g', gc', cur', he, hx, hrow', _⟩ := own_form HR5.out (by omega)
    injection he with h1 _ _
    injection h1 with h1
    injection h1 with h1
    subst h1
    exact hrow'.free k
  have z0 := K5.out.cell
  have zf := K5.out.free
  have hz5 : w5.heap.size = w4.heap.size := by rw [← hw5]; simp
  rw [hw5]
  have n1 : ¬ g2 = w.heap.size := (by omega)
  have n2 : ¬ g2 = w.heap.size + 2 := (by omega)
  have n3 : ¬ w.heap.size = g2 := (by omega)
  have n4 : ¬ w.heap.size + 2 = g2 := (by omega)
  clear s04 s14 s24 gt4 gf4 hw5 BW hg4
  go_wp2
  refine bodyPost_ret (v := .agg #[.int .i64 cap2, .slice A2 ps2.length c2, .slice (some ⟨g, 0, none⟩) n gc]) (by simp [results, Try.results42, go_sem, z0]) rfl ⟨_, _, .slice (some ⟨g2, 0, none⟩) m gc2, rfl, rfl, ?_⟩
  · have hY6 : Below w.heap.size w ((((w5.setCell ⟨g2, k, none⟩ (.int .i64 p)).setCell ⟨w.heap.size + 1 + 1, 0, none⟩ (.int .i64 cap2)).setCell ⟨w.heap.size + 1 + 1, 1, none⟩ (.slice A2 ps2.length c2)).setCell ⟨w.heap.size + 1 + 1, 2, none⟩ (.slice (some ⟨g, 0, none⟩) n gc)) := (((HY5.out.setCell (by simp; omega) _).setCell (by simp; omega) _).setCell (by simp; omega) _).setCell (by simp; omega) _
    have hR6 := own_far (own_far (own_far (own_set HR5.out k (.int .i64 p)) (p := ⟨w.heap.size + 1 + 1, 0, none⟩) (by simp [Value.ownBlock]; omega) (.int .i64 cap2)) (p := ⟨w.heap.size + 1 + 1, 1, none⟩) (by simp [Value.ownBlock]; omega) (.slice A2 ps2.length c2)) (p := ⟨w.heap.size + 1 + 1, 2, none⟩) (by simp [Value.ownBlock]; omega) (.slice (some ⟨g, 0, none⟩) n gc)
    have hT6 := own_far (own_far (own_far (own_far HT5.out (p := ⟨g2, k, none⟩) (by simp [Value.ownBlock]; omega) (.int .i64 p)) (p := ⟨w.heap.size + 1 + 1, 0, none⟩) (by simp [Value.ownBlock]; omega) (.int .i64 cap2)) (p := ⟨w.heap.size + 1 + 1, 1, none⟩) (by simp [Value.ownBlock]; omega) (.slice A2 ps2.length c2)) (p := ⟨w.heap.size + 1 + 1, 2, none⟩) (by simp [Value.ownBlock]; omega) (.slice (some ⟨g, 0, none⟩) n gc)
    have hN := HN.out
    have hM := HMM.out
    have htt : t < ts.length := by omega
    have hset : (ts[t].flatMap encI).set k (.int .i64 p) = (ts[t].set k p).flatMap encI := by
      have := flat_set1 encI encI_len ts[t] k hkl 0 (by omega) (.int .i64 p) p rfl
      simpa using this
    rw [← hM, ← hN, ← hset]
    exact ⟨ownsRow_mono hT6 (by omega), ownsRow_mono hR6 (by omega), hY6⟩
end Go.Proofs.Ytoogobenjhmjjaa
namespace Go.Proofs.Ytoogobenjhmjjaa
open Go Go.RowKit
set_option linter.unusedVariables false
attribute [local go_sem ↓] Go.wp_at_zero Go.wp_at_succ

def RefH2 (cap : Int) (er : Int) (ps : List Pg) (ts : List (List Int)) (w : World) (e : Ending) (w' : World) : Prop :=
  ∃ v', e = .returned (.tuple #[v', .int .i64 er]) ∧ HpV w' v' cap ps ts ∧ Below w.heap.size w w'

set_option maxRecDepth 100000 in
set_option maxHeartbeats 8000000 in
theorem rWriteH_any (x : Value) (cap : Int) (ps : List Pg) (ts : List (List Int)) (t a v : Int) (w : World) (hv : HpV w x cap ps ts) (hn : ps.length ≤ 990) (hm : ts.length ≤ 1000) (hl : ∀ t ∈ ts, t.length ≤ 1000) :
    Calls Try.prog 18 #[x, .int .i64 t, .int .i64 a, .int .i64 v] w (RefH2 cap (writeH cap ps ts t a v).1 (writeH cap ps ts t a v).2.1 (writeH cap ps ts t a v).2.2 w) := by
  obtain ⟨A, c, B, d, rfl, hv⟩ := hv.form
  have cW := fun u W h => rwhy_any u cap ps ts t a W h (by omega) hl
  by_cases h0 : whyH cap ps ts t a = 0
  case neg =>
    rw [show writeH cap ps ts t a v = (whyH cap ps ts t a, ps, ts) from by unfold writeH; rw [if_neg h0]]
    generalize whyH cap ps ts t a = er at *
    have h0' : (er != 0) = true := by rw [bne_iff_ne]; exact h0
    clear h0 hl
    go_enter Try.func18, Try.ntmps18
    go_wp2_with fail
    refine (cW _ _ (hv.keep (by repeat (first | assumption | exact Below.refl _ _ | refine Below.alloc ?_ (by first | omega | (simp; done) | (simp; omega)) _ | refine Below.setCell ?_ (by first | omega | (simp; done) | (simp; omega)) _ | refine Below.drew ?_)))).mono ?_
    rintro e w1 ⟨rfl, hb1⟩
    have hz1 := hb1.size
    try simp at hz1
    have hY1 : Below w.heap.size w w1 := Below.trans (by repeat (first | assumption | exact Below.refl _ _ | refine Below.alloc ?_ (by first | omega | (simp; done) | (simp; omega)) _ | refine Below.setCell ?_ (by first | omega | (simp; done) | (simp; omega)) _ | refine Below.drew ?_)) (hb1.mono (by first | omega | (simp; done) | (simp; omega)))
    obtain ⟨hc1, hf1⟩ := bcell hb1
    have z1_0 : w.heap.size < w1.heap.size := by omega
    have z1_1 : w.heap.size + 1 < w1.heap.size := by omega
    have HB1 := Lib.hid hb1
    clear hb1
    go_wp2
    refine bodyPost_ret (v := .tuple #[.agg #[.int .i64 cap, .slice A ps.length c, .slice B ts.length d], .int .i64 er]) (by simp [results, Try.results18, go_sem, *]) rfl ⟨_, rfl, hv.keep (by repeat (first | assumption | exact Below.refl _ _ | refine Below.alloc ?_ (by first | omega | (simp; done) | (simp; omega)) _ | refine Below.setCell ?_ (by first | omega | (simp; done) | (simp; omega)) _ | refine Below.drew ?_)), (by repeat (first | assumption | exact Below.refl _ _ | refine Below.alloc ?_ (by first | omega | (simp; done) | (simp; omega)) _ | refine Below.setCell ?_ (by first | omega | (simp; done) | (simp; omega)) _ | refine Below.drew ?_))⟩
  case pos =>
    obtain ⟨hmy, k, rfl, hk, htab, hne, ha0, ha1⟩ := why_ok h0
    have hM := mayH_iff.1 hmy
    have h4 := hM.four hk hne
    obtain ⟨n, rfl⟩ : ∃ n : Nat, a = (n : Int) := ⟨a.toNat, by omega⟩
    have hn4 : n / 4 < ts[k].length := by omega
    have hpl : plAt ts (k : Int) (n : Int) = ts[k][n / 4] := by unfold plAt; rw [htab, Int.toNat_natCast, List.getD_eq_getElem?_getD, List.getElem?_eq_getElem hn4]; rfl
    obtain ⟨b, o, rfl, hb, hel⟩ := hv.tabs.elem (by omega)
    obtain ⟨Ak, ck, e0, hsl⟩ := hel k hk
    obtain ⟨b2, o2, rfl, hb2, hel2⟩ := ints_elem hsl (by omega)
    obtain ⟨tvs, hT, hTS⟩ := hv.tabs
    have e1 := hel2 (n / 4) hn4
    rw [h4] at e0
    have hp := hM.place hk hn4
    have E := Lib.hid (show writeH cap ps ts (k : Int) (n : Int) v = if (firstH cap ps ts[k][n / 4]).2.1 = 0 then
      (if (writeL cap (firstH cap ps ts[k][n / 4]).2.2 (firstH cap ps ts[k][n / 4]).1 ((n : Int) % 4) v).2.1 = 0 then
        (0, (writeL cap (firstH cap ps ts[k][n / 4]).2.2 (firstH cap ps ts[k][n / 4]).1 ((n : Int) % 4) v).2.2, ts.set k (ts[k].set (n / 4) (writeL cap (firstH cap ps ts[k][n / 4]).2.2 (firstH cap ps ts[k][n / 4]).1 ((n : Int) % 4) v).1))
       else ((writeL cap (firstH cap ps ts[k][n / 4]).2.2 (firstH cap ps ts[k][n / 4]).1 ((n : Int) % 4) v).2.1, ps, ts)) else ((firstH cap ps ts[k][n / 4]).2.1, ps, ts) from by
      unfold writeH
      rw [if_pos h0, hpl, htab, Int.toNat_natCast, Int.toNat_natCast])
    have hlk : ts[k].length ≤ 1000 := by omega
    have cX := fun xs cp pp p W h g => rwithH_any (.agg #[.int .i64 cap, .slice A ps.length c, .slice (some ⟨b, o, none⟩) ts.length d]) xs _ _ cap cp p ps pp ts tvs k (n / 4) W (hv.keep h) rfl (hT.below h) (hTS.below h) g hk hn4 hm hlk
    have cA := fun u W h => RAlloc_any u cap ps W h (by omega)
    have hln := allocX_len (cap := cap) (ps := ps)
    have HEND := Lib.hid (fun (Wf : World) (pv tv v2 : Value) (ps2 : List Pg) (r : Int) (h1 : Below w.heap.size w Wf) (h2 : Sl Wf 5 pv ps2.length (ps2.flatMap encP)) (h3 : Sl Wf 1 tv ts.length (tvs.set k v2)) (h4 : Sl Wf 1 v2 ts[k].length ((ts[k].set (n / 4) r).flatMap encI)) => (show HpV Wf (.agg #[.int .i64 cap, pv, tv]) cap ps2 (ts.set k (ts[k].set (n / 4) r)) from ⟨_, _, rfl, h2, tvs.set k v2, by rw [List.length_set]; exact h3, tbs_set hTS h1 hk (by rw [List.length_set]; exact h4)⟩))
    generalize ts[k] = tb at *
    generalize tb[n / 4] = p at *
    have hk0 : (0 : Int) ≤ (k : Int) := by omega
    have hk1 : (k : Int) < (ts.length : Int) := by omega
    have hd0 : (0 : Int) ≤ (n : Int) / 4 := by omega
    have hd1 : (n : Int) / 4 < 4 := by omega
    have hm0 : (0 : Int) ≤ (n : Int) % 4 := by omega
    have hm1 : (n : Int) % 4 < 4 := by omega
    have hdn : (((n / 4 : Nat) : Int)) = (n : Int) / 4 := by omega
    rw [hdn] at cX
    rw [h0] at cW
    clear hel hel2 hsl hmy h4 hn4 hpl htab hne h0 hM hdn hl hk hT hTS
    rcases hp with rfl | ⟨q, rfl, hq, r1, r2⟩
    · have HF := Lib.hid (show firstH cap ps (-1) = allocX cap ps from by unfold firstH; rw [if_pos rfl])
      have HE := Lib.hid (show writeH cap ps ts (k : Int) (n : Int) v = if (allocX cap ps).2.1 = 0 then
        (if (writeL cap (allocX cap ps).2.2 (allocX cap ps).1 ((n : Int) % 4) v).2.1 = 0 then
        (0, (writeL cap (allocX cap ps).2.2 (allocX cap ps).1 ((n : Int) % 4) v).2.2, ts.set k (tb.set (n / 4) (writeL cap (allocX cap ps).2.2 (allocX cap ps).1 ((n : Int) % 4) v).1)) else ((writeL cap (allocX cap ps).2.2 (allocX cap ps).1 ((n : Int) % 4) v).2.1, ps, ts)) else ((allocX cap ps).2.1, ps, ts) from by
        rw [E.out, HF.out])
      clear E HF
      rcases hal : allocX cap ps with ⟨r1, er1, ps1⟩
      rw [hal] at cA HE hln
      clear hal
      simp only at HE hln
      have cR := fun u W h => RWrite_any u cap r1 ((n : Int) % 4) v ps1 W h (by omega)
      rcases hwl : writeL cap ps1 r1 ((n : Int) % 4) v with ⟨r, er, ps2⟩
      rw [hwl] at cR HE
      clear hwl
      simp only at HE
      by_cases hz1 : er1 = 0
      · subst hz1
        by_cases hz : er = 0
        · subst hz
          rw [HE.out, if_pos rfl, if_pos rfl]
          clear HE
          go_enter Try.func18, Try.ntmps18
          go_wp2_with fail
          refine (cW _ _ (hv.keep (by repeat (first | assumption | exact Below.refl _ _ | refine Below.alloc ?_ (by first | omega | (simp; done) | (simp; omega)) _ | refine Below.setCell ?_ (by first | omega | (simp; done) | (simp; omega)) _ | refine Below.drew ?_)))).mono ?_
          rintro e w1 ⟨rfl, hb1⟩
          have hz1 := hb1.size
          try simp at hz1
          have hY1 : Below w.heap.size w w1 := Below.trans (by repeat (first | assumption | exact Below.refl _ _ | refine Below.alloc ?_ (by first | omega | (simp; done) | (simp; omega)) _ | refine Below.setCell ?_ (by first | omega | (simp; done) | (simp; omega)) _ | refine Below.drew ?_)) (hb1.mono (by first | omega | (simp; done) | (simp; omega)))
          obtain ⟨hc1, hf1⟩ := bcell hb1
          have z1_0 : w.heap.size < w1.heap.size := by omega
          have z1_1 : w.heap.size + 1 < w1.heap.size := by omega
          have HB1 := Lib.hid hb1
          clear hb1
          have x1_0 := (hY1.cell (p := ⟨b, o + k, none⟩) hb).trans e0
          have y1_0 : b < w1.heap.size := by omega
          have x1_1 := (hY1.cell (p := ⟨b2, o2 + n / 4, none⟩) hb2).trans e1
          have y1_1 : b2 < w1.heap.size := by omega
          go_wp2_with fail
          refine (cA _ _ ((hv.keep (by repeat (first | assumption | exact Below.refl _ _ | refine Below.alloc ?_ (by first | omega | (simp; done) | (simp; omega)) _ | refine Below.setCell ?_ (by first | omega | (simp; done) | (simp; omega)) _ | refine Below.drew ?_))).store)).mono ?_
          rintro e w2 ⟨v2, rfl, ⟨hst2, hso2⟩, hb2⟩
          have hz2 := hb2.size
          try simp at hz2
          have hY2 : Below w.heap.size w w2 := Below.trans (by repeat (first | assumption | exact Below.refl _ _ | refine Below.alloc ?_ (by first | omega | (simp; done) | (simp; omega)) _ | refine Below.setCell ?_ (by first | omega | (simp; done) | (simp; omega)) _ | refine Below.drew ?_)) (hb2.mono (by first | omega | (simp; done) | (simp; omega)))
          obtain ⟨hc2, hf2⟩ := bcell hb2
          have z2_0 : w.heap.size < w2.heap.size := by omega
          have z2_1 : w.heap.size + 1 < w2.heap.size := by omega
          have z2_2 : w1.heap.size < w2.heap.size := by omega
          have HB2 := Lib.hid hb2
          clear hb2
          have x2_0 := (hY2.cell (p := ⟨b, o + k, none⟩) hb).trans e0
          have y2_0 : b < w2.heap.size := by omega
          have x2_1 := (hY2.cell (p := ⟨b2, o2 + n / 4, none⟩) hb2).trans e1
          have y2_1 : b2 < w2.heap.size := by omega
          obtain ⟨pv2, rfl, hsn2⟩ := hso2 rfl
          clear hso2 hst2
          have hso2 := hsn2
          clear hsn2
          obtain ⟨A8, c8, rfl, _, _⟩ := (Sl.of_own hso2).form
          have HO2 := Lib.hid (ownsRow_mono hso2 (show w1.heap.size + 1 ≤ _ by simp))
          clear hso2
          go_wp2_with fail
          refine (cR _ _ ⟨_, rfl, Sl.of_own (base := w1.heap.size + 1) (e := 54) (by repeat (first | exact HO2.out | refine World.ownsRow.alloc ?_ _ | refine ownsRow_setCell_below ?_ (by first | omega | (simp; done) | (simp; omega)) _))⟩).mono ?_
          rintro e w3 ⟨v3, rfl, ⟨hst3, hso3⟩, hb3⟩
          have hz3 := hb3.size
          try simp at hz3
          have hY3 : Below w.heap.size w w3 := Below.trans (by repeat (first | assumption | exact Below.refl _ _ | refine Below.alloc ?_ (by first | omega | (simp; done) | (simp; omega)) _ | refine Below.setCell ?_ (by first | omega | (simp; done) | (simp; omega)) _ | refine Below.drew ?_)) (hb3.mono (by first | omega | (simp; done) | (simp; omega)))
          obtain ⟨hc3, hf3⟩ := bcell hb3
          have z3_0 : w.heap.size < w3.heap.size := by omega
          have z3_1 : w.heap.size + 1 < w3.heap.size := by omega
          have z3_2 : w1.heap.size < w3.heap.size := by omega
          have z3_3 : w2.heap.size < w3.heap.size := by omega
          have HB3 := Lib.hid hb3
          clear hb3
          have x3_0 := (hY3.cell (p := ⟨b, o + k, none⟩) hb).trans e0
          have y3_0 : b < w3.heap.size := by omega
          have x3_1 := (hY3.cell (p := ⟨b2, o2 + n / 4, none⟩) hb2).trans e1
          have y3_1 : b2 < w3.heap.size := by omega
          obtain ⟨pv3, rfl, hsn3⟩ := hso3 rfl
          clear hso3 hst3
          have hso3 := hsn3
          clear hsn3
          obtain ⟨A9, c9, rfl, _, _⟩ := (Sl.of_own hso3).form
          go_wp2_with fail
          refine (cX _ _ _ _ _ (by repeat (first | assumption | exact Below.refl _ _ | refine Below.alloc ?_ (by first | omega | (simp; done) | (simp; omega)) _ | refine Below.setCell ?_ (by first | omega | (simp; done) | (simp; omega)) _ | refine Below.drew ?_)) ((⟨_, rfl, Sl.of_own (own_below hso3 ((Below.refl _ _).alloc (Nat.le_refl _) _))⟩ : StV _ _ _ _))).mono ?_
          rintro e w4 ⟨pv4, tv4, x4, he4, rfl, ht4, hu4, hb4⟩
          have hz4 := hb4.size
          try simp at hz4
          have hY4 : Below w.heap.size w w4 := Below.trans (by repeat (first | assumption | exact Below.refl _ _ | refine Below.alloc ?_ (by first | omega | (simp; done) | (simp; omega)) _ | refine Below.setCell ?_ (by first | omega | (simp; done) | (simp; omega)) _ | refine Below.drew ?_)) (hb4.mono (by first | omega | (simp; done) | (simp; omega)))
          obtain ⟨hc4, hf4⟩ := bcell hb4
          have z4_0 : w.heap.size < w4.heap.size := by omega
          have z4_1 : w.heap.size + 1 < w4.heap.size := by omega
          have z4_2 : w1.heap.size < w4.heap.size := by omega
          have z4_3 : w2.heap.size < w4.heap.size := by omega
          have z4_4 : w3.heap.size < w4.heap.size := by omega
          have HB4 := Lib.hid hb4
          clear hb4
          have x4_0 := (hY4.cell (p := ⟨b, o + k, none⟩) hb).trans e0
          have y4_0 : b < w4.heap.size := by omega
          have x4_1 := (hY4.cell (p := ⟨b2, o2 + n / 4, none⟩) hb2).trans e1
          have y4_1 : b2 < w4.heap.size := by omega
          injection he4 with he4
          simp at he4
          subst he4
          obtain ⟨A3, c3, rfl, _, _⟩ := (Sl.of_own ht4).form
          have HO := Lib.hid (own_below (own_below hso3 ((Below.refl w3.heap.size w3).alloc (Nat.le_refl _) _)) HB4.out)
          have HT := Lib.hid ht4
          have HU := Lib.hid hu4
          clear hso3 ht4 hu4
          go_wp2
          refine bodyPost_ret (v := .tuple #[.agg #[.int .i64 cap, .slice A9 ps2.length c9, .slice A3 ts.length c3], .int .i64 0]) (by simp [results, Try.results18, go_sem, *]) rfl ⟨_, rfl, HEND.out _ _ _ x4 _ _ (by repeat (first | assumption | exact Below.refl _ _ | refine Below.alloc ?_ (by first | omega | (simp; done) | (simp; omega)) _ | refine Below.setCell ?_ (by first | omega | (simp; done) | (simp; omega)) _ | refine Below.drew ?_)) ?_ ?_ ?_, (by repeat (first | assumption | exact Below.refl _ _ | refine Below.alloc ?_ (by first | omega | (simp; done) | (simp; omega)) _ | refine Below.setCell ?_ (by first | omega | (simp; done) | (simp; omega)) _ | refine Below.drew ?_))⟩
          · exact Sl.of_own (ownsRow_setCell_below (ownsRow_setCell_below (ownsRow_setCell_below HO.out (a := ⟨w.heap.size + 1, 0, none⟩) (by simp; omega) _) (a := ⟨w.heap.size + 1, 1, none⟩) (by simp; omega) _) (a := ⟨w.heap.size + 1, 2, none⟩) (by simp; omega) _)
          · exact Sl.of_own (ownsRow_setCell_below (ownsRow_setCell_below (ownsRow_setCell_below HT.out (a := ⟨w.heap.size + 1, 0, none⟩) (by simp; omega) _) (a := ⟨w.heap.size + 1, 1, none⟩) (by simp; omega) _) (a := ⟨w.heap.size + 1, 2, none⟩) (by simp; omega) _)
          · exact Sl.of_own (ownsRow_setCell_below (ownsRow_setCell_below (ownsRow_setCell_below HU.out (a := ⟨w.heap.size + 1, 0, none⟩) (by simp; omega) _) (a := ⟨w.heap.size + 1, 1, none⟩) (by simp; omega) _) (a := ⟨w.heap.size + 1, 2, none⟩) (by simp; omega) _)
        · have hz' : (er != 0) = true := by rw [bne_iff_ne]; exact hz
          rw [HE.out, if_pos rfl, if_neg hz]
          clear HE hz
          go_enter Try.func18, Try.ntmps18
          go_wp2_with fail
          refine (cW _ _ (hv.keep (by repeat (first | assumption | exact Below.refl _ _ | refine Below.alloc ?_ (by first | omega | (simp; done) | (simp; omega)) _ | refine Below.setCell ?_ (by first | omega | (simp; done) | (simp; omega)) _ | refine Below.drew ?_)))).mono ?_
          rintro e w1 ⟨rfl, hb1⟩
          have hz1 := hb1.size
          try simp at hz1
          have hY1 : Below w.heap.size w w1 := Below.trans (by repeat (first | assumption | exact Below.refl _ _ | refine Below.alloc ?_ (by first | omega | (simp; done) | (simp; omega)) _ | refine Below.setCell ?_ (by first | omega | (simp; done) | (simp; omega)) _ | refine Below.drew ?_)) (hb1.mono (by first | omega | (simp; done) | (simp; omega)))
          obtain ⟨hc1, hf1⟩ := bcell hb1
          have z1_0 : w.heap.size < w1.heap.size := by omega
          have z1_1 : w.heap.size + 1 < w1.heap.size := by omega
          have HB1 := Lib.hid hb1
          clear hb1
          have x1_0 := (hY1.cell (p := ⟨b, o + k, none⟩) hb).trans e0
          have y1_0 : b < w1.heap.size := by omega
          have x1_1 := (hY1.cell (p := ⟨b2, o2 + n / 4, none⟩) hb2).trans e1
          have y1_1 : b2 < w1.heap.size := by omega
          go_wp2_with fail
          refine (cA _ _ ((hv.keep (by repeat (first | assumption | exact Below.refl _ _ | refine Below.alloc ?_ (by first | omega | (simp; done) | (simp; omega)) _ | refine Below.setCell ?_ (by first | omega | (simp; done) | (simp; omega)) _ | refine Below.drew ?_))).store)).mono ?_
          rintro e w2 ⟨v2, rfl, ⟨hst2, hso2⟩, hb2⟩
          have hz2 := hb2.size
          try simp at hz2
          have hY2 : Below w.heap.size w w2 := Below.trans (by repeat (first | assumption | exact Below.refl _ _ | refine Below.alloc ?_ (by first | omega | (simp; done) | (simp; omega)) _ | refine Below.setCell ?_ (by first | omega | (simp; done) | (simp; omega)) _ | refine Below.drew ?_)) (hb2.mono (by first | omega | (simp; done) | (simp; omega)))
          obtain ⟨hc2, hf2⟩ := bcell hb2
          have z2_0 : w.heap.size < w2.heap.size := by omega
          have z2_1 : w.heap.size + 1 < w2.heap.size := by omega
          have z2_2 : w1.heap.size < w2.heap.size := by omega
          have HB2 := Lib.hid hb2
          clear hb2
          have x2_0 := (hY2.cell (p := ⟨b, o + k, none⟩) hb).trans e0
          have y2_0 : b < w2.heap.size := by omega
          have x2_1 := (hY2.cell (p := ⟨b2, o2 + n / 4, none⟩) hb2).trans e1
          have y2_1 : b2 < w2.heap.size := by omega
          obtain ⟨pv2, rfl, hsn2⟩ := hso2 rfl
          clear hso2 hst2
          have hso2 := hsn2
          clear hsn2
          obtain ⟨A8, c8, rfl, _, _⟩ := (Sl.of_own hso2).form
          have HO2 := Lib.hid (ownsRow_mono hso2 (show w1.heap.size + 1 ≤ _ by simp))
          clear hso2
          go_wp2_with fail
          refine (cR _ _ ⟨_, rfl, Sl.of_own (base := w1.heap.size + 1) (e := 54) (by repeat (first | exact HO2.out | refine World.ownsRow.alloc ?_ _ | refine ownsRow_setCell_below ?_ (by first | omega | (simp; done) | (simp; omega)) _))⟩).mono ?_
          rintro e w3 ⟨v3, rfl, ⟨hst3, hso3⟩, hb3⟩
          have hz3 := hb3.size
          try simp at hz3
          have hY3 : Below w.heap.size w w3 := Below.trans (by repeat (first | assumption | exact Below.refl _ _ | refine Below.alloc ?_ (by first | omega | (simp; done) | (simp; omega)) _ | refine Below.setCell ?_ (by first | omega | (simp; done) | (simp; omega)) _ | refine Below.drew ?_)) (hb3.mono (by first | omega | (simp; done) | (simp; omega)))
          obtain ⟨hc3, hf3⟩ := bcell hb3
          have z3_0 : w.heap.size < w3.heap.size := by omega
          have z3_1 : w.heap.size + 1 < w3.heap.size := by omega
          have z3_2 : w1.heap.size < w3.heap.size := by omega
          have z3_3 : w2.heap.size < w3.heap.size := by omega
          have HB3 := Lib.hid hb3
          clear hb3
          have x3_0 := (hY3.cell (p := ⟨b, o + k, none⟩) hb).trans e0
          have y3_0 : b < w3.heap.size := by omega
          have x3_1 := (hY3.cell (p := ⟨b2, o2 + n / 4, none⟩) hb2).trans e1
          have y3_1 : b2 < w3.heap.size := by omega
          obtain ⟨A9, c9, rfl, -⟩ := hst3.form
          clear hso3 hst3
          go_wp2
          refine bodyPost_ret (v := .tuple #[.agg #[.int .i64 cap, .slice A ps.length c, .slice (some ⟨b, o, none⟩) ts.length d], .int .i64 er]) (by simp [results, Try.results18, go_sem, *]) rfl ⟨_, rfl, hv.keep (by repeat (first | assumption | exact Below.refl _ _ | refine Below.alloc ?_ (by first | omega | (simp; done) | (simp; omega)) _ | refine Below.setCell ?_ (by first | omega | (simp; done) | (simp; omega)) _ | refine Below.drew ?_)), (by repeat (first | assumption | exact Below.refl _ _ | refine Below.alloc ?_ (by first | omega | (simp; done) | (simp; omega)) _ | refine Below.setCell ?_ (by first | omega | (simp; done) | (simp; omega)) _ | refine Below.drew ?_))⟩
      · have hz' : (er1 != 0) = true := by rw [bne_iff_ne]; exact hz1
        rw [HE.out, if_neg hz1]
        clear HE hz1
        go_enter Try.func18, Try.ntmps18
        go_wp2_with fail
        refine (cW _ _ (hv.keep (by repeat (first | assumption | exact Below.refl _ _ | refine Below.alloc ?_ (by first | omega | (simp; done) | (simp; omega)) _ | refine Below.setCell ?_ (by first | omega | (simp; done) | (simp; omega)) _ | refine Below.drew ?_)))).mono ?_
        rintro e w1 ⟨rfl, hb1⟩
        have hz1 := hb1.size
        try simp at hz1
        have hY1 : Below w.heap.size w w1 := Below.trans (by repeat (first | assumption | exact Below.refl _ _ | refine Below.alloc ?_ (by first | omega | (simp; done) | (simp; omega)) _ | refine Below.setCell ?_ (by first | omega | (simp; done) | (simp; omega)) _ | refine Below.drew ?_)) (hb1.mono (by first | omega | (simp; done) | (simp; omega)))
        obtain ⟨hc1, hf1⟩ := bcell hb1
        have z1_0 : w.heap.size < w1.heap.size := by omega
        have z1_1 : w.heap.size + 1 < w1.heap.size := by omega
        have HB1 := Lib.hid hb1
        clear hb1
        have x1_0 := (hY1.cell (p := ⟨b, o + k, none⟩) hb).trans e0
        have y1_0 : b < w1.heap.size := by omega
        have x1_1 := (hY1.cell (p := ⟨b2, o2 + n / 4, none⟩) hb2).trans e1
        have y1_1 : b2 < w1.heap.size := by omega
        go_wp2_with fail
        refine (cA _ _ ((hv.keep (by repeat (first | assumption | exact Below.refl _ _ | refine Below.alloc ?_ (by first | omega | (simp; done) | (simp; omega)) _ | refine Below.setCell ?_ (by first | omega | (simp; done) | (simp; omega)) _ | refine Below.drew ?_))).store)).mono ?_
        rintro e w2 ⟨v2, rfl, ⟨hst2, hso2⟩, hb2⟩
        have hz2 := hb2.size
        try simp at hz2
        have hY2 : Below w.heap.size w w2 := Below.trans (by repeat (first | assumption | exact Below.refl _ _ | refine Below.alloc ?_ (by first | omega | (simp; done) | (simp; omega)) _ | refine Below.setCell ?_ (by first | omega | (simp; done) | (simp; omega)) _ | refine Below.drew ?_)) (hb2.mono (by first | omega | (simp; done) | (simp; omega)))
        obtain ⟨hc2, hf2⟩ := bcell hb2
        have z2_0 : w.heap.size < w2.heap.size := by omega
        have z2_1 : w.heap.size + 1 < w2.heap.size := by omega
        have z2_2 : w1.heap.size < w2.heap.size := by omega
        have HB2 := Lib.hid hb2
        clear hb2
        have x2_0 := (hY2.cell (p := ⟨b, o + k, none⟩) hb).trans e0
        have y2_0 : b < w2.heap.size := by omega
        have x2_1 := (hY2.cell (p := ⟨b2, o2 + n / 4, none⟩) hb2).trans e1
        have y2_1 : b2 < w2.heap.size := by omega
        obtain ⟨A9, c9, rfl, -⟩ := hst2.form
        clear hso2 hst2
        go_wp2
        refine bodyPost_ret (v := .tuple #[.agg #[.int .i64 cap, .slice A ps.length c, .slice (some ⟨b, o, none⟩) ts.length d], .int .i64 er1]) (by simp [results, Try.results18, go_sem, *]) rfl ⟨_, rfl, hv.keep (by repeat (first | assumption | exact Below.refl _ _ | refine Below.alloc ?_ (by first | omega | (simp; done) | (simp; omega)) _ | refine Below.setCell ?_ (by first | omega | (simp; done) | (simp; omega)) _ | refine Below.drew ?_)), (by repeat (first | assumption | exact Below.refl _ _ | refine Below.alloc ?_ (by first | omega | (simp; done) | (simp; omega)) _ | refine Below.setCell ?_ (by first | omega | (simp; done) | (simp; omega)) _ | refine Below.drew ?_))⟩
    · have HF := Lib.hid (show firstH cap ps (q : Int) = ((q : Int), 0, ps) from by unfold firstH; rw [if_neg (by omega)])
      have cR := fun u W h => RWrite_any u cap (q : Int) ((n : Int) % 4) v ps W h (by omega)
      have HE := Lib.hid (show writeH cap ps ts (k : Int) (n : Int) v = if (writeL cap ps (q : Int) ((n : Int) % 4) v).2.1 = 0 then
        (0, (writeL cap ps (q : Int) ((n : Int) % 4) v).2.2, ts.set k (tb.set (n / 4) (writeL cap ps (q : Int) ((n : Int) % 4) v).1)) else ((writeL cap ps (q : Int) ((n : Int) % 4) v).2.1, ps, ts) from by
        rw [E.out, HF.out, if_pos rfl])
      clear E HF r1 r2 hq cA
      rcases hwl : writeL cap ps (q : Int) ((n : Int) % 4) v with ⟨r, er, ps2⟩
      rw [hwl] at cR HE
      clear hwl
      simp only at HE
      have hq0 : (0 : Int) ≤ (q : Int) := by omega
      by_cases hz : er = 0
      · subst hz
        rw [HE.out, if_pos rfl]
        clear HE
        go_enter Try.func18, Try.ntmps18
        go_wp2_with fail
        refine (cW _ _ (hv.keep (by repeat (first | assumption | exact Below.refl _ _ | refine Below.alloc ?_ (by first | omega | (simp; done) | (simp; omega)) _ | refine Below.setCell ?_ (by first | omega | (simp; done) | (simp; omega)) _ | refine Below.drew ?_)))).mono ?_
        rintro e w1 ⟨rfl, hb1⟩
        have hz1 := hb1.size
        try simp at hz1
        have hY1 : Below w.heap.size w w1 := Below.trans (by repeat (first | assumption | exact Below.refl _ _ | refine Below.alloc ?_ (by first | omega | (simp; done) | (simp; omega)) _ | refine Below.setCell ?_ (by first | omega | (simp; done) | (simp; omega)) _ | refine Below.drew ?_)) (hb1.mono (by first | omega | (simp; done) | (simp; omega)))
        obtain ⟨hc1, hf1⟩ := bcell hb1
        have z1_0 : w.heap.size < w1.heap.size := by omega
        have z1_1 : w.heap.size + 1 < w1.heap.size := by omega
        have HB1 := Lib.hid hb1
        clear hb1
        have x1_0 := (hY1.cell (p := ⟨b, o + k, none⟩) hb).trans e0
        have y1_0 : b < w1.heap.size := by omega
        have x1_1 := (hY1.cell (p := ⟨b2, o2 + n / 4, none⟩) hb2).trans e1
        have y1_1 : b2 < w1.heap.size := by omega
        go_wp2_with fail
        refine (cR _ _ ((hv.keep (by repeat (first | assumption | exact Below.refl _ _ | refine Below.alloc ?_ (by first | omega | (simp; done) | (simp; omega)) _ | refine Below.setCell ?_ (by first | omega | (simp; done) | (simp; omega)) _ | refine Below.drew ?_))).store)).mono ?_
        rintro e w2 ⟨v2, rfl, ⟨hst2, hso2⟩, hb2⟩
        have hz2 := hb2.size
        try simp at hz2
        have hY2 : Below w.heap.size w w2 := Below.trans (by repeat (first | assumption | exact Below.refl _ _ | refine Below.alloc ?_ (by first | omega | (simp; done) | (simp; omega)) _ | refine Below.setCell ?_ (by first | omega | (simp; done) | (simp; omega)) _ | refine Below.drew ?_)) (hb2.mono (by first | omega | (simp; done) | (simp; omega)))
        obtain ⟨hc2, hf2⟩ := bcell hb2
        have z2_0 : w.heap.size < w2.heap.size := by omega
        have z2_1 : w.heap.size + 1 < w2.heap.size := by omega
        have z2_2 : w1.heap.size < w2.heap.size := by omega
        have HB2 := Lib.hid hb2
        clear hb2
        have x2_0 := (hY2.cell (p := ⟨b, o + k, none⟩) hb).trans e0
        have y2_0 : b < w2.heap.size := by omega
        have x2_1 := (hY2.cell (p := ⟨b2, o2 + n / 4, none⟩) hb2).trans e1
        have y2_1 : b2 < w2.heap.size := by omega
        obtain ⟨pv2, rfl, hsn2⟩ := hso2 rfl
        clear hso2 hst2
        have hso2 := hsn2
        clear hsn2
        obtain ⟨A9, c9, rfl, _, _⟩ := (Sl.of_own hso2).form
        go_wp2_with fail
        refine (cX _ _ _ _ _ (by repeat (first | assumption | exact Below.refl _ _ | refine Below.alloc ?_ (by first | omega | (simp; done) | (simp; omega)) _ | refine Below.setCell ?_ (by first | omega | (simp; done) | (simp; omega)) _ | refine Below.drew ?_)) ((⟨_, rfl, Sl.of_own (own_below hso2 ((Below.refl _ _).alloc (Nat.le_refl _) _))⟩ : StV _ _ _ _))).mono ?_
        rintro e w3 ⟨pv3, tv3, x3, he3, rfl, ht3, hu3, hb3⟩
        have hz3 := hb3.size
        try simp at hz3
        have hY3 : Below w.heap.size w w3 := Below.trans (by repeat (first | assumption | exact Below.refl _ _ | refine Below.alloc ?_ (by first | omega | (simp; done) | (simp; omega)) _ | refine Below.setCell ?_ (by first | omega | (simp; done) | (simp; omega)) _ | refine Below.drew ?_)) (hb3.mono (by first | omega | (simp; done) | (simp; omega)))
        obtain ⟨hc3, hf3⟩ := bcell hb3
        have z3_0 : w.heap.size < w3.heap.size := by omega
        have z3_1 : w.heap.size + 1 < w3.heap.size := by omega
        have z3_2 : w1.heap.size < w3.heap.size := by omega
        have z3_3 : w2.heap.size < w3.heap.size := by omega
        have HB3 := Lib.hid hb3
        clear hb3
        have x3_0 := (hY3.cell (p := ⟨b, o + k, none⟩) hb).trans e0
        have y3_0 : b < w3.heap.size := by omega
        have x3_1 := (hY3.cell (p := ⟨b2, o2 + n / 4, none⟩) hb2).trans e1
        have y3_1 : b2 < w3.heap.size := by omega
        injection he3 with he3
        simp at he3
        subst he3
        obtain ⟨A3, c3, rfl, _, _⟩ := (Sl.of_own ht3).form
        have HO := Lib.hid (own_below (own_below hso2 ((Below.refl w2.heap.size w2).alloc (Nat.le_refl _) _)) HB3.out)
        have HT := Lib.hid ht3
        have HU := Lib.hid hu3
        clear hso2 ht3 hu3
        go_wp2
        refine bodyPost_ret (v := .tuple #[.agg #[.int .i64 cap, .slice A9 ps2.length c9, .slice A3 ts.length c3], .int .i64 0]) (by simp [results, Try.results18, go_sem, *]) rfl ⟨_, rfl, HEND.out _ _ _ x3 _ _ (by repeat (first | assumption | exact Below.refl _ _ | refine Below.alloc ?_ (by first | omega | (simp; done) | (simp; omega)) _ | refine Below.setCell ?_ (by first | omega | (simp; done) | (simp; omega)) _ | refine Below.drew ?_)) ?_ ?_ ?_, (by repeat (first | assumption | exact Below.refl _ _ | refine Below.alloc ?_ (by first | omega | (simp; done) | (simp; omega)) _ | refine Below.setCell ?_ (by first | omega | (simp; done) | (simp; omega)) _ | refine Below.drew ?_))⟩
        · exact Sl.of_own (ownsRow_setCell_below (ownsRow_setCell_below (ownsRow_setCell_below HO.out (a := ⟨w.heap.size + 1, 0, none⟩) (by simp; omega) _) (a := ⟨w.heap.size + 1, 1, none⟩) (by simp; omega) _) (a := ⟨w.heap.size + 1, 2, none⟩) (by simp; omega) _)
        · exact Sl.of_own (ownsRow_setCell_below (ownsRow_setCell_below (ownsRow_setCell_below HT.out (a := ⟨w.heap.size + 1, 0, none⟩) (by simp; omega) _) (a := ⟨w.heap.size + 1, 1, none⟩) (by simp; omega) _) (a := ⟨w.heap.size + 1, 2, none⟩) (by simp; omega) _)
        · exact Sl.of_own (ownsRow_setCell_below (ownsRow_setCell_below (ownsRow_setCell_below HU.out (a := ⟨w.heap.size + 1, 0, none⟩) (by simp; omega) _) (a := ⟨w.heap.size + 1, 1, none⟩) (by simp; omega) _) (a := ⟨w.heap.size + 1, 2, none⟩) (by simp; omega) _)
      · have hz' : (er != 0) = true := by rw [bne_iff_ne]; exact hz
        rw [HE.out, if_neg hz]
        clear HE hz
        go_enter Try.func18, Try.ntmps18
        go_wp2_with fail
        refine (cW _ _ (hv.keep (by repeat (first | assumption | exact Below.refl _ _ | refine Below.alloc ?_ (by first | omega | (simp; done) | (simp; omega)) _ | refine Below.setCell ?_ (by first | omega | (simp; done) | (simp; omega)) _ | refine Below.drew ?_)))).mono ?_
        rintro e w1 ⟨rfl, hb1⟩
        have hz1 := hb1.size
        try simp at hz1
        have hY1 : Below w.heap.size w w1 := Below.trans (by repeat (first | assumption | exact Below.refl _ _ | refine Below.alloc ?_ (by first | omega | (simp; done) | (simp; omega)) _ | refine Below.setCell ?_ (by first | omega | (simp; done) | (simp; omega)) _ | refine Below.drew ?_)) (hb1.mono (by first | omega | (simp; done) | (simp; omega)))
        obtain ⟨hc1, hf1⟩ := bcell hb1
        have z1_0 : w.heap.size < w1.heap.size := by omega
        have z1_1 : w.heap.size + 1 < w1.heap.size := by omega
        have HB1 := Lib.hid hb1
        clear hb1
        have x1_0 := (hY1.cell (p := ⟨b, o + k, none⟩) hb).trans e0
        have y1_0 : b < w1.heap.size := by omega
        have x1_1 := (hY1.cell (p := ⟨b2, o2 + n / 4, none⟩) hb2).trans e1
        have y1_1 : b2 < w1.heap.size := by omega
        go_wp2_with fail
        refine (cR _ _ ((hv.keep (by repeat (first | assumption | exact Below.refl _ _ | refine Below.alloc ?_ (by first | omega | (simp; done) | (simp; omega)) _ | refine Below.setCell ?_ (by first | omega | (simp; done) | (simp; omega)) _ | refine Below.drew ?_))).store)).mono ?_
        rintro e w2 ⟨v2, rfl, ⟨hst2, hso2⟩, hb2⟩
        have hz2 := hb2.size
        try simp at hz2
        have hY2 : Below w.heap.size w w2 := Below.trans (by repeat (first | assumption | exact Below.refl _ _ | refine Below.alloc ?_ (by first | omega | (simp; done) | (simp; omega)) _ | refine Below.setCell ?_ (by first | omega | (simp; done) | (simp; omega)) _ | refine Below.drew ?_)) (hb2.mono (by first | omega | (simp; done) | (simp; omega)))
        obtain ⟨hc2, hf2⟩ := bcell hb2
        have z2_0 : w.heap.size < w2.heap.size := by omega
        have z2_1 : w.heap.size + 1 < w2.heap.size := by omega
        have z2_2 : w1.heap.size < w2.heap.size := by omega
        have HB2 := Lib.hid hb2
        clear hb2
        have x2_0 := (hY2.cell (p := ⟨b, o + k, none⟩) hb).trans e0
        have y2_0 : b < w2.heap.size := by omega
        have x2_1 := (hY2.cell (p := ⟨b2, o2 + n / 4, none⟩) hb2).trans e1
        have y2_1 : b2 < w2.heap.size := by omega
        obtain ⟨A9, c9, rfl, -⟩ := hst2.form
        clear hso2 hst2
        go_wp2
        refine bodyPost_ret (v := .tuple #[.agg #[.int .i64 cap, .slice A ps.length c, .slice (some ⟨b, o, none⟩) ts.length d], .int .i64 er]) (by simp [results, Try.results18, go_sem, *]) rfl ⟨_, rfl, hv.keep (by repeat (first | assumption | exact Below.refl _ _ | refine Below.alloc ?_ (by first | omega | (simp; done) | (simp; omega)) _ | refine Below.setCell ?_ (by first | omega | (simp; done) | (simp; omega)) _ | refine Below.drew ?_)), (by repeat (first | assumption | exact Below.refl _ _ | refine Below.alloc ?_ (by first | omega | (simp; done) | (simp; omega)) _ | refine Below.setCell ?_ (by first | omega | (simp; done) | (simp; omega)) _ | refine Below.drew ?_))⟩
end Go.Proofs.Ytoogobenjhmjjaa
namespace Go.Proofs.Ytoogobenjhmjjaa
open Go Go.RowKit
set_option linter.unusedVariables false

/-- The pages of the first j places. -/
def pgsK (t : List Int) (j : Nat) : List Int := (prsK t j).map (·.2)
theorem pgsK_len (t : List Int) (j : Nat) : (pgsK t j).length ≤ j := by unfold pgsK; rw [List.length_map]; exact prsK_len t j
theorem pgsK_all (t : List Int) : pgsK t t.length = pgs t := rfl
theorem pgsK_none {t : List Int} {j : Nat} (hj : j < t.length) (h : t[j] = -1) : pgsK t (j + 1) = pgsK t j := by
  have e : t.getD j 0 = -1 := by rw [List.getD_eq_getElem?_getD, List.getElem?_eq_getElem hj]; exact h
  unfold pgsK
  rw [prsK_succ, if_pos e]
theorem pgsK_some {t : List Int} {j : Nat} (hj : j < t.length) (h : t[j] ≠ -1) : pgsK t (j + 1) = pgsK t j ++ [t[j]] := by
  have e : t.getD j 0 = t[j] := by rw [List.getD_eq_getElem?_getD, List.getElem?_eq_getElem hj]; rfl
  unfold pgsK
  rw [prsK_succ, if_neg (by rw [e]; exact h), e]
  simp
theorem pgsK_mem {t : List Int} {j : Nat} (hj : j ≤ t.length) {x : Int} (h : x ∈ pgsK t j) : x ∈ t ∧ x ≠ -1 := by
  unfold pgsK at h
  rw [List.mem_map] at h
  obtain ⟨y, hy, rfl⟩ := h
  obtain ⟨h1, h2, h3⟩ := prsK_mem t j hj y hy
  refine ⟨?_, h3⟩
  rw [← h2, List.getD_eq_getElem?_getD, List.getElem?_eq_getElem h1]
  exact List.getElem_mem h1

section
variable {cap : Int} {ps : List Pg} {ts : List (List Int)} {k j : Nat}
theorem MH.share_step (h : MH cap ps ts) (hk : k < ts.length) (hj : j < ts[k].length) {q : Nat} (e : ts[k][j] = (q : Int)) :
    shareL cap (each_shareL cap ps (pgsK ts[k] j)) (q : Int) = (0, each_shareL cap ps (pgsK ts[k] (j + 1))) := by
  have hl4 := h.len _ (List.getElem_mem hk)
  obtain ⟨h1, h2⟩ := share_all h.may (pgsK ts[k] j) (fun x hx => by
    obtain ⟨hm, hx1⟩ := pgsK_mem (by omega) hx
    obtain ⟨i, hi, rfl⟩ := List.getElem_of_mem hm
    have hl := pgsK_len ts[k] j
    rcases h.place hk hi with e | ⟨q, e, hq, r1, r2⟩
    · exact absurd e hx1
    · exact ⟨q, e, hq, r1, by omega⟩)
  rw [pgsK_some hj (by rw [e]; omega), e, each_shareL_snoc]
  rcases h.place hk hj with e2 | ⟨q2, e2, hq, r1, r2⟩
  · rw [e] at e2; omega
  obtain rfl : q = q2 := by rw [e] at e2; omega
  have hc : (pgsK ts[k] j).count (q : Int) ≤ 4 := by
    have := List.count_le_length (a := (q : Int)) (l := pgsK ts[k] j)
    have := pgsK_len ts[k] j
    omega
  have hq2 : q < (each_shareL cap ps (pgsK ts[k] j)).length := by rw [each_shareL_len]; exact hq
  have h3 := h2 q hq
  rw [List.getElem?_eq_getElem hq2] at h3
  have h4 := Option.some.inj h3
  have : (shareL cap (each_shareL cap ps (pgsK ts[k] j)) (q : Int)).1 = 0 := by
    unfold shareL
    rw [if_pos (had_mk h1 hq2 (by rw [h4]; simp only; omega)), pgAt_get hq2, h4]
    rw [if_neg (by simp only; omega)]
  rw [← this]
theorem MH.free_step (h : MH cap ps ts) (hk : k < ts.length) (hj : j < ts[k].length) {q : Nat} (e : ts[k][j] = (q : Int)) :
    freeX cap (each_freeL cap ps (pgsK ts[k] j)) (q : Int) = (0, each_freeL cap ps (pgsK ts[k] (j + 1))) := by
  have hcnt : ∀ i, i ≤ ts[k].length → ∀ p : Nat, (pgsK ts[k] i).count (p : Int) ≤ ts[k].count (p : Int) := fun i hi p => by
    unfold pgsK
    rw [prsK_count ts[k] p i hi]
    exact (List.take_sublist i ts[k]).count_le _
  have hle : ∀ p (hp : p < ps.length), ((ts[k].count (p : Int) : Nat) : Int) ≤ ps[p].r := fun p hp => by
    have h3 := cnt_set hk [] p
    have h4 := h.refs p hp
    simp at h3
    omega
  obtain ⟨h1, h2⟩ := free_all h.may (pgsK ts[k] j) (fun x hx => by
    obtain ⟨hm, hx1⟩ := pgsK_mem (by omega) hx
    rcases h.pl _ (List.getElem_mem hk) x hm with e | e
    · exact absurd e hx1
    · exact e) (fun p hp => by
    have := hcnt j (by omega) p
    have := hle p hp
    omega)
  have hq : q < ps.length := by
    rcases h.pl _ (List.getElem_mem hk) _ (List.getElem_mem hj) with e2 | ⟨q2, e2, hq⟩
    · rw [e] at e2; omega
    · rw [e] at e2; omega
  have hs := pgsK_some hj (by rw [e]; omega)
  rw [e] at hs
  have hc := hcnt (j + 1) (by omega) q
  rw [hs, List.count_append] at hc
  simp only [List.count_singleton_self] at hc
  have hq2 : q < (each_freeL cap ps (pgsK ts[k] j)).length := by rw [each_freeL_len]; exact hq
  have h3 := h2 q hq
  rw [List.getElem?_eq_getElem hq2] at h3
  have h4 := Option.some.inj h3
  have hr := hle q hq
  rw [hs, each_freeL_snoc]
  have : (freeX cap (each_freeL cap ps (pgsK ts[k] j)) (q : Int)).1 = 0 := by
    unfold freeX
    rw [if_pos (had_mk h1 hq2 (by rw [h4, less_r]; omega))]
  rw [← this]
end
end Go.Proofs.Ytoogobenjhmjjaa
