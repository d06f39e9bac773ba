/- The walk of TableAll. -/
import Derived.Test.YtoogobenjhmjjaaTbPlain3
import Derived.Test.YtoogobenjhmjjaaTbOpen
namespace Go.Proofs.Ytoogobenjhmjjaa
open Go Go.RowKit
set_option linter.unusedVariables false

set_option maxRecDepth 100000 in
set_option maxHeartbeats 4000000 in
theorem tableAll_many (w : World) (A0 B0 : Option Addr) (c0 e0 : Nat) (cap : Int) (ps : List Pg) (ts : List (List Int)) (hst0 : HpV w (.agg #[.int .i64 cap, .slice A0 ps.length c0, .slice B0 ts.length e0]) cap ps ts)  (hF : fewH ps ts = false) :
    Calls Try.prog 9 #[.agg #[.int .i64 cap, .slice A0 ps.length c0, .slice B0 ts.length e0]] w fun e w' => e = .returned (.bool true) ∧ Below w.heap.size w w' := by
  have qF := fun v W h => few_any v cap ps ts W h
  rw [hF] at qF
  go_enter Try.func9, Try.ntmps9
  have hA0 := ((Below.refl w.heap.size w).alloc (Nat.le_refl _) (.cells #[.int .i64 cap, .slice A0 ps.length c0, .slice B0 ts.length e0] 28))
  replace hst0 := hst0.keep hA0
  have kC := Blk.new_ w 28 #[.int .i64 cap, .slice A0 ps.length c0, .slice B0 ts.length e0] (w.heap.size) (by simp)
  have hZ0 : Below w.heap.size w _ := hA0
  go_wp2_with fail
  refine (tawake_any _).mono ?_
  rintro e w1 ⟨rfl, hb1⟩
  obtain ⟨hc1, hf1⟩ := bcell hb1
  have hz1 := hb1.size
  simp at hz1
  replace hst0 := hst0.keep hb1
  replace kC := kC.keep hb1
  have hY1 := hZ0.trans (hb1.mono hZ0.size)
  have zkC_1 : w.heap.size < w1.heap.size := by omega
  have hZ1 : Below w.heap.size w w1 := hY1
  go_wp2_with fail
  refine (qF _ _ hst0).mono ?_
  rintro e w2 ⟨rfl, hb2⟩
  obtain ⟨hc2, hf2⟩ := bcell hb2
  have hz2 := hb2.size
  replace hst0 := hst0.keep hb2
  replace kC := kC.keep hb2
  have hY2 := hZ1.trans (hb2.mono hZ1.size)
  have zkC_2 : w.heap.size < w2.heap.size := by omega
  go_wp2
  go_ret
  exact ⟨by first | rfl | (simp [*]; done), hY2⟩

set_option maxRecDepth 100000 in
set_option maxHeartbeats 4000000 in
theorem tableAll_bad (w : World) (A0 B0 : Option Addr) (c0 e0 : Nat) (cap : Int) (ps : List Pg) (ts : List (List Int)) (hst0 : HpV w (.agg #[.int .i64 cap, .slice A0 ps.length c0, .slice B0 ts.length e0]) cap ps ts)  (hF : fewH ps ts = true) (hM : mayH cap ps ts = false) (ln : ps.length ≤ 20) :
    Calls Try.prog 9 #[.agg #[.int .i64 cap, .slice A0 ps.length c0, .slice B0 ts.length e0]] w fun e w' => e = .returned (.bool true) ∧ Below w.heap.size w w' := by
  have qF := fun v W h => few_any v cap ps ts W h
  rw [hF] at qF
  have qM := fun v W h => tmay_any v cap ps ts W h (by omega)
  rw [hM] at qM
  go_enter Try.func9, Try.ntmps9
  have hA0 := ((Below.refl w.heap.size w).alloc (Nat.le_refl _) (.cells #[.int .i64 cap, .slice A0 ps.length c0, .slice B0 ts.length e0] 28))
  replace hst0 := hst0.keep hA0
  have kC := Blk.new_ w 28 #[.int .i64 cap, .slice A0 ps.length c0, .slice B0 ts.length e0] (w.heap.size) (by simp)
  have hZ0 : Below w.heap.size w _ := hA0
  go_wp2_with fail
  refine (tawake_any _).mono ?_
  rintro e w1 ⟨rfl, hb1⟩
  obtain ⟨hc1, hf1⟩ := bcell hb1
  have hz1 := hb1.size
  simp at hz1
  replace hst0 := hst0.keep hb1
  replace kC := kC.keep hb1
  have hY1 := hZ0.trans (hb1.mono hZ0.size)
  have zkC_1 : w.heap.size < w1.heap.size := by omega
  have hZ1 : Below w.heap.size w w1 := hY1
  go_wp2_with fail
  refine (qF _ _ hst0).mono ?_
  rintro e w2 ⟨rfl, hb2⟩
  obtain ⟨hc2, hf2⟩ := bcell hb2
  have hz2 := hb2.size
  replace hst0 := hst0.keep hb2
  replace kC := kC.keep hb2
  have hY2 := hZ1.trans (hb2.mono hZ1.size)
  have zkC_2 : w.heap.size < w2.heap.size := by omega
  have hZ2 : Below w.heap.size w w2 := hY2
  go_wp2_with fail
  refine (qM _ _ hst0).mono ?_
  rintro e w3 ⟨rfl, hb3⟩
  obtain ⟨hc3, hf3⟩ := bcell hb3
  have hz3 := hb3.size
  replace hst0 := hst0.keep hb3
  replace kC := kC.keep hb3
  have hY3 := hZ2.trans (hb3.mono hZ2.size)
  have zkC_3 : w.heap.size < w3.heap.size := by omega
  go_wp2
  go_ret
  exact ⟨by first | rfl | (simp [*]; done), hY3⟩

/-- The heap in the law's own box, behind so many drops. -/
structure Left (cap : Int) (n k : Nat) (ps : List Pg) (ts : List (List Int)) : Prop where
  may : MH cap ps ts
  long : ts.length = n
  gone : ∀ j (h : j < ts.length), j < k → ts[j] = []
theorem Left.next {cap : Int} {n k : Nat} {ps : List Pg} {ts : List (List Int)} (h : Left cap n k ps ts) (hk : k < n) : Left cap n (k + 1) (dropH cap ps ts (k : Int)).2.2.1 (dropH cap ps ts (k : Int)).2.2.2 := by
  have hk' : k < ts.length := by have := h.long; omega
  by_cases h0 : (dropH cap ps ts (k : Int)).2.1 = 0
  · have h1 := (read_drop (u := 0) (b := 0) h0).1
    obtain ⟨k', _, e, hM, _, e2⟩ := drop_ok h0
    obtain rfl : k = k' := by omega
    rw [e2] at h1 ⊢
    refine ⟨h1, by simpa using h.long, fun j hj hjk => ?_⟩
    dsimp only at hj ⊢
    rw [List.getElem_set]
    split
    · rfl
    · exact h.gone j (by simpa using hj) (by omega)
  · have e := drop_err h0
    rw [e]
    refine ⟨h.may, h.long, fun j hj hjk => ?_⟩
    by_cases e : j = k
    · subst e
      have := mt (drop_at h.may hj).2 h0
      exact List.length_eq_zero_iff.1 (Nat.eq_zero_of_not_pos this)
    · exact h.gone j hj (by omega)
theorem Left.end {cap : Int} {n : Nat} {ps : List Pg} {ts : List (List Int)} (h : Left cap n n ps ts) : usedL cap ps = 0 := by
  have := used_none h.may fun t ht => by
    obtain ⟨j, hj, rfl⟩ := List.getElem_of_mem ht
    exact h.gone j hj (by have := h.long; omega)
  unfold usedL
  rw [if_pos h.may.may, this]; rfl

set_option maxRecDepth 100000 in
set_option maxHeartbeats 4000000 in
theorem tableAll_main (w : World) (A0 B0 : Option Addr) (c0 e0 : Nat) (cap : Int) (ps : List Pg) (ts : List (List Int)) (hst0 : HpV w (.agg #[.int .i64 cap, .slice A0 ps.length c0, .slice B0 ts.length e0]) cap ps ts) (hF : fewH ps ts = true) (hM : mayH cap ps ts = true) (ln : ps.length ≤ 20) :
    Calls Try.prog 9 #[.agg #[.int .i64 cap, .slice A0 ps.length c0, .slice B0 ts.length e0]] w fun e w' => e = .returned (.bool true) ∧ Below w.heap.size w w' := by
  have qF := fun v W h => few_any v cap ps ts W h
  rw [hF] at qF
  have qM := fun v W h => tmay_any v cap ps ts W h (by omega)
  rw [hM] at qM
  obtain ⟨n, hn⟩ : ∃ n, ts.length = n := ⟨_, rfl⟩
  have HN := Lib.hid hn
  have HST0 := Lib.hid hst0
  have HL : Hid (Left cap n 0 ps ts) := ⟨mayH_iff.1 hM, hn, fun j _ h => absurd h (by omega)⟩
  clear hF hM ln hn
  go_enter Try.func9, Try.ntmps9
  have hA0 := ((Below.refl w.heap.size w).alloc (Nat.le_refl _) (.cells #[.int .i64 cap, .slice A0 ps.length c0, .slice B0 ts.length e0] 28))
  replace hst0 := hst0.keep hA0
  have kC := Blk.new_ w 28 #[.int .i64 cap, .slice A0 ps.length c0, .slice B0 ts.length e0] (w.heap.size) (by simp)
  have hZ0 : Below w.heap.size w _ := hA0
  go_wp2_with fail
  refine (tawake_any _).mono ?_
  rintro e w1 ⟨rfl, hb1⟩
  obtain ⟨hc1, hf1⟩ := bcell hb1
  have hz1 := hb1.size
  simp at hz1
  replace hst0 := hst0.keep hb1
  replace kC := kC.keep hb1
  have hY1 := hZ0.trans (hb1.mono hZ0.size)
  have zkC_1 : w.heap.size < w1.heap.size := by omega
  have hZ1 : Below w.heap.size w w1 := hY1
  go_wp2_with fail
  refine (qF _ _ hst0).mono ?_
  rintro e w2 ⟨rfl, hb2⟩
  obtain ⟨hc2, hf2⟩ := bcell hb2
  have hz2 := hb2.size
  replace hst0 := hst0.keep hb2
  replace kC := kC.keep hb2
  have hY2 := hZ1.trans (hb2.mono hZ1.size)
  have zkC_2 : w.heap.size < w2.heap.size := by omega
  have hZ2 : Below w.heap.size w w2 := hY2
  go_wp2_with fail
  refine (qM _ _ hst0).mono ?_
  rintro e w3 ⟨rfl, hb3⟩
  obtain ⟨hc3, hf3⟩ := bcell hb3
  have hz3 := hb3.size
  replace hst0 := hst0.keep hb3
  replace kC := kC.keep hb3
  have hY3 := hZ2.trans (hb3.mono hZ2.size)
  have zkC_3 : w.heap.size < w3.heap.size := by omega
  have hZ3 : Below w.heap.size w w3 := hY3
  have kC_0 : w3.cell? ⟨w.heap.size, 0, none⟩ = some (.int .i64 cap) := by rw [kC.cell]; rfl
  have kC_1 : w3.cell? ⟨w.heap.size, 1, none⟩ = some (.slice A0 ps.length c0) := by rw [kC.cell]; rfl
  have kC_2 : w3.cell? ⟨w.heap.size, 2, none⟩ = some (.slice B0 ts.length e0) := by rw [kC.cell]; rfl
  have HY := Lib.hid hY3
  have HK := Lib.hid kC
  clear hY3 kC
  go_wp2_with fail
  have hV : Hid (HpV w (.agg #[.int .i64 cap, .slice A0 ps.length c0, .slice B0 ts.length e0]) cap ps ts) := HST0
  rw [HN.out] at *
  go_loopg [5] n (fun gg s5 wr => ∃ (kk c e : Nat) (A B : Option Addr) (qs : List Pg) (us : List (List Int)), kk ≤ n ∧ n - kk ≤ gg ∧ s5 = .int .i64 kk ∧ Hid (Below w.heap.size w wr) ∧ Hid (Blk wr w.heap.size 28 #[.int .i64 cap, .slice A qs.length c, .slice B n e]) ∧
    Hid (HpV w (.agg #[.int .i64 cap, .slice A qs.length c, .slice B n e]) cap qs us ∨ HpQ wr w.heap.size (.agg #[.int .i64 cap, .slice A qs.length c, .slice B n e]) cap qs us) ∧ Hid (Left cap n kk qs us))
  case atStart => exact ⟨0, c0, e0, A0, B0, ps, ts, by omega, by omega, rfl, HY, HK, .inl hV.out, HL⟩
  case round =>
    obtain ⟨kk, c, e, A, B, qs, us, hk, hg, rfl, BW, KB, HV, LF⟩ := hrel
    have hlq : qs.length ≤ 1000 := (by have := may_len LF.out.may.may; omega)
    have hlu : us.length = n := LF.out.long
    have hn5 : n ≤ 5 := hlu ▸ LF.out.may.five
    have hll : ∀ t ∈ us, t.length ≤ 1000 := fun t ht => (by rcases LF.out.may.len t ht with h | h <;> omega)
    have hVr : HpV wr (.agg #[.int .i64 cap, .slice A qs.length c, .slice B n e]) cap qs us := (by
      rcases HV.out with h | h
      · exact h.keep BW.out
      · exact h.to)
    have p0 : wr.cell? ⟨w.heap.size, 0, none⟩ = some (.int .i64 cap) := (by rw [KB.out.cell]; rfl)
    have p1 : wr.cell? ⟨w.heap.size, 1, none⟩ = some (.slice A qs.length c) := (by rw [KB.out.cell]; rfl)
    have p2 : wr.cell? ⟨w.heap.size, 2, none⟩ = some (.slice B n e) := (by rw [KB.out.cell]; rfl)
    have zb := KB.out.lt
    by_cases hlt : kk < n
    · have hltz : (kk : Int) < (n : Int) := (by omega)
      have hk0 : (0 : Int) ≤ (kk : Int) := (by omega)
      have hk' : kk < us.length := (by omega)
      have cD := fun W h => Drop_any (.agg #[.int .i64 cap, .slice A qs.length c, .slice B n e]) cap qs us kk W h hlq (by omega) hll
      have LF2 := Lib.hid (LF.out.next hlt)
      have hat := drop_at LF.out.may hk'
      obtain ⟨b, o, rfl, hb, hel⟩ := hVr.tabs.elem (by omega)
      obtain ⟨Ak, ck, e0, -⟩ := hel kk hk'
      rcases hr : dropH cap qs us (kk : Int) with ⟨r1, er, qs2, us2⟩
      rw [hr] at cD LF2 hat
      dsimp only at cD LF2 hat
      have hlu2 : us2.length = n := LF2.out.long
      have hlq2 : qs2.length ≤ 1000 := (by have := may_len LF2.out.may.may; omega)
      have HVr := Lib.hid hVr
      clear hr hel hVr
      go_wp2_with fail
      refine (cD _ HVr.out).mono ?_
      rintro x w5 ⟨v5, rfl, hq5, hb5⟩
      obtain ⟨A5, c5, B5, e5, rfl, -⟩ := hq5.to.form
      rw [hlu2] at hq5 ⊢
      have hz5 := hb5.size
      have p0' : w5.cell? ⟨w.heap.size, 0, none⟩ = some (.int .i64 cap) := (by rw [hb5.cell (p := ⟨w.heap.size, 0, none⟩) zb]; exact p0)
      have p1' : w5.cell? ⟨w.heap.size, 1, none⟩ = some (.slice A qs.length c) := (by rw [hb5.cell (p := ⟨w.heap.size, 1, none⟩) zb]; exact p1)
      have p2' : w5.cell? ⟨w.heap.size, 2, none⟩ = some (.slice (some ⟨b, o, none⟩) n e) := (by rw [hb5.cell (p := ⟨w.heap.size, 2, none⟩) zb]; exact p2)
      have x0 := (hb5.cell (p := ⟨b, o + kk, none⟩) hb).trans e0
      have k5 := KB.out.keep hb5
      have f0 := k5.free 0
      have f1 := k5.free 1
      have f2 := k5.free 2
      have hzb : w.heap.size < w5.heap.size := (by omega)
      have hbz : b < w5.heap.size := (by omega)
      have B6 := BW.out.trans (hb5.mono BW.out.size)
      have B7 := ((B6.setCell (p := ⟨w.heap.size, 0, none⟩) (Nat.le_refl _) (.int .i64 cap)).setCell (p := ⟨w.heap.size, 1, none⟩) (Nat.le_refl _) (.slice A5 qs2.length c5)).setCell (p := ⟨w.heap.size, 2, none⟩) (Nat.le_refl _) (.slice B5 n e5)
      have k7 := ((k5.set_ 0 (.int .i64 cap)).set_ 1 (.slice A5 qs2.length c5)).set_ 2 (.slice B5 n e5)
      have q7 := (((hq5.boxed k5 0 (.int .i64 cap)).boxed (k5.set_ 0 _) 1 (.slice A5 qs2.length c5)).boxed ((k5.set_ 0 _).set_ 1 _) 2 (.slice B5 n e5)).mono (show w.heap.size ≤ wr.heap.size by omega)
      have HR1 : Hid (Below w.heap.size w ((((w5.setCell ⟨w.heap.size, 0, none⟩ (.int .i64 cap)).setCell ⟨w.heap.size, 1, none⟩ (.slice A5 qs2.length c5)).setCell ⟨w.heap.size, 2, none⟩ (.slice B5 n e5)).alloc (.cells #[.int .i64 cap, .slice A5 qs2.length c5, .slice B5 n e5] 28))) := B7.alloc B7.size _
      have HR2 : Hid (Blk ((((w5.setCell ⟨w.heap.size, 0, none⟩ (.int .i64 cap)).setCell ⟨w.heap.size, 1, none⟩ (.slice A5 qs2.length c5)).setCell ⟨w.heap.size, 2, none⟩ (.slice B5 n e5)).alloc (.cells #[.int .i64 cap, .slice A5 qs2.length c5, .slice B5 n e5] 28)) w.heap.size 28 #[.int .i64 cap, .slice A5 qs2.length c5, .slice B5 n e5]) := k7.alloc _
      have HR3 : Hid (HpV w (.agg #[.int .i64 cap, .slice A5 qs2.length c5, .slice B5 n e5]) cap qs2 us2 ∨ HpQ ((((w5.setCell ⟨w.heap.size, 0, none⟩ (.int .i64 cap)).setCell ⟨w.heap.size, 1, none⟩ (.slice A5 qs2.length c5)).setCell ⟨w.heap.size, 2, none⟩ (.slice B5 n e5)).alloc (.cells #[.int .i64 cap, .slice A5 qs2.length c5, .slice B5 n e5] 28)) w.heap.size (.agg #[.int .i64 cap, .slice A5 qs2.length c5, .slice B5 n e5]) cap qs2 us2) := .inr (q7.keep ((Below.refl _ _).alloc (Nat.le_refl _) _))
      clear k5 hq5 B6 B7 k7 q7 p0 p1 p2 e0 hb5 hll
      by_cases h0 : er = 0
      · have h1 : (0 : Int) < (us[kk].length : Int) := (by have := hat.1 h0; omega)
        have h1' : 0 < us[kk].length := hat.1 h0
        subst h0
        clear hat
        generalize us[kk].length = m at *
        go_wp2
        go_roundg (n - (kk + 1))
        case measure => omega
        case rel => exact ⟨kk + 1, c5, e5, A5, B5, qs2, us2, by omega, by omega, by go_num, HR1, HR2, HR3, LF2⟩
      · have h1 : ¬ (0 : Int) < (us[kk].length : Int) := (by intro h; exact h0 (hat.2 (by omega)))
        have h2 : (er == 0) = false := (by simpa using h0)
        clear hat
        generalize us[kk].length = m at *
        go_wp2
        go_roundg (n - (kk + 1))
        case measure => omega
        case rel => exact ⟨kk + 1, c5, e5, A5, B5, qs2, us2, by omega, by omega, by go_num, HR1, HR2, HR3, LF2⟩
    · obtain rfl : n = kk := (by omega)
      have hltz : ¬ (n : Int) < (n : Int) := (by omega)
      have qU := fun v W h => Used_any v cap qs W h
      rw [LF.out.end] at qU
      have qN := fun v W h => tmay_any v cap qs us W h hlq
      rw [mayH_iff.2 LF.out.may] at qN
      have HVr := Lib.hid hVr
      clear hVr hll
      go_wp2_with fail
      refine (qU _ _ HVr.out.store).mono ?_
      rintro x w5 ⟨rfl, hb5⟩
      have p0' : w5.cell? ⟨w.heap.size, 0, none⟩ = some (.int .i64 cap) := (by rw [hb5.cell (p := ⟨w.heap.size, 0, none⟩) zb]; exact p0)
      have p1' : w5.cell? ⟨w.heap.size, 1, none⟩ = some (.slice A qs.length c) := (by rw [hb5.cell (p := ⟨w.heap.size, 1, none⟩) zb]; exact p1)
      have p2' : w5.cell? ⟨w.heap.size, 2, none⟩ = some (.slice B n e) := (by rw [hb5.cell (p := ⟨w.heap.size, 2, none⟩) zb]; exact p2)
      have B5 := BW.out.trans (hb5.mono BW.out.size)
      clear p0 p1 p2
      go_wp2_with fail
      refine (qN _ _ (HVr.out.keep hb5)).mono ?_
      rintro x w6 ⟨rfl, hb6⟩
      go_wp2
      go_ret
      exact ⟨rfl, B5.trans (hb6.mono B5.size)⟩
theorem tableAll_walk (w : World) (v0 : Value) (cap : Int) (ps : List Pg) (ts : List (List Int)) (hst0 : HpV w v0 cap ps ts) (_wc : okI cap) (_wp : ∀ q ∈ ps, pgOk q) (_wt : ∀ t ∈ ts, ∀ q ∈ t, okI q) :
    Calls Try.prog 9 #[v0] w fun e w' => e = .returned (.bool true) ∧ Below w.heap.size w w' := by
  obtain ⟨A0, c0, B0, e0, rfl, hst0⟩ := hst0.form
  cases hF : fewH ps ts with
  | false => exact tableAll_many w A0 B0 c0 e0 cap ps ts hst0 hF
  | true =>
  have ln : ps.length ≤ 20 := (few_iff.1 hF).2.1
  cases hM : mayH cap ps ts with
  | false => exact tableAll_bad w A0 B0 c0 e0 cap ps ts hst0 hF hM ln
  | true => exact tableAll_main w A0 B0 c0 e0 cap ps ts hst0 hF hM ln

end Go.Proofs.Ytoogobenjhmjjaa
