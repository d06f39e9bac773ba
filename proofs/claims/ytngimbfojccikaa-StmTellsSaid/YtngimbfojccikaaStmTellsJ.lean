/- Several texts in one: StAct, StMay. -/
import Derived.Test.YtngimbfojccikaaStStepm
namespace Go.Proofs.Ytngimbfojccikaa
set_option linter.unusedSimpArgs false
open Go Go.RowKit
set_option linter.unusedVariables false
set_option maxRecDepth 100000

set_option maxHeartbeats 1000000 in
theorem index_act (p : Ac → Bool) (g : Nat) (lb : Array Value) (eg : ∀ args w, (callFunc g args).run Try.prog w = .ok (.enter g args) w) (v : Value) (zs : List (Ac)) (w : World)
    (hp : PredB Try.prog g lb (fun x : Ac => Value.agg (encAc x).toArray) p w) (hv : Sl w 3 v zs.length (zs.flatMap encAc)) :
    Calls Try.prog 56 #[v, .func (.func g) #[] lb] w fun e w' => e = .returned (.int .i64 (idxF p zs)) ∧ Below w.heap.size w w' := by
  have hk : ∀ x, (encAc x).length = 3 := fun _ => rfl
  obtain ⟨hl, ⟨rfl, hz⟩ | ⟨a, c, rfl, hc, hm, hr⟩⟩ := hv
  · obtain rfl : zs = [] := List.eq_nil_of_length_eq_zero hz
    clear hl hz
    go_enter Try.func56, Try.ntmps56
    go_wp2
    refine wp_loop_rounds 1 ?_
    rw [rounds_succ]
    go_wp2
    go_ret
    exact ⟨rfl, Below.refl _ _⟩
  · obtain ⟨n, hn⟩ : ∃ n, zs.length = n := ⟨_, rfl⟩
    rw [hn] at hl hc hr ⊢
    have hbig : n ≤ 9223372036854775807 := by unfold maxLen at hm; omega
    have hrow : ∀ (W : World), Below w.heap.size w W → ∀ j (hj : j < zs.length), a.spot = none ∧ ∀ i u, (encAc zs[j])[i]? = some u → W.cell? ⟨a.block, a.off + j * 3 + i, none⟩ = some u := fun W hW j hj => by
      obtain ⟨hs, hC⟩ := hr (by omega)
      refine ⟨hs, fun i u hi => ?_⟩
      rw [Nat.add_assoc]
      exact (hC.same hW).2 _ _ (flat_get encAc hk zs j hj i u hi)
    clear hr
    have HN := Lib.hid hn
    clear hn hl hk hm hc
    go_enter Try.func56, Try.ntmps56
    go_wp2
    go_loopg [5, 8] n (fun gg _ s8 wr => ∃ kk : Nat, kk ≤ n ∧ n - kk ≤ gg ∧ s8 = .int .i64 kk ∧ Hid (Below w.heap.size w wr) ∧ Hid (∀ j (h : j < zs.length), j < kk → p zs[j] = false))
    case atStart => exact ⟨0, Nat.zero_le _, by omega, rfl, Below.refl _ w, fun j _ hj => absurd hj (Nat.not_lt_zero _)⟩
    case round =>
      obtain ⟨kk, hkk, hg, rfl, BW, AA⟩ := hrel
      by_cases hlt : kk < n
      · have hltz : (kk : Int) < (n : Int) := by omega
        have hlt' : kk < zs.length := by rw [HN.out]; exact hlt
        obtain ⟨hs, l2⟩ := hrow wr BW.out kk hlt'
        have hcall := hp wr zs[kk] BW.out
        clear hrow hp
        obtain ⟨b, o, s⟩ := a
        simp only at hs l2
        subst hs
        generalize hy : zs[kk] = y at l2 hcall
        have B : Hid (zs[kk] = y) := hy
        clear hy
        (have c0 := l2 0 _ rfl; have c1 := l2 1 _ rfl; have c2 := l2 2 _ rfl; simp only [Nat.add_zero] at c0)
        clear l2
        cases hq : p y with
        | true =>
          rw [hq] at hcall
          have HQ := Lib.hid hq
          clear hq
          go_wp2_with (go_at_fn g; refine hcall.mono ?_; rintro e w' ⟨rfl, hb'⟩)
          go_ret
          refine ⟨?_, BW.out.trans (hb'.mono BW.out.size)⟩
          rw [idxF_hit p zs kk hlt' (by rw [B.out]; exact HQ.out) (fun j hj => AA.out j (by omega) hj)]
          rfl
        | false =>
          rw [hq] at hcall
          have HQ := Lib.hid hq
          clear hq
          go_wp2_with (go_at_fn g; refine hcall.mono ?_; rintro e w' ⟨rfl, hb'⟩)
          go_roundg (n - (kk + 1))
          case measure => omega
          case rel =>
            refine ⟨kk + 1, by omega, by omega, by go_num, BW.out.trans (hb'.mono BW.out.size), (show Hid _ from fun j h hj => ?_)⟩
            by_cases e : j = kk
            · subst e
              rw [B.out]; exact HQ.out
            · exact AA.out j h (by omega)
      · have hltz : ¬ (kk : Int) < (n : Int) := by omega
        obtain rfl : n = kk := by omega
        go_wp2
        go_ret
        refine ⟨?_, BW.out⟩
        rw [idxF_miss p zs (fun j h => AA.out j h (by rw [HN.out] at h; exact h))]
        rfl
set_option maxHeartbeats 400000 in
theorem contains_act (p : Ac → Bool) (g : Nat) (lb : Array Value) (eg : ∀ args w, (callFunc g args).run Try.prog w = .ok (.enter g args) w) (v : Value) (zs : List (Ac)) (w : World)
    (hp : PredB Try.prog g lb (fun x : Ac => Value.agg (encAc x).toArray) p w) (hv : Sl w 3 v zs.length (zs.flatMap encAc)) :
    Calls Try.prog 31 #[v, .func (.func g) #[] lb] w fun e w' => e = .returned (.bool (zs.any p)) ∧ Below w.heap.size w w' := by
  rw [← idxF_any]
  have hcon := index_act p g lb eg v zs w hp hv
  clear hp hv eg
  generalize idxF p zs = r at hcon ⊢
  go_enter Try.func31, Try.ntmps31
  go_wp2_with (go_at_call 56; refine hcon.mono ?_; rintro e w' ⟨rfl, hb'⟩)
  go_ret
  exact ⟨rfl, hb'⟩

/-- May an act be? -/
def actB (words : Int) (x : Ac) : Bool := decide (0 ≤ x.d) && (decide (x.d < 3) && (decide (0 ≤ x.at_) && (decide (x.at_ < words) && (decide (-1048576 ≤ x.v) && decide (x.v ≤ 1048576)))))
def lB (words : Int) (l : List Ac) : Bool := decide (l.length ≤ 6) && l.all (actB words)
def txB (words : Int) (txs : List (List Ac)) : Bool := decide (txs.length ≤ 4) && txs.all (lB words)
def mayP (words mx : Int) (pl : List (List (List Ac))) : Bool := newOk words mx && (decide (1 ≤ pl.length) && (decide (pl.length ≤ 4) && pl.all (txB words)))
/-- A plan's value. -/
def planV (words mx : Int) (pv : Value) : Value := .agg #[.int .i64 words, .int .i64 mx, pv]

set_option maxHeartbeats 4000000 in
theorem act_any (words mx : Int) (pv : Value) (x : Ac) (w : World) :
    Calls Try.prog 33 #[planV words mx pv, .agg (encAc x).toArray] w fun e w' => e = .returned (.bool (actB words x)) ∧ Below w.heap.size w w' := by
  have hb0 : Below w.heap.size w ((w.alloc (.cells #[.int .i64 words, .int .i64 mx, pv] 24)).alloc (.cells (encAc x).toArray 53)) := ((Below.refl _ w).alloc (Nat.le_refl _) _).alloc (by simp) _
  simp only [planV, encAc] at hb0 ⊢
  obtain ⟨d, a, v⟩ := x
  by_cases q0 : 0 ≤ d
  case neg =>
    have hq : actB words ⟨d, a, v⟩ = false := by unfold actB; simp [q0]
    rw [hq]
    clear hq
    go_enter Try.func33, Try.ntmps33
    go_wp2
    go_ret
    exact ⟨rfl, hb0⟩
  by_cases q1 : d < 3
  case neg =>
    have hq : actB words ⟨d, a, v⟩ = false := by unfold actB; simp [q0, q1]
    rw [hq]
    clear hq
    go_enter Try.func33, Try.ntmps33
    go_wp2
    go_ret
    exact ⟨rfl, hb0⟩
  by_cases q2 : 0 ≤ a
  case neg =>
    have hq : actB words ⟨d, a, v⟩ = false := by unfold actB; simp [q0, q1, q2]
    rw [hq]
    clear hq
    go_enter Try.func33, Try.ntmps33
    go_wp2
    go_ret
    exact ⟨rfl, hb0⟩
  by_cases q3 : a < words
  case neg =>
    have hq : actB words ⟨d, a, v⟩ = false := by unfold actB; simp [q0, q1, q2, q3]
    rw [hq]
    clear hq
    go_enter Try.func33, Try.ntmps33
    go_wp2
    go_ret
    exact ⟨rfl, hb0⟩
  by_cases q4 : -1048576 ≤ v
  case neg =>
    have hq : actB words ⟨d, a, v⟩ = false := by unfold actB; simp [q0, q1, q2, q3, q4]
    rw [hq]
    clear hq
    go_enter Try.func33, Try.ntmps33
    go_wp2
    go_ret
    exact ⟨rfl, hb0⟩
  by_cases q5 : v ≤ 1048576
  case neg =>
    have hq : actB words ⟨d, a, v⟩ = false := by unfold actB; simp [q0, q1, q2, q3, q4, q5]
    rw [hq]
    clear hq
    go_enter Try.func33, Try.ntmps33
    go_wp2
    go_ret
    exact ⟨rfl, hb0⟩
  have hq : actB words ⟨d, a, v⟩ = true := by unfold actB; simp [q0, q1, q2, q3, q4, q5]
  rw [hq]
  clear hq
  go_enter Try.func33, Try.ntmps33
  go_wp2
  go_ret
  exact ⟨rfl, hb0⟩

set_option maxHeartbeats 4000000 in
theorem may1_any (words mx : Int) (pv : Value) (x : Ac) (B : Nat) (w : World) (hB : B < w.heap.size) (hc : Blk w B 24 #[.int .i64 words, .int .i64 mx, pv]) :
    Calls Try.prog 32 #[.agg (encAc x).toArray, .pointer (some ⟨B, 0, none⟩)] w fun e w' => e = .returned (.bool (!actB words x)) ∧ Below w.heap.size w w' := by
  have hb0 : Below w.heap.size w (w.alloc (.cells (encAc x).toArray 53)) := (Below.refl _ w).alloc (Nat.le_refl _) _
  have HA := Lib.hid (fun W => act_any words mx pv x W)
  have c0 : w.cell? ⟨B, 0, none⟩ = some (.int .i64 words) := by rw [hc.cell]; rfl
  have c1 : w.cell? ⟨B, 1, none⟩ = some (.int .i64 mx) := by rw [hc.cell]; rfl
  have c2 : w.cell? ⟨B, 2, none⟩ = some pv := by rw [hc.cell]; rfl
  unfold planV at HA
  simp only [encAc] at hb0 HA ⊢
  generalize actB words x = q at *
  clear hc
  go_enter Try.func32, Try.ntmps32
  go_wp2_with fail
  refine (HA.out _).mono ?_
  rintro e w' ⟨rfl, hb'⟩
  have HB := Lib.hid (hb0.trans (hb'.mono hb0.size))
  clear hb' hb0
  go_wp2
  go_ret
  exact ⟨rfl, HB.out⟩
end Go.Proofs.Ytngimbfojccikaa
namespace Go.Proofs.Ytngimbfojccikaa
set_option linter.unusedSimpArgs false
open Go Go.RowKit
set_option linter.unusedVariables false
set_option maxRecDepth 100000

theorem PlV.form {w : World} {v : Value} {pl : List (List (List Ac))} (h : PlV w v pl) : ∃ A c, v = .slice A pl.length c ∧ pl.length ≤ c ∧ c ≤ maxLen := by
  obtain ⟨tvs, h1, _⟩ := h
  exact h1.form

set_option maxHeartbeats 4000000 in
theorem may_no (words mx : Int) (pl : List (List (List Ac))) (pv : Value) (w : World) (hpl : PlV w pv pl) (hn : newOk words mx = false) :
    Calls Try.prog 17 #[planV words mx pv] w fun e w' => e = .returned (.bool false) ∧ Below w.heap.size w w' := by
  obtain ⟨A, c, rfl, _, _⟩ := hpl.form
  generalize pl.length = n at *
  have hb0 : Below w.heap.size w (w.alloc (.cells #[.int .i64 words, .int .i64 mx, .slice A n c] 24)) := (Below.refl _ w).alloc (Nat.le_refl _) _
  have HL := Lib.hid (fun W => LNew_no words mx W hn)
  clear hpl hn
  unfold planV
  go_enter Try.func17, Try.ntmps17
  go_wp2_with fail
  refine (HL.out _).mono ?_
  rintro e w1 ⟨rfl, hb1⟩
  have HB := Lib.hid (hb0.trans (hb1.mono hb0.size))
  clear hb1
  go_wp2
  go_ret
  exact ⟨rfl, HB.out.alloc HB.out.size _⟩

set_option maxHeartbeats 4000000 in
theorem may_len (words : Nat) (mx : Int) (pl : List (List (List Ac))) (pv : Value) (w : World) (hpl : PlV w pv pl) (h1 : 1 ≤ words) (h2 : words ≤ 8) (h3 : 0 ≤ mx) (h4 : mx ≤ 1000) (hlen : pl.length = 0 ∨ 4 < pl.length) :
    Calls Try.prog 17 #[planV (words : Int) mx pv] w fun e w' => e = .returned (.bool false) ∧ Below w.heap.size w w' := by
  obtain ⟨A, c, rfl, _, _⟩ := hpl.form
  generalize pl.length = n at *
  have hb0 : Below w.heap.size w (w.alloc (.cells #[.int .i64 words, .int .i64 mx, .slice A n c] 24)) := (Below.refl _ w).alloc (Nat.le_refl _) _
  have hbx : Blk (w.alloc (.cells #[.int .i64 words, .int .i64 mx, .slice A n c] 24)) w.heap.size 24 #[.int .i64 words, .int .i64 mx, .slice A n c] := Blk.new _ _ _
  have HBX := Lib.hid hbx
  have HL := Lib.hid (fun W => LNew_yes words mx W h1 h2 h3 h4)
  clear hpl h1 h2 h3 h4 hbx
  unfold planV
  rcases hlen with h0 | h0
  · subst h0
    go_enter Try.func17, Try.ntmps17
    go_wp2_with fail
    refine (HL.out _).mono ?_
    rintro e w1 ⟨v1, rfl, ⟨sv, rfl, hrow⟩, hb1⟩
    obtain ⟨A1, c1, rfl, _, _⟩ := (Sl.of_own hrow).form
    have HB := Lib.hid (hb0.trans (hb1.mono hb0.size))
    have c2 : w1.cell? ⟨w.heap.size, 2, none⟩ = some (.slice A 0 c) := by rw [(HBX.out.keep hb1).cell]; rfl
    have hl1 : w.heap.size < w1.heap.size := (HBX.out.keep hb1).lt
    clear hb1 hrow
    go_wp2
    go_ret
    exact ⟨rfl, HB.out.alloc HB.out.size _⟩
  · have hz : (4 : Int) < (n : Int) := by omega
    have hnz : ((n : Int) == 0) = false := by simp; omega
    go_enter Try.func17, Try.ntmps17
    go_wp2_with fail
    refine (HL.out _).mono ?_
    rintro e w1 ⟨v1, rfl, ⟨sv, rfl, hrow⟩, hb1⟩
    obtain ⟨A1, c1, rfl, _, _⟩ := (Sl.of_own hrow).form
    have HB := Lib.hid (hb0.trans (hb1.mono hb0.size))
    have c2 : w1.cell? ⟨w.heap.size, 2, none⟩ = some (.slice A n c) := by rw [(HBX.out.keep hb1).cell]; rfl
    have hl1 : w.heap.size < w1.heap.size := (HBX.out.keep hb1).lt
    clear hb1 hrow
    go_wp2
    go_ret
    exact ⟨rfl, HB.out.alloc HB.out.size _⟩

set_option maxHeartbeats 4000000 in
theorem may_yes (words : Nat) (mx : Int) (pl : List (List (List Ac))) (pv : Value) (w : World) (hpl : PlV w pv pl) (h1 : 1 ≤ words) (h2 : words ≤ 8) (h3 : 0 ≤ mx) (h4 : mx ≤ 1000) (hlen0 : 1 ≤ pl.length) (hlen4 : pl.length ≤ 4) :
    Calls Try.prog 17 #[planV (words : Int) mx pv] w fun e w' => e = .returned (.bool (pl.all (txB (words : Int)))) ∧ Below w.heap.size w w' := by
  obtain ⟨b0, o0, c, A', d', e0, hbl, hmx, _, _⟩ := hpl.at_ (List.getElem?_eq_getElem (show 0 < pl.length by omega))
  subst e0
  obtain ⟨n, hn⟩ : ∃ n, n = pl.length := ⟨_, rfl⟩
  obtain ⟨q, hq⟩ : ∃ q, q = pl.all (txB (words : Int)) := ⟨_, rfl⟩
  rw [← hq]
  have HT := Lib.hid (show (∀ (i : Nat) txs, pl[i]? = some txs → i < n → txB (words : Int) txs = true) → q = true from fun h => by
    rw [hq, List.all_eq_true]
    intro txs hm
    obtain ⟨i, hi, rfl⟩ := List.getElem_of_mem hm
    exact h i _ (List.getElem?_eq_getElem hi) (by omega))
  have HF := Lib.hid (show ∀ (i : Nat) txs, pl[i]? = some txs → txB (words : Int) txs = false → q = false from fun i txs hi h => by
    rw [hq, List.all_eq_false]
    exact ⟨txs, List.mem_of_getElem? hi, by simp [h]⟩)
  have HPL := Lib.hid (fun W (hb : Below w.heap.size w W) (i : Nat) txs (hi : pl[i]? = some txs) => (hpl.below hb).at_ hi)
  have HN := Lib.hid hn
  rw [← hn] at hlen0 hlen4 HPL ⊢
  have hb0 : Below w.heap.size w (w.alloc (.cells #[.int .i64 words, .int .i64 mx, .slice (some ⟨b0, o0, none⟩) n c] 24)) := (Below.refl _ w).alloc (Nat.le_refl _) _
  have hbx : Blk (w.alloc (.cells #[.int .i64 words, .int .i64 mx, .slice (some ⟨b0, o0, none⟩) n c] 24)) w.heap.size 24 #[.int .i64 words, .int .i64 mx, .slice (some ⟨b0, o0, none⟩) n c] := Blk.new _ _ _
  have HBX := Lib.hid hbx
  have HL := Lib.hid (fun W => LNew_yes words mx W h1 h2 h3 h4)
  have eg : ∀ args w, (callFunc 32 args).run Try.prog w = .ok (.enter 32 args) w := enters_of Try.func32 (by kernel_rfl) rfl
  have HCO := Lib.hid (fun (W : World) (hb : Below (w.alloc (.cells #[.int .i64 words, .int .i64 mx, .slice (some ⟨b0, o0, none⟩) n c] 24)).heap.size (w.alloc (.cells #[.int .i64 words, .int .i64 mx, .slice (some ⟨b0, o0, none⟩) n c] 24)) W) v (l : List Ac) (hl : AcV W v l) => contains_act (fun x => !actB (words : Int) x) 32 #[.pointer (some ⟨w.heap.size, 0, none⟩)] eg v l W
    (fun W2 x hb2 => may1_any words mx _ x w.heap.size W2 (Nat.lt_of_lt_of_le (hbx.keep hb).lt hb2.size) ((hbx.keep hb).keep hb2)) hl)
  have hz : ¬ (4 : Int) < (n : Int) := by omega
  have hnz : ((n : Int) == 0) = false := by simp; omega
  clear hpl h1 h2 h3 h4 hbx hq hn eg
  unfold planV
  go_enter Try.func17, Try.ntmps17
  go_wp2_with fail
  refine (HL.out _).mono ?_
  rintro e w1 ⟨v1, rfl, ⟨sv, rfl, hrow⟩, hb1⟩
  obtain ⟨A1, c1, rfl, _, _⟩ := (Sl.of_own hrow).form
  have HX := Lib.hid (hb1.alloc hb1.size (.cells #[.int .i64 0, .int .i64 mx, .slice A1 (List.replicate words (⟨0, -1⟩ : Lk)).length c1] 30))
  have c2 : w1.cell? ⟨w.heap.size, 2, none⟩ = some (.slice (some ⟨b0, o0, none⟩) n c) := by rw [(HBX.out.keep hb1).cell]; rfl
  have hl1 : w.heap.size < w1.heap.size := (HBX.out.keep hb1).lt
  have HB0 := Lib.hid hb0
  rw [List.length_replicate] at HX ⊢
  clear hb1 hrow hb0
  go_wp2_with fail
  have HXX := Lib.hid (HB0.out.trans (HX.out.mono HB0.out.size))
  clear c2
  go_loopg [34] n (fun gg s34 wr => ∃ i : Nat, s34 = .int .i64 i ∧ i ≤ n ∧ n - i ≤ gg ∧ Hid ((∀ (i' : Nat) txs, pl[i']? = some txs → i' < i → txB (words : Int) txs = true) ∧ Below w.heap.size w wr ∧ Below (w.alloc (.cells #[.int .i64 words, .int .i64 mx, .slice (some ⟨b0, o0, none⟩) n c] 24)).heap.size (w.alloc (.cells #[.int .i64 words, .int .i64 mx, .slice (some ⟨b0, o0, none⟩) n c] 24)) wr))
  case atStart => exact ⟨0, by go_num, by omega, by omega, (show Hid _ from ⟨fun i' _ _ h => absurd h (Nat.not_lt_zero _), HXX.out, HX.out⟩)⟩
  case round =>
    obtain ⟨i, rfl, hin, hg, HI⟩ := hrel
    by_cases hlt : i < n
    · have hltz : (i : Int) < (n : Int) := by omega
      have hi0 : (0 : Int) ≤ (i : Int) := by omega
      have hil : i < pl.length := by rw [← HN.out]; exact hlt
      obtain ⟨txs, htx⟩ : ∃ txs, pl[i]? = some txs := ⟨_, List.getElem?_eq_getElem hil⟩
      obtain ⟨b1, o1, c1', A2, d2, e1, hb1, _, hc1, hT⟩ := HPL.out wr HI.out.2.1 i txs htx
      injection e1 with e1 _ e1c
      subst e1c
      injection e1 with e1
      injection e1 with e1 e1'
      subst e1 e1'
      have HTX := Lib.hid htx
      have HFI := Lib.hid (HF.out i txs htx)
      have HTT := Lib.hid hT
      obtain ⟨m, hm⟩ : ∃ m, m = txs.length := ⟨_, rfl⟩
      have HM := Lib.hid hm
      have hmb : m ≤ 9223372036854775807 := by obtain ⟨avs, h5, _⟩ := hT; obtain ⟨_, _, _, h6, h7⟩ := h5.form; unfold maxLen at h7; omega
      rw [← hm] at hc1
      clear hT htx
      by_cases h4 : m ≤ 4
      · have h4z : ¬ (4 : Int) < (m : Int) := by omega
        clear hm
        go_wp2_with fail
        go_loopg [43] m (fun gg s43 wr => ∃ j : Nat, s43 = .int .i64 j ∧ j ≤ m ∧ m - j ≤ gg ∧ Hid ((∀ (j' : Nat) l, txs[j']? = some l → j' < j → lB (words : Int) l = true) ∧ Below w.heap.size w wr ∧ Below (w.alloc (.cells #[.int .i64 words, .int .i64 mx, .slice (some ⟨b0, o0, none⟩) n c] 24)).heap.size (w.alloc (.cells #[.int .i64 words, .int .i64 mx, .slice (some ⟨b0, o0, none⟩) n c] 24)) wr ∧ TxV wr (.slice A2 txs.length d2) txs))
        case atStart => exact ⟨0, by go_num, by omega, by omega, (show Hid _ from ⟨fun j' _ _ h => absurd h (Nat.not_lt_zero _), HI.out.2.1, HI.out.2.2, HTT.out⟩)⟩
        case round =>
          obtain ⟨j, rfl, hjn, hg2, HJ⟩ := hrel
          clear hc1
          by_cases hlt2 : j < m
          · have hltz2 : (j : Int) < (m : Int) := by omega
            have hj0 : (0 : Int) ≤ (j : Int) := by omega
            have hjl : j < txs.length := by rw [← HM.out]; exact hlt2
            obtain ⟨l, hl⟩ : ∃ l, txs[j]? = some l := ⟨_, List.getElem?_eq_getElem hjl⟩
            obtain ⟨b3, o3, c3, A4, d4, e3, hb3, _, hc3, hL⟩ := HJ.out.2.2.2.at_ hl
            injection e3 with e3 _ e3c
            subst e3 e3c
            have HLL := Lib.hid hl
            have HC := Lib.hid (HCO.out wr HJ.out.2.2.1 _ l hL)
            have HFJ := Lib.hid (show lB (words : Int) l = false → q = false from fun h => HFI.out (by unfold txB; rw [Bool.and_eq_false_iff]; refine .inr ?_; rw [List.all_eq_false]; exact ⟨l, List.mem_of_getElem? hl, by simp [h]⟩))
            obtain ⟨p, hp⟩ : ∃ p, p = l.length := ⟨_, rfl⟩
            have HPP := Lib.hid hp
            rw [← hp] at hc3 HC
            have hpb : p ≤ 9223372036854775807 := by obtain ⟨_, _, _, h6, h7⟩ := Sl.form hL; unfold maxLen at h7; omega
            clear hL hl hp
            by_cases h6 : p ≤ 6
            · have h6z : ¬ (6 : Int) < (p : Int) := by omega
              obtain ⟨z, hz'⟩ : ∃ z, z = l.any (fun x => !actB (words : Int) x) := ⟨_, rfl⟩
              rw [← hz'] at HC
              have HZ := Lib.hid hz'
              clear hz'
              go_wp2_with fail
              refine HC.out.mono ?_
              rintro e w5 ⟨rfl, hb5⟩
              have HB5 := Lib.hid hb5
              clear hb5
              cases z with
              | true =>
                have HLB := Lib.hid (HFJ.out (by
                  unfold lB
                  rw [Bool.and_eq_false_iff]
                  refine .inr ?_
                  have := HZ.out.symm
                  rw [List.any_eq_true] at this
                  obtain ⟨x, hx, hx2⟩ := this
                  rw [List.all_eq_false]
                  exact ⟨x, hx, by simpa using hx2⟩))
                go_wp2
                go_ret
                exact ⟨congrArg (fun b => Ending.returned (.bool b)) HLB.out.symm, HJ.out.2.1.trans (HB5.out.mono HJ.out.2.1.size)⟩
              | false =>
                have HLB := Lib.hid (show lB (words : Int) l = true from by
                  unfold lB
                  rw [Bool.and_eq_true]
                  refine ⟨by rw [← HPP.out]; exact decide_eq_true h6, ?_⟩
                  have := HZ.out.symm
                  rw [List.any_eq_false] at this
                  rw [List.all_eq_true]
                  intro x hx
                  have := this x hx
                  simpa using this)
                go_wp2
                go_roundg (m - (j + 1))
                case measure => omega
                case rel =>
                  refine ⟨j + 1, by go_num, by omega, by omega, (show Hid _ from ⟨fun j' l' hj' hlt' => ?_, HJ.out.2.1.trans (HB5.out.mono HJ.out.2.1.size), HJ.out.2.2.1.trans (HB5.out.mono HJ.out.2.2.1.size), HJ.out.2.2.2.below HB5.out⟩)⟩
                  rcases Nat.lt_or_ge j' j with h1 | h1
                  · exact HJ.out.1 j' l' hj' h1
                  · obtain rfl : j' = j := by omega
                    rw [HLL.out] at hj'
                    injection hj' with hj'
                    rw [← hj']
                    exact HLB.out
            · have h6z : (6 : Int) < (p : Int) := by omega
              have HLB := Lib.hid (HFJ.out (by unfold lB; rw [Bool.and_eq_false_iff]; exact .inl (decide_eq_false (by rw [← HPP.out]; exact h6))))
              go_wp2
              go_ret
              exact ⟨congrArg (fun b => Ending.returned (.bool b)) HLB.out.symm, HJ.out.2.1⟩
          · obtain rfl : m = j := by omega
            have HTB := Lib.hid (show txB (words : Int) txs = true from by
              unfold txB
              rw [Bool.and_eq_true]
              refine ⟨by rw [← HM.out]; exact decide_eq_true h4, ?_⟩
              rw [List.all_eq_true]
              intro l hl
              obtain ⟨j', hj', rfl⟩ := List.getElem_of_mem hl
              exact HJ.out.1 j' _ (List.getElem?_eq_getElem hj') (by have := HM.out; omega))
            go_wp2
            go_roundg (n - (i + 1))
            case measure => omega
            case rel =>
              refine ⟨i + 1, by go_num, by omega, by omega, (show Hid _ from ⟨fun i' t' hi' hlt' => ?_, HJ.out.2.1, HJ.out.2.2.1⟩)⟩
              rcases Nat.lt_or_ge i' i with h1 | h1
              · exact HI.out.1 i' t' hi' h1
              · obtain rfl : i' = i := by omega
                rw [HTX.out] at hi'
                injection hi' with hi'
                rw [← hi']
                exact HTB.out
      · have h4z : (4 : Int) < (m : Int) := by omega
        have HLB := Lib.hid (HFI.out (by unfold txB; rw [Bool.and_eq_false_iff]; exact .inl (decide_eq_false (by rw [← hm]; exact h4))))
        clear hm
        go_wp2
        go_ret
        exact ⟨congrArg (fun b => Ending.returned (.bool b)) HLB.out.symm, HI.out.2.1⟩
    · obtain rfl : n = i := by omega
      have HR := Lib.hid (HT.out HI.out.1)
      go_wp2
      go_ret
      exact ⟨congrArg (fun b => Ending.returned (.bool b)) HR.out.symm, HI.out.2.1⟩

/-- May a plan be? -/
theorem may_any (words mx : Int) (pl : List (List (List Ac))) (pv : Value) (w : World) (hpl : PlV w pv pl) :
    Calls Try.prog 17 #[planV words mx pv] w fun e w' => e = .returned (.bool (mayP words mx pl)) ∧ Below w.heap.size w w' := by
  unfold mayP
  cases hn : newOk words mx with
  | false => rw [Bool.false_and]; exact may_no words mx pl pv w hpl hn
  | true =>
    rw [Bool.true_and]
    have h : 1 ≤ words ∧ words ≤ 8 ∧ 0 ≤ mx ∧ mx ≤ 1000 := by simpa [newOk] using hn
    obtain ⟨n, rfl⟩ : ∃ n : Nat, words = (n : Int) := ⟨words.toNat, by omega⟩
    by_cases h1 : 1 ≤ pl.length
    · by_cases h2 : pl.length ≤ 4
      · rw [decide_eq_true h1, decide_eq_true h2, Bool.true_and, Bool.true_and]
        exact may_yes n mx pl pv w hpl (by omega) (by omega) h.2.2.1 h.2.2.2 h1 h2
      · rw [decide_eq_true h1, decide_eq_false h2, Bool.true_and, Bool.false_and]
        exact may_len n mx pl pv w hpl (by omega) (by omega) h.2.2.1 h.2.2.2 (by omega)
    · rw [decide_eq_false h1, Bool.false_and]
      exact may_len n mx pl pv w hpl (by omega) (by omega) h.2.2.1 h.2.2.2 (by omega)
end Go.Proofs.Ytngimbfojccikaa
