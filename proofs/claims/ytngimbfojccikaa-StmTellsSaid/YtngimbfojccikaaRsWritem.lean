/- foliateref19: find, write: printed by rs_write.py. -/
import Derived.Test.YtngimbfojccikaaRsWordsm
import Derived.Test.YtngimbfojccikaaStGoodm
import Derived.Test.YtngimbfojccikaaStmTellsD
namespace Go.Proofs.Ytngimbfojccikaa
set_option linter.unusedSimpArgs false
open Go Go.RowKit
set_option linter.unusedVariables false
set_option maxRecDepth 100000

def rfindL (l : List Pr) (a : Int) : Int := if l.findIdx (fun p => p.at_ == a) < l.length then (l.findIdx (fun p => p.at_ == a) : Nat) else -1
set_option maxHeartbeats 4000000 in
theorem rfind_any (v : Value) (l : List Pr) (a : Int) (w : World) (hv : Sl w 2 v l.length (l.flatMap encPr)) :
    Calls Try.prog 73 #[v, .int .i64 a] w fun e w' => e = .returned (.int .i64 (rfindL l a)) ∧ Below w.heap.size w w' := by
  obtain ⟨A, c, rfl, hlc, hcm⟩ := hv.form
  obtain ⟨r, hr⟩ : ∃ r, r = rfindL l a := ⟨_, rfl⟩
  obtain ⟨n, hn⟩ : ∃ n, n = l.length := ⟨_, rfl⟩
  have HN := Lib.hid hn
  have HR := Lib.hid hr
  have HP := Lib.hid (fun h0 : 0 < l.length => Sl.pos encPr encPr_len hv h0)
  have HF := Lib.hid (show ∀ (i : Nat) x, l[i]? = some x → x.at_ = a → (∀ (j : Nat) y, l[j]? = some y → j < i → y.at_ ≠ a) → r = (i : Int) from fun i x hx e hb => by
    obtain ⟨hi, rfl⟩ := List.getElem?_eq_some_iff.1 hx
    rw [hr]
    unfold rfindL
    have h1 : l.findIdx (fun p => p.at_ == a) = i := by
      rw [List.findIdx_eq hi]
      refine ⟨by simpa using e, fun j hj => ?_⟩
      have := hb j _ (List.getElem?_eq_getElem (by omega)) hj
      simpa using this
    rw [h1, if_pos hi])
  have HZ := Lib.hid (show (∀ (j : Nat) y, l[j]? = some y → y.at_ ≠ a) → r = -1 from fun hb => by
    rw [hr]
    unfold rfindL
    rw [if_neg]
    intro hlt
    have := List.findIdx_getElem (p := fun p : Pr => p.at_ == a) (xs := l) (w := hlt)
    exact hb _ _ (List.getElem?_eq_getElem hlt) (by simpa using this))
  rw [← hr, ← hn]
  clear hv hr
  rw [← hn] at hlc
  have hn9 : n ≤ 9223372036854775807 := by unfold maxLen at hcm; omega
  clear hn hlc hcm
  go_enter Try.func73, Try.ntmps73
  go_wp2_with fail
  go_loopg [5] n (fun gg s5 wr => ∃ i : Nat, i ≤ n ∧ n - i ≤ gg ∧ s5 = .int .i64 i ∧ w = wr ∧ Hid (∀ (j : Nat) y, l[j]? = some y → j < i → y.at_ ≠ a))
  case atStart => exact ⟨0, by omega, by omega, rfl, rfl, fun j y _ h => absurd h (Nat.not_lt_zero _)⟩
  case round =>
    obtain ⟨i, hi, hg, rfl, rfl, HI⟩ := hrel
    by_cases hlt : i < n
    · have hltz : (i : Int) < (n : Int) := by omega
      have hi0 : (0 : Int) ≤ (i : Int) := by omega
      have hil : i < l.length := by rw [← HN.out]; exact hlt
      obtain ⟨b, o, e, hb, hc⟩ := HP.out (by omega)
      have y0 := hc w (Below.refl _ _) i hil 0 _ rfl
      have hx := List.getElem?_eq_getElem hil
      generalize l[i] = x at *
      have HX := Lib.hid hx
      subst e
      simp only [Nat.add_zero] at y0
      obtain ⟨xa, hxa⟩ : ∃ z, z = x.at_ := ⟨_, rfl⟩
      have HXA := Lib.hid hxa
      rw [← hxa] at y0
      clear hx hc hil hxa
      by_cases h0 : xa = a
      · have hri : r = (i : Int) := HF.out i x HX.out (by rw [← HXA.out]; exact h0) HI.out
        subst hri h0
        go_wp2_with fail
        go_ret
        exact ⟨rfl, Below.refl _ _⟩
      · have h0b : (xa == a) = false := by simpa using h0
        go_wp2_with fail
        go_roundg (n - (i + 1))
        case measure => omega
        case rel =>
          refine ⟨i + 1, by omega, by omega, by go_num, rfl, (show Hid _ from fun j y hy hj => ?_)⟩
          by_cases e : j = i
          · subst e
            have hq := HX.out
            rw [hy] at hq; injection hq with hq; subst hq
            rw [← HXA.out]; exact h0
          · exact HI.out j y hy (by omega)
    · obtain rfl : n = i := by omega
      have hri : r = -1 := HZ.out (fun j y hy => HI.out j y hy (by rw [HN.out]; exact (List.getElem?_eq_some_iff.1 hy).1))
      subst hri
      go_wp2_with fail
      go_ret
      exact ⟨rfl, Below.refl _ _⟩

/-! ### write -/
def wrS (a v : Int) (s : List Pr × Bool) (p : Pr) : List Pr × Bool :=
  if s.2 = false ∧ a ≤ p.at_ then (if p.at_ = a then (s.1 ++ [⟨a, v⟩], true) else (s.1 ++ [⟨a, v⟩] ++ [p], true)) else (if p.at_ = a then s else (s.1 ++ [p], s.2))
def wrE (a v : Int) (s : List Pr × Bool) : List Pr := if s.2 then s.1 else s.1 ++ [⟨a, v⟩]
theorem wrS_done {a v : Int} : ∀ {W : List Pr} (o : List Pr), (∀ q ∈ W, q.at_ ≠ a) → W.foldl (wrS a v) (o, true) = (o ++ W, true)
  | [], o, _ => by simp
  | p :: W, o, h => by
    rw [List.foldl_cons]
    have : wrS a v (o, true) p = (o ++ [p], true) := by
      unfold wrS
      rw [if_neg (by simp), if_neg (h p (by simp))]
    rw [this, wrS_done _ (fun q hq => h q (by simp [hq]))]
    simp
theorem writeP_cons_lt {p : Pr} {W : List Pr} {a v : Int} (h : p.at_ < a) : writeP (p :: W) a v = p :: writeP W a v := by
  unfold writeP
  have : (p :: W).findIdx (fun p => decide (a ≤ p.at_)) = W.findIdx (fun p => decide (a ≤ p.at_)) + 1 := by
    rw [List.findIdx_cons, decide_eq_false (by omega)]; rfl
  rw [this]
  simp only [List.getElem?_cons_succ, List.set_cons_succ, List.take_succ_cons, List.drop_succ_cons]
  split
  · split <;> rfl
  · rfl
theorem writeP_cons_ge {p : Pr} {W : List Pr} {a v : Int} (h : a ≤ p.at_) : writeP (p :: W) a v = if p.at_ = a then ⟨p.at_, v⟩ :: W else ⟨a, v⟩ :: p :: W := by
  unfold writeP
  have : (p :: W).findIdx (fun p => decide (a ≤ p.at_)) = 0 := by
    rw [List.findIdx_cons, decide_eq_true h]; rfl
  rw [this]
  simp only [List.getElem?_cons_zero, List.set_cons_zero, List.take_zero, List.drop_zero, List.nil_append]
theorem wr_eq {a v : Int} : ∀ {W : List Pr} (o : List Pr), W.Pairwise (fun p q => p.at_ < q.at_) → wrE a v (W.foldl (wrS a v) (o, false)) = o ++ writeP W a v
  | [], o, _ => by simp [wrE, writeP]
  | p :: W, o, h => by
    rw [List.pairwise_cons] at h
    rw [List.foldl_cons]
    by_cases h1 : a ≤ p.at_
    · rw [writeP_cons_ge h1]
      have hne : ∀ q ∈ W, q.at_ ≠ a := fun q hq => by have := h.1 q hq; omega
      by_cases h2 : p.at_ = a
      · have : wrS a v (o, false) p = (o ++ [⟨a, v⟩], true) := by
          unfold wrS
          rw [if_pos ⟨rfl, h1⟩, if_pos h2]
        rw [this, wrS_done _ hne, if_pos h2, h2]
        simp [wrE]
      · have : wrS a v (o, false) p = (o ++ [⟨a, v⟩] ++ [p], true) := by
          unfold wrS
          rw [if_pos ⟨rfl, h1⟩, if_neg h2]
        rw [this, wrS_done _ hne, if_neg h2]
        simp [wrE]
    · have : wrS a v (o, false) p = (o ++ [p], false) := by
        unfold wrS
        rw [if_neg (fun e => h1 e.2), if_neg (by omega)]
      rw [this, wr_eq _ h.2, writeP_cons_lt (by omega)]
      simp
theorem wrS_len (a v : Int) (s : List Pr × Bool) (p : Pr) : (wrS a v s p).1.length ≤ s.1.length + 2 := by
  unfold wrS
  split
  · split <;> simp
  · split <;> simp
theorem wrS_lens (a v : Int) : ∀ (W : List Pr) (s : List Pr × Bool), (W.foldl (wrS a v) s).1.length ≤ s.1.length + 2 * W.length
  | [], s => by simp
  | p :: W, s => by
    rw [List.foldl_cons]
    have h1 := wrS_lens a v W (wrS a v s p)
    have h2 := wrS_len a v s p
    simp only [List.length_cons]
    omega

set_option maxHeartbeats 8000000 in
theorem rwrite_any (lv : Value) (l : List Pr) (a v : Int) (w : World) (hv : Sl w 2 lv l.length (l.flatMap encPr)) (hs : l.Pairwise (fun p q => p.at_ < q.at_)) (hl : l.length ≤ 1000) :
    Calls Try.prog 72 #[lv, .int .i64 a, .int .i64 v] w fun e w' => ∃ A c, e = .returned (.slice A (writeP l a v).length c) ∧ PRow w' w.heap.size A c (writeP l a v) ∧ Below w.heap.size w w' := by
  obtain ⟨i0, hi0, hz0, hz1, hz2⟩ := info_parts clone_pair_info
  obtain ⟨A, c, rfl, hlc, hcm⟩ := hv.form
  obtain ⟨r, hr⟩ : ∃ r, r = writeP l a v := ⟨_, rfl⟩
  obtain ⟨n, hn⟩ : ∃ n, n = l.length := ⟨_, rfl⟩
  have HN := Lib.hid hn
  have HR := Lib.hid (show r = wrE a v (l.foldl (wrS a v) ([], false)) from by rw [wr_eq [] hs, hr]; rfl)
  have HP := Lib.hid (fun h0 : 0 < l.length => Sl.pos encPr encPr_len hv h0)
  rw [← hr, ← hn]
  rw [← hn] at hl
  clear hv hr hs hn hlc hcm
  go_enter Try.func72, Try.ntmps72
  go_wp2_with fail
  go_loopg [7, 8, 9] n (fun gg s7 s8 s9 wr => ∃ (i : Nat) (A2 : Option Addr) (c2 n2 : Nat) (d : Bool) (o2 : List Pr), i ≤ n ∧ n - i ≤ gg ∧ s7 = .slice A2 n2 c2 ∧ s8 = .bool d ∧ s9 = .int .i64 i ∧ n2 ≤ 2 * i ∧ Hid ((l.take i).foldl (wrS a v) ([], false) = (o2, d) ∧ n2 = o2.length ∧ Below w.heap.size w wr ∧ wr.ownsRow w.heap.size 55 2 (.slice A2 n2 c2) n2 (o2.flatMap encPr)))
  case atStart => exact ⟨0, none, 0, 0, false, [], by omega, by omega, rfl, rfl, rfl, by omega, (show Hid _ from ⟨rfl, rfl, Below.refl _ _, World.ownsRow_nil _ _ _ _⟩)⟩
  case round =>
    obtain ⟨i, A2, c2, n2, d, o2, hi, hg, rfl, rfl, rfl, hn2, HI⟩ := hrel
    by_cases hlt : i < n
    · have hltz : (i : Int) < (n : Int) := by omega
      have hi0' : (0 : Int) ≤ (i : Int) := by omega
      have hil : i < l.length := by rw [← HN.out]; exact hlt
      obtain ⟨b, o, e, hb, hc⟩ := HP.out (by omega)
      have HCX := Lib.hid (fun W (hb : Below w.heap.size w W) => hc W hb i hil)
      have HTK := Lib.hid (List.take_succ_eq_append_getElem hil)
      generalize l[i] = x at *
      subst e
      obtain ⟨xa, hxa⟩ : ∃ z, z = x.at_ := ⟨_, rfl⟩
      obtain ⟨xv, hxv⟩ : ∃ z, z = x.v := ⟨_, rfl⟩
      have HXX := Lib.hid (show x = ⟨xa, xv⟩ from by rw [hxa, hxv])
      have HCC := Lib.hid (fun W (hb : Below w.heap.size w W) => (show W.cell? ⟨b, o + i * 2, none⟩ = some (.int .i64 xa) ∧ W.cell? ⟨b, o + i * 2 + 1, none⟩ = some (.int .i64 xv) from ⟨by have := HCX.out W hb 0 _ rfl; rw [hxa]; simpa using this, by have := HCX.out W hb 1 _ rfl; rw [hxv]; exact this⟩))
      obtain ⟨y0, y1⟩ := HCC.out _ HI.out.2.2.1
      have hwr := HI.out.2.2.1.size
      clear hc hil hxa hxv
      have hblt : b < wr.heap.size := Nat.lt_of_lt_of_le hb hwr
      have HST := Lib.hid (show (l.take (i + 1)).foldl (wrS a v) ([], false) = wrS a v (o2, d) ⟨xa, xv⟩ from by rw [HTK.out, List.foldl_append, HI.out.1, ← HXX.out]; rfl)
      cases d with
      | true =>
        by_cases hne : xa = a
        · have h0b : (xa != a) = false := by simpa using hne
          subst hne
          go_wp2_with fail
          go_roundg (n - (i + 1))
          case measure => omega
          case rel =>
            refine ⟨i + 1, A2, c2, n2, true, o2, by omega, by omega, by go_num, by go_num, by go_num, by omega, (show Hid _ from ⟨?_, ?_, HI.out.2.2.1, ?_⟩)⟩
            · rw [HST.out]; unfold wrS; rw [if_neg (by simp), if_pos rfl]
            · exact HI.out.2.1
            · exact HI.out.2.2.2

        · have h0b : (xa != a) = true := by simpa using hne
          have hA3 := (Below.refl wr.heap.size wr).alloc (Nat.le_refl _) (.cells #[Value.int .i64 xa, Value.int .i64 xv] 55)
          have HA3 := Lib.hid hA3
          have HOW3 := Lib.hid (own_below HI.out.2.2.2 hA3)
          have HNE3 := Lib.hid (show ∀ (j : Nat) u, [Value.int .i64 xa, Value.int .i64 xv][j]? = some u → (wr.alloc (.cells #[Value.int .i64 xa, Value.int .i64 xv] 55)).cell? ((⟨wr.heap.size, 0, none⟩ : Addr).add j) = some u from by
            intro j u hu
            rw [add_none, Nat.zero_add, (Blk.new wr _ _).cell, List.getElem?_toArray]
            exact hu)
          have HON3 := Lib.hid (show ∀ u ∈ [Value.int .i64 xa, Value.int .i64 xv], u.oneCell' = true from by simp [Value.oneCell'])
          clear hA3

          go_wp2_with (at_builtin; refine wpList_append_own_at _ rfl (.tmp 40) (.tmp 45) _ rfl w.heap.size 55 i0 _ 2 16 Try.underlying44 hi0 hz0 hz1 hz2 rfl (by omega) _ n2 _ rfl HOW3.out ⟨wr.heap.size, 0, none⟩ 1 1 _ rfl rfl HNE3.out HON3.out (by unfold maxLen; omega) (by omega) (by simp; omega) ?_; intro v3 w3 hown3 hgrow3 _ hat3; obtain ⟨g3, cap3, cur3, rfl, hgl3, hrow3, _, _, _, _⟩ := own_form hown3 (by omega); have HG3 := Lib.hid hgrow3; have HO3 := Lib.hid hown3; clear hgrow3 hown3 hat3 hrow3)
          have HB3 := Lib.hid (show Below w.heap.size w w3 from by
            refine (HI.out.2.2.1.trans (HA3.out.mono HI.out.2.2.1.size)).grown HG3.out (by have := HI.out.2.2.1.size; simp; omega) ?_
            intro k hk
            have := (HOW3.out.lt k hk).1
            omega)
          go_roundg (n - (i + 1))
          case measure => omega
          case rel =>
            refine ⟨i + 1, some ⟨g3, 0, none⟩, cap3, n2 + 1, true, o2 ++ [⟨xa, xv⟩], by omega, by omega, by go_num, by go_num, by go_num, by omega, (show Hid _ from ⟨?_, ?_, HB3.out, ?_⟩)⟩
            · rw [HST.out]; unfold wrS; rw [if_neg (by simp), if_neg hne]
            · have := HI.out.2.1; simp; omega
            · rw [List.flatMap_append]; exact HO3.out

      | false =>
        by_cases hge : a ≤ xa
        · by_cases hne : xa = a
          · have h0b : (xa != a) = false := by simpa using hne
            subst hne
            have hA3 := (Below.refl wr.heap.size wr).alloc (Nat.le_refl _) (.cells #[Value.int .i64 xa, Value.int .i64 v] 55)
            have HA3 := Lib.hid hA3
            have HOW3 := Lib.hid (own_below HI.out.2.2.2 hA3)
            have HNE3 := Lib.hid (show ∀ (j : Nat) u, [Value.int .i64 xa, Value.int .i64 v][j]? = some u → (wr.alloc (.cells #[Value.int .i64 xa, Value.int .i64 v] 55)).cell? ((⟨wr.heap.size, 0, none⟩ : Addr).add j) = some u from by
              intro j u hu
              rw [add_none, Nat.zero_add, (Blk.new wr _ _).cell, List.getElem?_toArray]
              exact hu)
            have HON3 := Lib.hid (show ∀ u ∈ [Value.int .i64 xa, Value.int .i64 v], u.oneCell' = true from by simp [Value.oneCell'])
            clear hA3

            go_upto_region 9 with (at_builtin; refine wpList_append_own_at _ rfl (.tmp 27) (.tmp 31) _ rfl w.heap.size 55 i0 _ 2 16 Try.underlying44 hi0 hz0 hz1 hz2 rfl (by omega) _ n2 _ rfl HOW3.out ⟨wr.heap.size, 0, none⟩ 1 1 _ rfl rfl HNE3.out HON3.out (by unfold maxLen; omega) (by omega) (by simp; omega) ?_; intro v3 w3 hown3 hgrow3 _ hat3; obtain ⟨g3, cap3, cur3, rfl, hgl3, hrow3, _, _, _, _⟩ := own_form hown3 (by omega); have HG3 := Lib.hid hgrow3; have HO3 := Lib.hid hown3; clear hgrow3 hown3 hat3 hrow3)
            have HB3 := Lib.hid (show Below w.heap.size w w3 from by
              refine (HI.out.2.2.1.trans (HA3.out.mono HI.out.2.2.1.size)).grown HG3.out (by have := HI.out.2.2.1.size; simp; omega) ?_
              intro k hk
              have := (HOW3.out.lt k hk).1
              omega)
            clear y0 y1
            obtain ⟨y0, y1⟩ := HCC.out _ HB3.out
            go_wp2_with fail
            go_roundg (n - (i + 1))
            case measure => omega
            case rel =>
              refine ⟨i + 1, some ⟨g3, 0, none⟩, cap3, n2 + 1, true, o2 ++ [⟨xa, v⟩], by omega, by omega, by go_num, by go_num, by go_num, by omega, (show Hid _ from ⟨?_, ?_, HB3.out, ?_⟩)⟩
              · rw [HST.out]; unfold wrS; rw [if_pos ⟨rfl, Int.le_refl _⟩, if_pos rfl]
              · have := HI.out.2.1; simp; omega
              · rw [List.flatMap_append]; exact HO3.out

          · have h0b : (xa != a) = true := by simpa using hne
            have hA3 := (Below.refl wr.heap.size wr).alloc (Nat.le_refl _) (.cells #[Value.int .i64 a, Value.int .i64 v] 55)
            have HA3 := Lib.hid hA3
            have HOW3 := Lib.hid (own_below HI.out.2.2.2 hA3)
            have HNE3 := Lib.hid (show ∀ (j : Nat) u, [Value.int .i64 a, Value.int .i64 v][j]? = some u → (wr.alloc (.cells #[Value.int .i64 a, Value.int .i64 v] 55)).cell? ((⟨wr.heap.size, 0, none⟩ : Addr).add j) = some u from by
              intro j u hu
              rw [add_none, Nat.zero_add, (Blk.new wr _ _).cell, List.getElem?_toArray]
              exact hu)
            have HON3 := Lib.hid (show ∀ u ∈ [Value.int .i64 a, Value.int .i64 v], u.oneCell' = true from by simp [Value.oneCell'])
            clear hA3

            go_upto_region 9 with (at_builtin; refine wpList_append_own_at _ rfl (.tmp 27) (.tmp 31) _ rfl w.heap.size 55 i0 _ 2 16 Try.underlying44 hi0 hz0 hz1 hz2 rfl (by omega) _ n2 _ rfl HOW3.out ⟨wr.heap.size, 0, none⟩ 1 1 _ rfl rfl HNE3.out HON3.out (by unfold maxLen; omega) (by omega) (by simp; omega) ?_; intro v3 w3 hown3 hgrow3 _ hat3; obtain ⟨g3, cap3, cur3, rfl, hgl3, hrow3, _, _, _, _⟩ := own_form hown3 (by omega); have HG3 := Lib.hid hgrow3; have HO3 := Lib.hid hown3; clear hgrow3 hown3 hat3 hrow3)
            have HB3 := Lib.hid (show Below w.heap.size w w3 from by
              refine (HI.out.2.2.1.trans (HA3.out.mono HI.out.2.2.1.size)).grown HG3.out (by have := HI.out.2.2.1.size; simp; omega) ?_
              intro k hk
              have := (HOW3.out.lt k hk).1
              omega)
            clear y0 y1
            obtain ⟨y0, y1⟩ := HCC.out _ HB3.out
            have hw3 := HB3.out.size
            have hA4 := (Below.refl w3.heap.size w3).alloc (Nat.le_refl _) (.cells #[Value.int .i64 xa, Value.int .i64 xv] 55)
            have HA4 := Lib.hid hA4
            have HOW4 := Lib.hid (own_below HO3.out hA4)
            have HNE4 := Lib.hid (show ∀ (j : Nat) u, [Value.int .i64 xa, Value.int .i64 xv][j]? = some u → (w3.alloc (.cells #[Value.int .i64 xa, Value.int .i64 xv] 55)).cell? ((⟨w3.heap.size, 0, none⟩ : Addr).add j) = some u from by
              intro j u hu
              rw [add_none, Nat.zero_add, (Blk.new w3 _ _).cell, List.getElem?_toArray]
              exact hu)
            have HON4 := Lib.hid (show ∀ u ∈ [Value.int .i64 xa, Value.int .i64 xv], u.oneCell' = true from by simp [Value.oneCell'])
            clear hA4
            go_wp2_with (at_builtin; refine wpList_append_own_at _ rfl (.tmp 40) (.tmp 45) _ rfl w.heap.size 55 i0 _ 2 16 Try.underlying44 hi0 hz0 hz1 hz2 rfl (by omega) _ (n2 + 1) _ rfl HOW4.out ⟨w3.heap.size, 0, none⟩ 1 1 _ rfl rfl HNE4.out HON4.out (by unfold maxLen; omega) (by omega) (by simp; omega) ?_; intro v4 w4 hown4 hgrow4 _ hat4; obtain ⟨g4, cap4, cur4, rfl, hgl4, hrow4, _, _, _, _⟩ := own_form hown4 (by omega); have HG4 := Lib.hid hgrow4; have HO4 := Lib.hid hown4; clear hgrow4 hown4 hat4 hrow4)
            have HB4 := Lib.hid (show Below w.heap.size w w4 from by
              refine (HB3.out.trans (HA4.out.mono HB3.out.size)).grown HG4.out (by have := HB3.out.size; simp; omega) ?_
              intro k hk
              have := (HOW4.out.lt k hk).1
              omega)
            go_roundg (n - (i + 1))
            case measure => omega
            case rel =>
              refine ⟨i + 1, some ⟨g4, 0, none⟩, cap4, n2 + 1 + 1, true, o2 ++ [⟨a, v⟩] ++ [⟨xa, xv⟩], by omega, by omega, by go_num, by go_num, by go_num, by omega, (show Hid _ from ⟨?_, ?_, HB4.out, ?_⟩)⟩
              · rw [HST.out]; unfold wrS; rw [if_pos ⟨rfl, hge⟩, if_neg hne]
              · have := HI.out.2.1; simp; omega
              · rw [List.flatMap_append, List.flatMap_append]; exact HO4.out

        · have HGE := Lib.hid (show xa < a by omega)
          have h0b : (xa != a) = true := by simp; omega
          have hA3 := (Below.refl wr.heap.size wr).alloc (Nat.le_refl _) (.cells #[Value.int .i64 xa, Value.int .i64 xv] 55)
          have HA3 := Lib.hid hA3
          have HOW3 := Lib.hid (own_below HI.out.2.2.2 hA3)
          have HNE3 := Lib.hid (show ∀ (j : Nat) u, [Value.int .i64 xa, Value.int .i64 xv][j]? = some u → (wr.alloc (.cells #[Value.int .i64 xa, Value.int .i64 xv] 55)).cell? ((⟨wr.heap.size, 0, none⟩ : Addr).add j) = some u from by
            intro j u hu
            rw [add_none, Nat.zero_add, (Blk.new wr _ _).cell, List.getElem?_toArray]
            exact hu)
          have HON3 := Lib.hid (show ∀ u ∈ [Value.int .i64 xa, Value.int .i64 xv], u.oneCell' = true from by simp [Value.oneCell'])
          clear hA3

          go_wp2_with (at_builtin; refine wpList_append_own_at _ rfl (.tmp 40) (.tmp 45) _ rfl w.heap.size 55 i0 _ 2 16 Try.underlying44 hi0 hz0 hz1 hz2 rfl (by omega) _ n2 _ rfl HOW3.out ⟨wr.heap.size, 0, none⟩ 1 1 _ rfl rfl HNE3.out HON3.out (by unfold maxLen; omega) (by omega) (by simp; omega) ?_; intro v3 w3 hown3 hgrow3 _ hat3; obtain ⟨g3, cap3, cur3, rfl, hgl3, hrow3, _, _, _, _⟩ := own_form hown3 (by omega); have HG3 := Lib.hid hgrow3; have HO3 := Lib.hid hown3; clear hgrow3 hown3 hat3 hrow3)
          have HB3 := Lib.hid (show Below w.heap.size w w3 from by
            refine (HI.out.2.2.1.trans (HA3.out.mono HI.out.2.2.1.size)).grown HG3.out (by have := HI.out.2.2.1.size; simp; omega) ?_
            intro k hk
            have := (HOW3.out.lt k hk).1
            omega)
          go_roundg (n - (i + 1))
          case measure => omega
          case rel =>
            refine ⟨i + 1, some ⟨g3, 0, none⟩, cap3, n2 + 1, false, o2 ++ [⟨xa, xv⟩], by omega, by omega, by go_num, by go_num, by go_num, by omega, (show Hid _ from ⟨?_, ?_, HB3.out, ?_⟩)⟩
            · rw [HST.out]; unfold wrS; rw [if_neg (fun e => absurd e.2 (by have := HGE.out; show ¬ a ≤ xa; omega)), if_neg (by have := HGE.out; show ¬ xa = a; omega)]
            · have := HI.out.2.1; simp; omega
            · rw [List.flatMap_append]; exact HO3.out

    · obtain rfl : n = i := by omega
      have hwr := HI.out.2.2.1.size
      have HE := Lib.hid (show r = wrE a v (o2, d) from by rw [HR.out, ← HI.out.1, List.take_of_length_le (by rw [← HN.out]; exact Nat.le_refl _)])
      cases d with
      | true =>
        have hre : r = o2 := HE.out
        subst hre
        go_wp2_with fail
        go_ret
        refine ⟨A2, c2, congrArg (fun z => Ending.returned (.slice A2 z c2)) HI.out.2.1, ?_, HI.out.2.2.1⟩
        have := HI.out.2.2.2
        unfold PRow
        rw [HI.out.2.1] at this
        exact this
      | false =>
        have hre : r = o2 ++ [⟨a, v⟩] := HE.out
        have hA3 := (Below.refl wr.heap.size wr).alloc (Nat.le_refl _) (.cells #[Value.int .i64 a, Value.int .i64 v] 55)
        have HA3 := Lib.hid hA3
        have HOW3 := Lib.hid (own_below HI.out.2.2.2 hA3)
        have HNE3 := Lib.hid (show ∀ (j : Nat) u, [Value.int .i64 a, Value.int .i64 v][j]? = some u → (wr.alloc (.cells #[Value.int .i64 a, Value.int .i64 v] 55)).cell? ((⟨wr.heap.size, 0, none⟩ : Addr).add j) = some u from by
          intro j u hu
          rw [add_none, Nat.zero_add, (Blk.new wr _ _).cell, List.getElem?_toArray]
          exact hu)
        have HON3 := Lib.hid (show ∀ u ∈ [Value.int .i64 a, Value.int .i64 v], u.oneCell' = true from by simp [Value.oneCell'])
        clear hA3

        go_wp2_with (at_builtin; refine wpList_append_own_at _ rfl (.tmp 49) (.tmp 53) _ rfl w.heap.size 55 i0 _ 2 16 Try.underlying44 hi0 hz0 hz1 hz2 rfl (by omega) _ n2 _ rfl HOW3.out ⟨wr.heap.size, 0, none⟩ 1 1 _ rfl rfl HNE3.out HON3.out (by unfold maxLen; omega) (by omega) (by simp; omega) ?_; intro v3 w3 hown3 hgrow3 _ hat3; obtain ⟨g3, cap3, cur3, rfl, hgl3, hrow3, _, _, _, _⟩ := own_form hown3 (by omega); have HG3 := Lib.hid hgrow3; have HO3 := Lib.hid hown3; clear hgrow3 hown3 hat3 hrow3)
        have HB3 := Lib.hid (show Below w.heap.size w w3 from by
          refine (HI.out.2.2.1.trans (HA3.out.mono HI.out.2.2.1.size)).grown HG3.out (by have := HI.out.2.2.1.size; simp; omega) ?_
          intro k hk
          have := (HOW3.out.lt k hk).1
          omega)
        go_ret
        have hlen : r.length = n2 + 1 := by rw [hre, HI.out.2.1]; simp
        refine ⟨some ⟨g3, 0, none⟩, cap3, congrArg (fun z => Ending.returned (.slice (some ⟨g3, 0, none⟩) z cap3)) hlen.symm, ?_, HB3.out⟩
        unfold PRow
        rw [hlen, hre, List.flatMap_append]
        exact HO3.out

end Go.Proofs.Ytngimbfojccikaa
