/- The walk of SerialDone. -/
import Derived.Test.YtmcbnpeihedcaaaSrAwake
import Derived.Test.YtmcbnpeihedcaaaSrOpen
namespace Go.Proofs.Ytmcbnpeihedcaaa
open Go Go.RowKit
set_option linter.unusedVariables false

theorem wsOf_filter (h : List Rx) : wsOf (h.filter writesX) = wsOf h := by
  unfold wsOf
  rw [List.filter_filter]
  congr 1
  congr 1
  funext x
  exact Bool.and_self _
theorem stateL_filter (n : Int) (h : List Rx) (ver : Int) : stateL n (h.filter writesX) ver = stateL n h ver := by
  unfold stateL; rw [wsOf_filter]
theorem serialL_filter (n : Int) (h : List Rx) : serialL n (h.filter writesX) = serialL n h := by
  unfold serialL
  rw [wsOf_filter]
  have : ∀ (l pre : List Rx), serF n (h.filter writesX) pre l = serF n h pre l := by
    intro l
    induction l with
    | nil => intro pre; rfl
    | cons x l ih =>
      intro pre
      unfold serF
      rw [ih]
      unfold badS
      rw [stateL_filter]
  exact this _ _

set_option maxRecDepth 100000 in
set_option maxHeartbeats 4000000 in
theorem serialDone_walk (w : World) (n : Int) (_wn : okI n) (v : Value) (h : List Rx) (hv : RecsV w v h) (hok : ∀ x ∈ h, recOk x) (ver : Int) (_wv : okI ver) :
    Calls Try.prog 3 #[.int .i64 n, v, .int .i64 ver] w fun e w' => e = .returned (.bool true) ∧ Below w.heap.size w w' := by
  obtain ⟨A, c, rfl, hlc, hcm⟩ := hv.1.form
  cases hfew : fewR h with
  | false =>
    have HF := Lib.hid (fun W (hb : Below w.heap.size w W) => hfew ▸ few_any _ h W (hv.below hb))
    clear hv hfew hlc hcm
    generalize h.length = m at *
    go_enter Try.func3, Try.ntmps3
    go_wp2_with fail
    refine (awake_any _).mono ?_
    rintro e w1 ⟨rfl, hb1⟩
    have HB1 := Lib.hid hb1
    clear hb1
    go_wp2_with fail
    refine (HF.out _ HB1.out).mono ?_
    rintro e w2 ⟨rfl, hb2⟩
    have HB2 := Lib.hid (HB1.out.trans (hb2.mono HB1.out.size))
    clear hb2
    go_wp2
    go_ret
    exact ⟨rfl, HB2.out⟩
  | true =>
    have hl30 : h.length ≤ 30 := by unfold fewR at hfew; simp at hfew; exact hfew.2
    have HF := Lib.hid (fun W (hb : Below w.heap.size w W) => hfew ▸ few_any _ h W (hv.below hb))
    have HP := Lib.hid (fun h0 : 0 < h.length => Sl.pos encRx encRx_len hv.1 h0)
    have HOK := Lib.hid (fun x hx => And.intro (hv.2 x hx) (hok x hx))
    have HS := Lib.hid (fun W (hb : Below w.heap.size w W) => state_any n ver _ h W (hv.below hb) (by omega))
    have HE := Lib.hid (fun W (hb : Below w.heap.size w W) => serial_any n _ h W (hv.below hb) (by omega) (fun x hx => (hok x hx).2.2.2.2.2.1))
    have HVL := Lib.hid (fun W v2 (hb : Below w.heap.size w W) (h2 : Sl W 10 v2 (h.filter writesX).length ((h.filter writesX).flatMap encRx)) => (show RecsV W v2 (h.filter writesX) from ⟨h2, fun x hx => (hv.2 x (List.mem_filter.1 hx).1).below hb⟩))
    have hfl := List.length_filter_le writesX h
    have HSL := Lib.hid (fun W v2 (hv2 : RecsV W v2 (h.filter writesX)) => stateL_filter n h ver ▸ state_any n ver _ _ W hv2 (by omega))
    have HEL := Lib.hid (fun W v2 (hv2 : RecsV W v2 (h.filter writesX)) => serialL_filter n h ▸ serial_any n _ _ W hv2 (by omega) (fun x hx => (hok x (List.mem_filter.1 hx).1).2.2.2.2.2.1))
    obtain ⟨q, hq⟩ : ∃ q, q = serialL n h := ⟨_, rfl⟩
    obtain ⟨sl, hsl⟩ : ∃ q, q = stateL n h ver := ⟨_, rfl⟩
    rw [← hq] at HE HEL
    rw [← hsl] at HS HSL
    obtain ⟨i0, hi0, hz0, hz1, hz2⟩ := info_parts clone_rec_info
    obtain ⟨m, hm⟩ : ∃ m, m = h.length := ⟨_, rfl⟩
    rw [← hm] at HF HS HE hl30 ⊢
    have HM := Lib.hid hm
    clear hv hok hfew hlc hcm hfl hq hsl hm
    go_enter Try.func3, Try.ntmps3
    go_wp2_with fail
    refine (awake_any _).mono ?_
    rintro e w1 ⟨rfl, hb1⟩
    have HB1 := Lib.hid hb1
    clear hb1
    go_wp2_with fail
    refine (HF.out _ HB1.out).mono ?_
    rintro e w2 ⟨rfl, hb2⟩
    have HB2 := Lib.hid (HB1.out.trans (hb2.mono HB1.out.size))
    clear hb2 HB1
    go_wp2_with fail
    go_loopg [9, 10] m (fun gg s9 s10 wr => ∃ (k c2 : Nat) (A2 : Option Addr), k ≤ m ∧ m - k ≤ gg ∧ s10 = .int .i64 k ∧ s9 = .slice A2 ((h.take k).filter writesX).length c2 ∧ Hid (Below w.heap.size w wr ∧ wr.ownsRow w.heap.size 27 10 (.slice A2 ((h.take k).filter writesX).length c2) ((h.take k).filter writesX).length (((h.take k).filter writesX).flatMap encRx)))
    case atStart => exact ⟨0, 0, none, by omega, by omega, by go_num, rfl, (show Hid _ from ⟨HB2.out, World.ownsRow_nil _ _ _ _⟩)⟩
    case round =>
      obtain ⟨k, c2, A2, hk, hg, rfl, rfl, HI⟩ := hrel
      by_cases hlt : k < m
      · have hltz : (k : Int) < (m : Int) := by omega
        have hk0 : (0 : Int) ≤ (k : Int) := by omega
        have hkl : k < h.length := by rw [← HM.out]; exact hlt
        obtain ⟨b, o, hA, hbl, hel⟩ := HP.out (by omega)
        subst hA
        have hel := hel wr HI.out.1 k hkl
        have htk : h.take (k + 1) = h.take k ++ [h[k]] := List.take_succ_eq_append_getElem hkl
        have HTK := Lib.hid (show (h.take (k + 1)).filter writesX = (h.take k).filter writesX ++ (if writesX h[k] = true then [h[k]] else []) from by
          rw [htk, List.filter_append]; congr 1
          by_cases hw : writesX h[k] = true
          · rw [if_pos hw]; simp [hw]
          · rw [if_neg hw]; simp [hw])
        have hlen := List.length_filter_le writesX (h.take k)
        rw [List.length_take] at hlen
        generalize h[k] = x at *
        generalize (h.take k).filter writesX = pre at *
        clear htk
        have c0 := hel 0 _ rfl
        have c1 := hel 1 _ rfl
        have c2' := hel 2 _ rfl
        have c3 := hel 3 _ rfl
        have c4 := hel 4 _ rfl
        have c5 := hel 5 _ rfl
        have c6 := hel 6 _ rfl
        have c7 := hel 7 _ rfl
        have c8 := hel 8 _ rfl
        have c9 := hel 9 _ rfl
        simp only [Nat.add_zero] at c0
        clear hel
        obtain ⟨np, hnp⟩ : ∃ np, np = pre.length := ⟨_, rfl⟩
        rw [← hnp] at HI hlen ⊢
        have HNP := Lib.hid hnp
        clear hnp
        by_cases hen : x.en = 0
        · by_cases hwl : 0 < x.W.length
          · have hwz : (0 : Int) < (x.W.length : Int) := by omega
            have hA1 := (Below.refl wr.heap.size wr).alloc (Nat.le_refl _) (.cells (encRx x).toArray 27)
            have HA1 := Lib.hid hA1
            have HOWN := Lib.hid (own_below HI.out.2 hA1)
            have HNEWS := Lib.hid (show ∀ j u, (encRx x)[j]? = some u → (wr.alloc (.cells (encRx x).toArray 27)).cell? ((⟨wr.heap.size, 0, none⟩ : Addr).add j) = some u from by
              intro j u hu
              rw [add_none, Nat.zero_add, (Blk.new wr _ _).cell, List.getElem?_toArray]
              exact hu)
            have HONE := Lib.hid (show ∀ u ∈ encRx x, u.oneCell' = true from by have := encRx_one [x]; simpa using this)
            have HT2 := Lib.hid (show (h.take (k + 1)).filter writesX = pre ++ [x] from by rw [HTK.out, if_pos (by unfold writesX; simp [hen, hwl])])
            have hwb := HI.out.1.size
            have henb : (x.en == 0) = true := by simpa using hen
            clear HTK hA1 hen
            simp only [encRx] at HA1 HOWN HNEWS HONE
            go_wp2_with (at_builtin; refine wpList_append_own_at _ rfl (.tmp 43) (.tmp 48) _ rfl w.heap.size 27 i0 _ 10 112 Try.underlying22 hi0 hz0 hz1 hz2 rfl (by omega) (.slice A2 np c2) np _ rfl HOWN.out ⟨wr.heap.size, 0, none⟩ 1 1 _ rfl rfl HNEWS.out HONE.out (by unfold maxLen; omega) (by omega) (by simp; omega) ?_; intro v1 w3 hown1 hgrow _ hat; obtain ⟨g, cap, cur, rfl, hg1, hrow, _, _, _, _⟩ := own_form hown1 (by omega); have HG := Lib.hid hgrow; have HO := Lib.hid hown1; clear hgrow hown1 hat hrow)
            go_roundg (m - (k + 1))
            case measure => omega
            case rel =>
              refine ⟨k + 1, cap, some ⟨g, 0, none⟩, by omega, by omega, by go_num, ?_, (show Hid _ from ?_)⟩
              · rw [HT2.out, List.length_append, ← HNP.out]; rfl
              · rw [HT2.out, List.length_append, ← HNP.out]
                refine ⟨(HI.out.1.trans (HA1.out.mono HI.out.1.size)).grown HG.out (by simp; omega) ?_, ?_⟩
                · intro k hk
                  have := (HOWN.out.lt k hk).1
                  omega
                · have h5 := HO.out
                  rw [List.flatMap_append]
                  exact h5
          · have hwz : ¬ (0 : Int) < (x.W.length : Int) := by omega
            have HT2 := Lib.hid (show (h.take (k + 1)).filter writesX = pre from by rw [HTK.out, if_neg (by unfold writesX; simp [hwl]), List.append_nil])
            go_wp2
            go_roundg (m - (k + 1))
            case measure => omega
            case rel => exact ⟨k + 1, c2, A2, by omega, by omega, by go_num, by rw [HT2.out, ← HNP.out], by rw [HT2.out, ← HNP.out]; exact HI⟩
        · have HT2 := Lib.hid (show (h.take (k + 1)).filter writesX = pre from by rw [HTK.out, if_neg (by unfold writesX; simp [hen]), List.append_nil])
          go_wp2
          go_roundg (m - (k + 1))
          case measure => omega
          case rel => exact ⟨k + 1, c2, A2, by omega, by omega, by go_num, by rw [HT2.out, ← HNP.out], by rw [HT2.out, ← HNP.out]; exact HI⟩
      · obtain rfl : m = k := by omega
        rw [List.take_of_length_le (by rw [← HM.out]; exact Nat.le_refl _)] at HI
        rw [List.take_of_length_le (by rw [← HM.out]; exact Nat.le_refl _)]
        have HV := Lib.hid (HVL.out _ _ HI.out.1 (Sl.of_own HI.out.2))
        have HBL := Lib.hid HI.out.1
        clear HI HVL HP
        generalize (h.filter writesX) = l at *
        generalize l.length = nl at *
        go_wp2_with fail
        refine (HS.out _ HBL.out).mono ?_
        rintro e w3 ⟨v3, rfl, hv3, hb3⟩
        have HV3 := Lib.hid (HV.out.below hb3)
        have HB3 := Lib.hid (HBL.out.trans (hb3.mono HBL.out.size))
        clear hb3
        go_wp2_with fail
        refine (HSL.out _ _ HV3.out).mono ?_
        rintro e w4 ⟨v4, rfl, hv4, hb4⟩
        have HV4 := Lib.hid (HV3.out.below hb4)
        have HB4 := Lib.hid (HB3.out.trans (hb4.mono HB3.out.size))
        have HI1 := Lib.hid (decide_eq_true (show sl = sl from rfl) ▸ rints_any _ _ _ _ _ (hv3.below hb4) hv4)
        clear hb4 hv3 hv4
        go_wp2_with fail
        refine HI1.out.mono ?_
        rintro e w5 ⟨rfl, hb5⟩
        have HV5 := Lib.hid (HV4.out.below hb5)
        have HB5 := Lib.hid (HB4.out.trans (hb5.mono HB4.out.size))
        clear hb5
        go_wp2_with fail
        refine (HE.out _ HB5.out).mono ?_
        rintro e w6 ⟨rfl, hb6⟩
        have HV6 := Lib.hid (HV5.out.below hb6)
        have HB6 := Lib.hid (HB5.out.trans (hb6.mono HB5.out.size))
        clear hb6
        go_wp2_with fail
        refine (HEL.out _ _ HV6.out).mono ?_
        rintro e w7 ⟨rfl, hb7⟩
        have HB7 := Lib.hid (HB6.out.trans (hb7.mono HB6.out.size))
        clear hb7
        cases q <;> (go_wp2; go_ret; exact ⟨rfl, HB7.out⟩)
end Go.Proofs.Ytmcbnpeihedcaaa
