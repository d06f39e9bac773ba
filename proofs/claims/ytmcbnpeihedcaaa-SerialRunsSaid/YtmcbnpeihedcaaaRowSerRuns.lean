/- Several texts in one: SrLawRuns, RowSerialRuns. -/
import Derived.Test.YtmcbnpeihedcaaaSrTopB
import Derived.Test.YtmcbnpeihedcaaaStRunA
import Derived.Test.YtmcbnpeihedcaaaStOpA
import Derived.Test.YtmcbnpeihedcaaaLawKit
namespace Go.Proofs.Ytmcbnpeihedcaaa
set_option linter.unusedSimpArgs false
open Go Go.RowKit
set_option linter.unusedVariables false

theorem wf_of {n : Int} (h0 : 0 ≤ n) (h1 : n ≤ 1000) : (Lit.int .i64 n).wf = true := by
  simp [Lit.wf, IntKind.min, IntKind.max, IntKind.signed, IntKind.bits]
  omega
set_option maxRecDepth 100000 in
set_option maxHeartbeats 16000000 in
theorem serialRuns_walk (w : World) (words mx : Int) (pv : Value) (pl : List (List (List Ac))) (hpl : PlV w pv pl) (ww : okI words) (wm : okI mx) (kv : Value) (picks : List Int) (hkv : Sl w 1 kv picks.length (picks.flatMap encI)) (hok : ∀ q ∈ picks, okI q) :
    Calls Try.prog 6 #[planV words mx pv, kv] w fun e w' => e = .returned (.bool true) ∧ Below w.heap.size w w' := by
  obtain ⟨A, c, rfl, _, _⟩ := hpl.form
  obtain ⟨kA, kc, rfl, _, _⟩ := hkv.form
  have kP := Blk.new_ w 39 #[.int .i64 words, .int .i64 mx, .slice A pl.length c] _ rfl
  have bP : Below w.heap.size w (w.alloc (.cells #[.int .i64 words, .int .i64 mx, .slice A pl.length c] 39)) := (Below.refl _ w).alloc (Nat.le_refl _) _
  obtain ⟨w1, hw1⟩ : ∃ z, w.alloc (.cells #[.int .i64 words, .int .i64 mx, .slice A pl.length c] 39) = z := ⟨_, rfl⟩
  rw [hw1] at kP bP
  have HB1 := Lib.hid bP
  have HP := Lib.hid (fun W (hb : Below w1.heap.size w1 W) => (show W.cell? ⟨w.heap.size, 0, none⟩ = some (.int .i64 words) ∧ W.cell? ⟨w.heap.size, 1, none⟩ = some (.int .i64 mx) ∧ W.cell? ⟨w.heap.size, 2, none⟩ = some (.slice A pl.length c) from ⟨by rw [(kP.keep hb).cell]; rfl, by rw [(kP.keep hb).cell]; rfl, by rw [(kP.keep hb).cell]; rfl⟩))
  have HPV := Lib.hid (fun W (hb : Below w1.heap.size w1 W) => (hpl.below bP).below hb)
  have HKV := Lib.hid (fun W (hb : Below w1.heap.size w1 W) => (hkv.below bP).below hb)
  have HF := Lib.hid (fun W (hb : Below w1.heap.size w1 W) => few19_any words mx pl _ kA picks.length kc W (HPV.out W hb))
  have HRN := Lib.hid (fun (h : mayP words mx pl = false) v W (hb : Below w1.heap.size w1 W) => run_no words mx pl _ v W (HPV.out W hb) h)
  have HRY := Lib.hid (fun (wn : Nat) (hw : words = (wn : Int)) (h : mayP words mx pl = true) v (l : List Int) (hl : l.length ≤ 900) W (hb : Below w1.heap.size w1 W) (hv : Sl W 1 v l.length (l.flatMap encI)) => (show Calls Try.prog 16 #[planV words mx (.slice A pl.length c), v] W (RunPost W (runM wn mx pl l)) from by subst hw; exact run_yes wn mx pl _ v l W (HPV.out W hb) hv h hl))
  have HW1 := Lib.hid hw1
  obtain ⟨n, hn⟩ : ∃ n, n = pl.length := ⟨_, rfl⟩
  obtain ⟨np, hnp⟩ : ∃ n, n = picks.length := ⟨_, rfl⟩
  have HN := Lib.hid hn
  have HNP := Lib.hid hnp
  have HOK := Lib.hid hok
  have HWW := Lib.hid (And.intro ww wm)
  rw [← hn] at HP HRN HRY HW1 HF
  rw [← hnp] at HF
  rw [← hn, ← hnp]
  clear kP bP hw1 hpl hkv hn hnp hok ww wm
  simp only [planV] at HF HRN HRY ⊢
  go_enter Try.func6, Try.ntmps6
  go_upto_region 1 with fail
  rw [HW1.out]
  go_wp2_with fail
  refine (awake_any _).mono ?_
  rintro e w2 ⟨rfl, hb2⟩
  have HB2 := Lib.hid hb2
  obtain ⟨p0, p1, p2⟩ := HP.out _ hb2
  clear hb2
  go_wp2_with fail
  refine (HF.out _ HB2.out).mono ?_
  rintro e w3 ⟨fb, rfl, hfew, hb3⟩
  have HB3 := Lib.hid (HB2.out.trans (hb3.mono HB2.out.size))
  clear p0 p1 p2 hb3
  cases fb with
  | false =>
    clear hfew
    go_wp2_with fail
    go_ret
    exact ⟨rfl, HB1.out.trans (HB3.out.mono HB1.out.size)⟩
  | true =>
  have hf := hfew rfl
  have HFW := Lib.hid hf
  clear hfew hf
  obtain ⟨p0, p1, p2⟩ := HP.out _ HB3.out
  cases hmay : mayP words mx pl with
  | false =>
    go_wp2_with fail
    refine (HRN.out hmay _ _ HB3.out).mono ?_
    rintro e w4 ⟨rfl, hb4⟩
    have HB4 := Lib.hid (HB3.out.trans (hb4.mono HB3.out.size))
    clear p0 p1 p2 hb4
    go_wp2_with fail
    go_ret
    exact ⟨rfl, HB1.out.trans ((HB4.out.alloc HB4.out.size _).mono HB1.out.size)⟩
  | true =>
  obtain ⟨wn, hwn, hPO⟩ := planOk_of hmay
  have HPO := Lib.hid hPO
  have HWN := Lib.hid hwn
  have HMAY := Lib.hid hmay
  clear hwn hPO hmay
  go_wp2_with fail
  refine (HRY.out wn HWN.out HMAY.out (.slice kA np kc) picks (by have := HFW.out.2; have := HNP.out; omega) _ HB3.out (by have := HKV.out _ HB3.out; rw [← HNP.out] at this ⊢; exact this)).mono ?_
  rintro e w4 ⟨a, m, rfl, hm, her, hb4⟩
  have HB4 := Lib.hid (HB3.out.trans (hb4.mono HB3.out.size))
  have HER := Lib.hid her
  have HRG := Lib.hid (good_run HPO.out picks)
  have HGO := Lib.hid (show Good wn pl m from good_er (by rw [her]; exact good_er2 HRG.out.1))
  have HTM := Lib.hid (show m.time = (picks.length : Int) from by have e1 : m.er.time = m.time := rfl; have e2 : (runM wn mx pl picks).er.time = (runM wn mx pl picks).time := rfl; rw [← e1, her, e2]; exact HRG.out.2)
  clear p0 p1 p2 hb4 her
  have kM := Blk.new_ w4 46 (memCells a m).toArray _ rfl
  obtain ⟨w5, hw5⟩ : ∃ z, w4.alloc (.cells (memCells a m).toArray 46) = z := ⟨_, rfl⟩
  have HM := Lib.hid (hm.below (show Below w4.heap.size w4 w5 from hw5 ▸ (Below.refl _ _).alloc (Nat.le_refl _) _))
  have HB5 := Lib.hid (show Below w1.heap.size w1 w5 from hw5 ▸ HB4.out.alloc HB4.out.size _)
  rw [hw5] at kM
  have HKM := Lib.hid kM
  have HG := Lib.hid (fun W (hb : Below w5.heap.size w5 W) => (show W.cell? ⟨w4.heap.size, 0, none⟩ = some (.slice (some ⟨a.gW, 0, none⟩) m.W.length a.cW) ∧ W.cell? ⟨w4.heap.size, 1, none⟩ = some (.int .i64 m.now) ∧ W.cell? ⟨w4.heap.size, 2, none⟩ = some (.int .i64 m.mx) ∧ W.cell? ⟨w4.heap.size, 3, none⟩ = some (.slice a.lA m.L.length a.lc) ∧ W.cell? ⟨w4.heap.size, 4, none⟩ = some (.slice (some ⟨a.gT, 0, none⟩) m.T.length a.cT) ∧ W.cell? ⟨w4.heap.size, 5, none⟩ = some (.slice a.hA m.H.length a.hc) ∧ W.cell? ⟨w4.heap.size, 6, none⟩ = some (.int .i64 m.time) from
    ⟨by rw [(kM.keep hb).cell]; rfl, by rw [(kM.keep hb).cell]; rfl, by rw [(kM.keep hb).cell]; rfl, by rw [(kM.keep hb).cell]; rfl, by rw [(kM.keep hb).cell]; rfl, by rw [(kM.keep hb).cell]; rfl, by rw [(kM.keep hb).cell]; rfl⟩))
  have HW5 := Lib.hid hw5
  clear hm kM hw5
  simp only [memCells] at HW5 ⊢
  go_upto_region 6 with fail
  rw [HW5.out]
  have HRV := Lib.hid (fun W (hb : Below w5.heap.size w5 W) => (show RecsV W (.slice a.hA m.H.length a.hc) m.H from ⟨HM.out.H.below hb, fun x hx => (HM.out.hs x hx).below hb⟩))
  have hwu : words = (wn : Int) := HWN.out
  subst hwu
  have hw1 : 1 ≤ wn := HPO.out.w1
  have hw8 : wn ≤ 8 := HPO.out.w8
  have HFI := Lib.hid (runs_fin HPO.out HER.out)
  have hHl : m.H.length ≤ 100000 := by have := HGO.out.h; have := HTM.out; have := HFW.out.2; have := HNP.out; omega
  have HHL := Lib.hid hHl
  have HOP := Lib.hid (fun W (hb : Below w5.heap.size w5 W) => (show Calls Try.prog 13 #[.int .i64 (wn : Int), .slice a.hA m.H.length a.hc] W fun e w' => e = .returned (.bool true) ∧ Below W.heap.size W w' from by
    have h := opaque_any (wn : Int) (.slice a.hA m.H.length a.hc) m.H W (HRV.out W hb) HHL.out
    rw [opaque_of hw1 hw8 HFI.out] at h; exact h))
  have HSE := Lib.hid (fun W (hb : Below w5.heap.size w5 W) => (show Calls Try.prog 12 #[.int .i64 (wn : Int), .slice a.hA m.H.length a.hc] W fun e w' => e = .returned (.bool true) ∧ Below W.heap.size W w' from by
    have h := serial_any (wn : Int) (.slice a.hA m.H.length a.hc) m.H W (HRV.out W hb) HHL.out (fun x hx => wf_of (HFI.out.bd x hx).1 (HFI.out.bd x hx).2.1)
    rw [serial_of hw1 hw8 HFI.out] at h; exact h))
  have HRE := Lib.hid (fun W (hb : Below w5.heap.size w5 W) => (show Calls Try.prog 14 #[.slice a.hA m.H.length a.hc] W fun e w' => e = .returned (.bool true) ∧ Below W.heap.size W w' from by
    have h := real_any (.slice a.hA m.H.length a.hc) m.H W (HRV.out W hb) HHL.out
    rw [real_of HFI.out] at h; exact h))
  obtain ⟨p0, p1, p2⟩ := HP.out _ HB5.out
  obtain ⟨m0, m1, m2, m3, m4, m5, m6⟩ := HG.out _ (Below.refl _ _)
  clear hHl
  go_wp2_with fail
  refine (HOP.out _ (Below.refl _ _)).mono ?_
  rintro e w6 ⟨rfl, hb6⟩
  have HB6 := Lib.hid hb6
  clear p0 p1 p2 m0 m1 m2 m3 m4 m5 m6 hb6
  obtain ⟨p0, p1, p2⟩ := HP.out _ (HB5.out.trans (HB6.out.mono HB5.out.size))
  obtain ⟨m0, m1, m2, m3, m4, m5, m6⟩ := HG.out _ HB6.out
  go_wp2_with fail
  refine (HSE.out _ HB6.out).mono ?_
  rintro e w7 ⟨rfl, hb7⟩
  have HB7 := Lib.hid (HB6.out.trans (hb7.mono HB6.out.size))
  clear p0 p1 p2 m0 m1 m2 m3 m4 m5 m6 hb7
  obtain ⟨p0, p1, p2⟩ := HP.out _ (HB5.out.trans (HB7.out.mono HB5.out.size))
  obtain ⟨m0, m1, m2, m3, m4, m5, m6⟩ := HG.out _ HB7.out
  go_wp2_with fail
  refine (HRE.out _ HB7.out).mono ?_
  rintro e w8 ⟨rfl, hb8⟩
  have HB8 := Lib.hid (HB7.out.trans (hb8.mono HB7.out.size))
  clear p0 p1 p2 m0 m1 m2 m3 m4 m5 m6 hb8
  go_wp2_with fail
  go_ret
  exact ⟨rfl, HB1.out.trans ((HB5.out.trans (HB8.out.mono HB5.out.size)).mono HB1.out.size)⟩
end Go.Proofs.Ytmcbnpeihedcaaa
namespace Go.Proofs.Ytmcbnpeihedcaaa
set_option linter.unusedSimpArgs false
open Go Go.ChangeShapes Go.WideShapes Go.ChangeAt Go.RowKit
set_option linter.unusedVariables false

set_option maxRecDepth 100000 in
theorem serialRuns_lifted (os : Os) (started : os.Started) (H : Type) (enc : TypeId × Value → H) :
    ReturnsInHanded {} Try.checked os 6 .any (Rows.serialRunsSpec.pre6 enc Try.prog Try.f6 Rows.serialRunsRow.domain false) (Rows.serialRunsSpec.post enc Try.prog Try.f6 false true false false) := by
  refine returnsInHanded_of_change (C := Try.checked) own started (by kernel_rfl) Try.func6
    (ChangeSpec.witness6 (enc := enc) (C := Try.checked) false ⟨#[], #[.agg #[.int .i64 0, .int .i64 0, .slice none 0 0], .slice none 0 0], []⟩ 8 (by kernel_rfl) (by kernel_rfl) (by kernel_rfl) (by kernel_rfl)) ?_
  intro W base args ds gs before hval0 hW hcnd _
  have hval : ∀ (j : Nat) t v, Try.f6.params[j]? = some t → args[j]? = some v → Value.okWide Try.prog W .any base t v := hval0
  obtain ⟨p, q, hA0, hV, -, -, -⟩ := id hW
  have hA : DataW.TrodAll enc Try.prog W 0 (fun _ => true) true Try.f6.params.toList args.toList ds p := hA0
  rw [Try.params6] at hA hval
  obtain ⟨v0, vs0, d0, ds0, p0, q0, hargs, rfl, -, h0, r0⟩ := trodAll_cons hA
  obtain ⟨v1, vs1, d1, ds1, p1, q1, rfl, rfl, -, h1, r1⟩ := trodAll_cons r0
  obtain ⟨rfl, rfl, -⟩ := trodAll_nil r1
  obtain rfl : args = #[v0, v1] := by cases args; simp_all
  obtain ⟨rfl, -⟩ := trodVars_none hV
  obtain ⟨words0, mx0, pv0, pl0, rfl, hst0, ww0, wm0⟩ := open_plan (hval 0 39 v0 rfl rfl) h0
  obtain ⟨l1, hst1, hok1⟩ := open_picks (hval 1 29 v1 rfl rfl) h1
  refine (serialRuns_walk W words0 mx0 pv0 pl0 hst0 ww0 wm0 v1 l1 hst1 hok1).mono fun e W' ⟨he, hb⟩ => ?_
  subst he
  exact ⟨_, rfl, post_law laidOut Try.underlying4 (by kernel_rfl) (fun t ht => by have h := List.all_eq_true.1 (show (Try.f6.params.toList.all fun t => Try.prog.readableRec t && decide (t < Try.prog.types.size)) = true from by kernel_rfl) t ht; rw [Bool.and_eq_true, decide_eq_true_eq] at h; exact h) rfl hW rfl hb⟩

theorem serialRuns_holds : Rows.SerialRunsSaid :=
  show Rows.serialRunsRow.holds Try.pinned (OpenSpec.ofChange Rows.serialRunsSpec) from
  OpenClaim.holds_of_wide 6 Try.f6 rfl rfl rfl rfl rfl rfl rfl ⟨rfl, rfl, rfl, rfl, rfl⟩ rfl rfl rfl rfl rfl (by kernel_rfl) Try.func6 (by kernel_rfl)
    (of_decide_eq_true (by kernel_rfl)) (by unfold Func.isWrapper; first | (rw [if_pos (by decide +kernel)]; kernel_rfl) | (rw [if_neg (by decide +kernel)]; exact ⟨rfl, rfl⟩))
    (fun os started H enc _ => serialRuns_lifted os started H enc)

#print axioms serialRuns_holds
end Go.Proofs.Ytmcbnpeihedcaaa
