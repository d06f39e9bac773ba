/- StmPick: printed by st_pick.py. -/
import Derived.Test.YtngimbfojccikaaStPickK
namespace Go.Proofs.Ytngimbfojccikaa
set_option linter.unusedSimpArgs false
open Go Go.RowKit
set_option linter.unusedVariables false

theorem pick_eq {words : Nat} {pl : List (List (List Ac))} {m m2 s : Mm} {who : Int} (hg : Good words pl m) (hs : m.er = s.er) (h2 : m2.er = (timeM (stepM pl s who)).er) : idleL pl m who = memEq { m2 with time := m.time } m := by
  rw [Bool.eq_iff_iff, idle_iff hg who, memEq_iff]
  have e1 : ({ m2 with time := m.time } : Mm).er = { m2.er with time := m.time } := rfl
  have e2 : (timeM (stepM pl s who)).er = timeM (stepM pl m who).er := by
    rw [er_time, er_step, er_step, hs]
  have e3 : (stepM pl m who).er.time = m.time := time_step pl m who
  rw [e1, h2, e2]
  have e4 : ({ timeM (stepM pl m who).er with time := m.time } : Mm) = (stepM pl m who).er := by
    rw [← e3]; rfl
  rw [e4]
theorem pick_run {words : Nat} {mx : Int} {pl : List (List (List Ac))} {picks : List Int} {who : Int} : runM words mx pl (picks ++ [who]) = timeM (stepM pl (runM words mx pl picks) who) := runFrom_snoc pl _ picks who

set_option maxRecDepth 100000 in
set_option maxHeartbeats 16000000 in
theorem stmPick_walk (w : World) (words mx : Int) (pv : Value) (pl : List (List (List Ac))) (hpl : PlV w pv pl) (ww : okI words) (wm : okI mx) (kv : Value) (picks : List Int) (hkv : Sl w 1 kv picks.length (picks.flatMap encI)) (hok : ∀ q ∈ picks, okI q) (who : Int) (hwho : okI who) :
    Calls Try.prog 6 #[planV words mx pv, kv, .int .i64 who] w fun e w' => e = .returned (.bool true) ∧ Below w.heap.size w w' := by
  obtain ⟨A, c, rfl, _, _⟩ := hpl.form
  obtain ⟨kA, kc, rfl, _, _⟩ := hkv.form
  have kP := Blk.new_ w 24 #[.int .i64 words, .int .i64 mx, .slice A pl.length c] _ rfl
  have bP : Below w.heap.size w (w.alloc (.cells #[.int .i64 words, .int .i64 mx, .slice A pl.length c] 24)) := (Below.refl _ w).alloc (Nat.le_refl _) _
  obtain ⟨i0, hi0, hz0, hz1, hz2⟩ := info_parts int_info
  obtain ⟨w1, hw1⟩ : ∃ z, w.alloc (.cells #[.int .i64 words, .int .i64 mx, .slice A pl.length c] 24) = z := ⟨_, rfl⟩
  rw [hw1] at kP bP
  have HB1 := Lib.hid bP
  have HP := Lib.hid (fun W (hb : Below w1.heap.size w1 W) => (show W.cell? ⟨w.heap.size, 0, none⟩ = some (.int .i64 words) ∧ W.cell? ⟨w.heap.size, 1, none⟩ = some (.int .i64 mx) ∧ W.cell? ⟨w.heap.size, 2, none⟩ = some (.slice A pl.length c) from ⟨by rw [(kP.keep hb).cell]; rfl, by rw [(kP.keep hb).cell]; rfl, by rw [(kP.keep hb).cell]; rfl⟩))
  have HPV := Lib.hid (fun W (hb : Below w1.heap.size w1 W) => (hpl.below bP).below hb)
  have HKV := Lib.hid (fun W (hb : Below w1.heap.size w1 W) => (hkv.below bP).below hb)
  have HF := Lib.hid (fun W (hb : Below w1.heap.size w1 W) => few19_any words mx pl _ kA picks.length kc W (HPV.out W hb))
  have HRN := Lib.hid (fun (h : mayP words mx pl = false) v W (hb : Below w1.heap.size w1 W) => run_no words mx pl _ v W (HPV.out W hb) h)
  have HRY := Lib.hid (fun (wn : Nat) (hw : words = (wn : Int)) (h : mayP words mx pl = true) v (l : List Int) (hl : l.length ≤ 900) W (hb : Below w1.heap.size w1 W) (hv : Sl W 1 v l.length (l.flatMap encI)) => (show Calls Try.prog 12 #[planV words mx (.slice A pl.length c), v] W (RunPost W (runM wn mx pl l)) from by subst hw; exact run_yes wn mx pl _ v l W (HPV.out W hb) hv h hl))
  have HRP := Lib.hid (fun kv W (hb : Below w1.heap.size w1 W) (hkv : Sl W 1 kv (picks ++ [who]).length ((picks ++ [who]).flatMap encI)) (h150 : picks.length ≤ 150) => run_pick words mx pl _ kv (picks ++ [who]) W (HPV.out W hb) hkv (by rw [List.length_append]; simp; omega))
  have HW1 := Lib.hid hw1
  obtain ⟨n, hn⟩ : ∃ n, n = pl.length := ⟨_, rfl⟩
  obtain ⟨np, hnp⟩ : ∃ n, n = picks.length := ⟨_, rfl⟩
  have HN := Lib.hid hn
  have HNP := Lib.hid hnp
  have HOK := Lib.hid hok
  have HWW := Lib.hid (And.intro ww wm)
  rw [← hn] at HP HRN HRY HRP HW1 HF
  rw [← hnp] at HF
  rw [← hn, ← hnp]
  clear kP bP hw1 hpl hkv hn hnp hok ww wm
  simp only [planV] at HF HRN HRY HRP ⊢
  go_enter Try.func6, Try.ntmps6
  go_upto_region 1 with fail
  rw [HW1.out]
  go_wp2_with fail
  refine (awake_any _).mono ?_
  rintro e w2 ⟨rfl, hb2⟩
  have HB2 := Lib.hid hb2
  obtain ⟨p0, p1, p2⟩ := HP.out _ hb2
  clear hb2
  go_wp2_with fail
  refine (HF.out _ HB2.out).mono ?_
  rintro e w3 ⟨fb, rfl, hfew, hb3⟩
  have HB3 := Lib.hid (HB2.out.trans (hb3.mono HB2.out.size))
  clear p0 p1 p2 hb3
  cases fb with
  | false =>
    clear hfew
    go_wp2_with fail
    go_ret
    exact ⟨rfl, HB1.out.trans (HB3.out.mono HB1.out.size)⟩
  | true =>
  have hf := hfew rfl
  have HFW := Lib.hid hf
  clear hfew hf
  obtain ⟨p0, p1, p2⟩ := HP.out _ HB3.out
  replace HRP := Lib.hid (fun kv W hb hkv => HRP.out kv W hb hkv (by have := HFW.out.2; have := HNP.out; omega))
  cases hmay : mayP words mx pl with
  | false =>
    go_wp2_with fail
    refine (HRN.out hmay _ _ HB3.out).mono ?_
    rintro e w4 ⟨rfl, hb4⟩
    have HB4 := Lib.hid (HB3.out.trans (hb4.mono HB3.out.size))
    clear p0 p1 p2 hb4
    obtain ⟨w5, hw5⟩ : ∃ z, w4.alloc (.cells #[.slice none 0 0, .int .i64 0, .int .i64 0, .slice none 0 0, .slice none 0 0, .slice none 0 0, .int .i64 0] 34) = z := ⟨_, rfl⟩
    have HB5 := Lib.hid (show Below w1.heap.size w1 w5 from hw5 ▸ HB4.out.alloc HB4.out.size _)
    have HW5 := Lib.hid hw5
    rw [hmay] at HRP
    clear hw5
    have HP5 := Lib.hid (fun W (hb : Below w5.heap.size w5 W) => HP.out W (HB5.out.trans (hb.mono HB5.out.size)))
    have HK5 := Lib.hid (fun W (hb : Below w5.heap.size w5 W) => (show Sl W 1 (.slice kA np kc) np (picks.flatMap encI) from by have := HKV.out W (HB5.out.trans (hb.mono HB5.out.size)); rw [← HNP.out] at this; exact this))
    have HR5 := Lib.hid (fun kv W (hb : Below w5.heap.size w5 W) hkv => HRP.out kv W (HB5.out.trans (hb.mono HB5.out.size)) hkv)
    go_upto_region 6 with fail
    rw [HW5.out]
    go_cut [11, 12] (fun s11 s12 wx => ∃ g, s11 = .pointer (some ⟨g, 0, none⟩) ∧ s12 = .bool false ∧ Hid (w5.heap.size ≤ g ∧ Below w5.heap.size w5 wx ∧ ∃ vs, PickP false (runM words.toNat mx pl (picks ++ [who])) vs wx ∧ Blk wx g 34 vs.toArray))
    case first =>
      have hBB : Below w5.heap.size w5 w5.drew := (Below.refl _ _).drew
      obtain ⟨wz, hwz⟩ : ∃ z, w5.drew = z := ⟨_, rfl⟩
      rw [hwz] at hBB
      have HWZ := Lib.hid hwz
      have HONE := Lib.hid (encI_one picks)
      have h150 : np ≤ 150 := by have := HFW.out.2; omega
      clear hwz
      refine wp_region_held_drew (S := fun W => W.cell? ⟨w.heap.size, 0, none⟩ = some (.int .i64 words) ∧ W.cell? ⟨w.heap.size, 1, none⟩ = some (.int .i64 mx) ∧ W.cell? ⟨w.heap.size, 2, none⟩ = some (.slice A n c)) (by kernel_rfl) ?_ (fun hHeldbr => ?_)
      · exact HP5.out _ (Below.refl _ _).drew
      refine wpAnyH_take (i := 0) (oi := { dst := some 32, op := Op.load 24 (Operand.tmp 3), type := 24, pos := "law.go:137", after := _, guard := none }) (v := ?vbr0b1) rfl (by kernel_rfl) (by kernel_rfl) (by kernel_rfl) (fun _ _ _ h => h) (Or.inl ⟨by rfl, ?hybr0b1⟩) (by assumption) ?restbr0b1
      case hybr0b1 => (intro w hSw; (try dsimp only at hSw); go_simp <;> with_reducible rfl)
      try simp only [Act.put, List.setIfInBounds_toArray, List.set_cons_zero, List.set_cons_succ]
      refine wpAnyH_take (i := 1) (oi := { dst := some 33, op := Op.move (Operand.tmp 1), type := 25, pos := "law.go:137", after := _, guard := none }) (v := ?vbr1b2) rfl (by kernel_rfl) (by kernel_rfl) (by kernel_rfl) (fun _ _ _ h => h) (Or.inl ⟨by rfl, ?hybr1b2⟩) (by assumption) ?restbr1b2
      case hybr1b2 => (intro w hSw; (try dsimp only at hSw); go_simp <;> with_reducible rfl)
      try simp only [Act.put, List.setIfInBounds_toArray, List.set_cons_zero, List.set_cons_succ]
      refine wpAnyH_take (i := 3) (oi := { dst := some 35, op := Op.move (Operand.tmp 2), type := 3, pos := "law.go:137", after := _, guard := none }) (v := ?vbr3b3) rfl (by kernel_rfl) (by kernel_rfl) (by kernel_rfl) (fun _ _ _ h => h) (Or.inl ⟨by rfl, ?hybr3b3⟩) (by assumption) ?restbr3b3
      case hybr3b3 => (intro w hSw; (try dsimp only at hSw); go_simp <;> with_reducible rfl)
      try simp only [Act.put, List.setIfInBounds_toArray, List.set_cons_zero, List.set_cons_succ]
      refine wpAnyH_ready (rs := [2, 4, 10]) (by kernel_rfl) (by simp) ?_
      refine AllReadyH.cons (o := { dst := some 34, op := Op.call { callee := Callee.builtin Builtin.append, args := #[Operand.const (Value.slice none 0 0), Operand.tmp 33], argTypes := #[25, 25] }, type := 25, pos := "law.go:137", after := _, guard := none }) rfl (fun K hK => ?_) ?_
      · (try rw [HWZ.out])
        refine step_append_sl rfl (.const (.slice none 0 0)) (.tmp 33) _ rfl w5.heap.size 3 i0 _ 1 8 Try.underlying25 hi0 hz0 hz1 hz2 rfl (by omega) (.slice none 0 0) 0 [] rfl (World.ownsRow_nil _ _ _ _) (.slice kA np kc) np _ rfl (HK5.out _ hBB) HONE.out (by unfold maxLen; omega) (by omega) hBB.size ?_
        rintro v1 wz hV1 hgz -
        have hb := below_grown_none hgz
        simp only [Nat.zero_add, List.nil_append] at hV1
        (try replace hU := hU.below hb)
        (try replace kG := kG.keep hb)
        replace hBB := hBB.trans (hb.mono hBB.size)
        clear hgz hb
        refine hK.out _ _ ?_ (fun hHeldbr2b4 => ?_)
        · exact HP5.out _ hBB
        clear hK K hHeldbr
        try simp only [Act.put, List.setIfInBounds_toArray, List.set_cons_zero, List.set_cons_succ]
        refine wpAnyH_ready (rs := [4, 10]) (by kernel_rfl) (by simp) ?_
        refine AllReadyH.cons (o := { dst := some 36, op := Op.buildSlice 25 1 #[(0, Operand.tmp 35)], type := 25, pos := "law.go:137", after := _, guard := none }) rfl (fun K hK => ?_) ?_
        · (try rw [HWZ.out])
          go_simp
          have hb := Below.alloc (Below.refl wz.heap.size wz) (Nat.le_refl _) (.cells #[.int .i64 who] 3)
          have hU0 := Blk.new wz 3 #[.int .i64 who]
          obtain ⟨gu, hgu⟩ : ∃ g, wz.heap.size = g := ⟨_, rfl⟩
          obtain ⟨wz, hwy⟩ : ∃ z, wz.alloc (.cells #[.int .i64 who] 3) = z := ⟨_, rfl⟩
          rw [hwy] at hb hU0 ⊢
          rw [hgu] at hU0 ⊢
          (try replace hV1 := own_below hV1 hb)
          (try replace hV2 := own_below hV2 hb)
          (try replace hU := hU.below hb)
          (try replace hM := hM.below hb)
          (try replace kG := kG.keep hb)
          replace hBB := hBB.trans (hb.mono hBB.size)
          have hU := slI_one hU0
          clear hb hU0 hgu hwy
          refine hK.out _ _ ?_ (fun hHeldbr4b5 => ?_)
          · exact HP5.out _ hBB
          clear hK K hHeldbr2b4
          try simp only [Act.put, List.setIfInBounds_toArray, List.set_cons_zero, List.set_cons_succ]
          refine wpAnyH_ready (rs := [5, 10]) (by kernel_rfl) (by simp) ?_
          refine AllReadyH.cons (o := { dst := some 37, op := Op.call { callee := Callee.builtin Builtin.append, args := #[Operand.tmp 34, Operand.tmp 36], argTypes := #[25, 25] }, type := 25, pos := "law.go:137", after := _, guard := none }) rfl (fun K hK => ?_) ?_
          · refine step_append_sl rfl (.tmp 34) (.tmp 36) _ rfl w5.heap.size 3 i0 _ 1 8 Try.underlying25 hi0 hz0 hz1 hz2 rfl (by omega) _ np _ rfl hV1 _ 1 _ rfl hU (by simp [Value.oneCell']) (by unfold maxLen; omega) (by omega) hBB.size ?_
            rintro v2 wz hV2 hgz -
            have hb := below_own hV1 hgz (Nat.le_refl _) hBB.size
            (try replace kG := kG.grown hgz (fun e => own_ne hV1 kG (by decide) e.symm))
            replace hBB := hBB.trans hb
            clear hgz hb hU hV1
            refine hK.out _ _ ?_ (fun hHeldbr5b6 => ?_)
            · exact HP5.out _ hBB
            clear hK K hHeldbr4b5
            try simp only [Act.put, List.setIfInBounds_toArray, List.set_cons_zero, List.set_cons_succ]
            refine wpAnyH_ready (rs := [6, 10]) (by kernel_rfl) (by simp) ?_
            refine AllReadyH.cons (o := { dst := some 38, op := Op.call { callee := Callee.value (Operand.func 12), args := #[Operand.tmp 32, Operand.tmp 37], argTypes := #[24, 25] }, type := 35, pos := "law.go:137", after := _, guard := none }) rfl (fun K hK => ?_) ?_
            · go_simp
              refine (HR5.out _ _ hBB (show Sl _ 1 _ (picks ++ [who]).length ((picks ++ [who]).flatMap encI) from by rw [List.length_append, ← HNP.out, List.flatMap_append]; exact Sl.of_own hV2)).mono ?_
              rintro e wz ⟨vs, rfl, hM, hb⟩
              (try replace kG := kG.keep hb)
              replace hBB := hBB.trans (hb.mono hBB.size)
              clear hV2 hb
              try go_wp2_with fail
              refine hK.out _ _ ?_ (fun hHeldbr6b7 => ?_)
              · exact HP5.out _ hBB
              clear hK K hHeldbr5b6
              try simp only [Act.put, List.setIfInBounds_toArray, List.set_cons_zero, List.set_cons_succ]
              refine wpAnyH_take (i := 7) (oi := { dst := some 31, op := Op.move (Operand.tmp 38), type := 35, pos := "law.go:137", after := _, guard := none }) (v := ?vbr7b8) rfl (by kernel_rfl) (by kernel_rfl) (by kernel_rfl) (fun _ _ _ h => h) (Or.inl ⟨by rfl, ?hybr7b8⟩) (by assumption) ?restbr7b8
              case hybr7b8 => (intro w hSw; (try dsimp only at hSw); go_simp <;> with_reducible rfl)
              try simp only [Act.put, List.setIfInBounds_toArray, List.set_cons_zero, List.set_cons_succ]
              refine wpAnyH_take (i := 8) (oi := { dst := some 39, op := Op.extract (Operand.tmp 31) 0, type := 34, pos := "law.go:137", after := _, guard := none }) (v := ?vbr8b9) rfl (by kernel_rfl) (by kernel_rfl) (by kernel_rfl) (fun _ _ _ h => h) (Or.inl ⟨by rfl, ?hybr8b9⟩) (by assumption) ?restbr8b9
              case hybr8b9 => (intro w hSw; (try dsimp only at hSw); go_simp <;> with_reducible rfl)
              try simp only [Act.put, List.setIfInBounds_toArray, List.set_cons_zero, List.set_cons_succ]
              refine wpAnyH_take (i := 9) (oi := { dst := some 40, op := Op.extract (Operand.tmp 31) 1, type := 4, pos := "law.go:137", after := _, guard := none }) (v := ?vbr9b10) rfl (by kernel_rfl) (by kernel_rfl) (by kernel_rfl) (fun _ _ _ h => h) (Or.inl ⟨by rfl, ?hybr9b10⟩) (by assumption) ?restbr9b10
              case hybr9b10 => (intro w hSw; (try dsimp only at hSw); go_simp <;> with_reducible rfl)
              try simp only [Act.put, List.setIfInBounds_toArray, List.set_cons_zero, List.set_cons_succ]
              refine wpAnyH_ready (rs := [10]) (by kernel_rfl) (by simp) ?_
              refine AllReadyH.cons (o := { dst := some 11, op := Op.alloc 34, type := 0, pos := "law.go:137", after := _, guard := none }) rfl (fun K hK => ?_) AllReadyH.nil
              (try rw [HWZ.out])
              go_simp
              have hb := Below.alloc (Below.refl wz.heap.size wz) (Nat.le_refl _) (.cells #[.slice none 0 0, .int .i64 0, .int .i64 0, .slice none 0 0, .slice none 0 0, .slice none 0 0, .int .i64 0] 34)
              have kG := Blk.new wz 34 #[.slice none 0 0, .int .i64 0, .int .i64 0, .slice none 0 0, .slice none 0 0, .slice none 0 0, .int .i64 0]
              have hgl := hBB.size
              obtain ⟨g, hgg⟩ : ∃ g, wz.heap.size = g := ⟨_, rfl⟩
              obtain ⟨wz, hwy⟩ : ∃ z, wz.alloc (.cells #[.slice none 0 0, .int .i64 0, .int .i64 0, .slice none 0 0, .slice none 0 0, .slice none 0 0, .int .i64 0] 34) = z := ⟨_, rfl⟩
              rw [hwy] at hb kG ⊢
              rw [hgg] at kG hgl ⊢
              (try replace hV1 := own_below hV1 hb)
              (try replace hV2 := own_below hV2 hb)
              (try replace hU := hU.below hb)
              (try replace hM := hM.below hb)
              replace hBB := hBB.trans (hb.mono hBB.size)
              clear hb hgg hwy
              refine hK.out _ _ ?_ (fun hHeldbr10b11 => ?_)
              · exact HP5.out _ hBB
              clear hK K hHeldbr6b7
              try simp only [Act.put, List.setIfInBounds_toArray, List.set_cons_zero, List.set_cons_succ]
              refine wpAnyH_ready (rs := [11]) (by kernel_rfl) (by simp) ?_
              refine AllReadyH.cons (o := { dst := none, op := Op.store 34 (Operand.tmp 11) (Operand.tmp 39), type := 0, pos := "law.go:137", after := _, guard := none }) rfl (fun K hK => ?_) AllReadyH.nil
              refine step_store_mem g _ kG rfl vs hM.1 hM.2.1 (.tmp 11) (.tmp 39) (by rfl) rfl rfl rfl ?_
              rintro wz kG2 hgz
              replace hM := hM.box hgz kG
              replace hBB := hBB.grown hgz hBB.size (fun k hk => by injection hk with hk; omega)
              clear hgz kG
              refine hK.out _ _ ?_ (fun hHeldbr11b12 => ?_)
              · exact HP5.out _ hBB
              clear hK K hHeldbr10b11
              try simp only [Act.put, List.setIfInBounds_toArray, List.set_cons_zero, List.set_cons_succ]
              refine wpAnyH_ready (rs := [12]) (by kernel_rfl) (by simp) ?_
              refine AllReadyH.cons (o := { dst := some 12, op := Op.assign (Operand.tmp 40), type := 4, pos := "law.go:137", after := _, guard := none }) rfl (fun K hK => ?_) AllReadyH.nil
              go_simp
              skip
              refine hK.out _ _ ?_ (fun hHeldbr12b13 => ?_)
              · exact HP5.out _ hBB
              clear hK K hHeldbr11b12
              try simp only [Act.put, List.setIfInBounds_toArray, List.set_cons_zero, List.set_cons_succ]
              refine wpAnyH_done (by kernel_rfl) ?_ _
              go_wp2_with fail
              go_meet
              exact ⟨g, rfl, rfl, (show Hid _ from ⟨hgl, hBB, vs, hM, kG2⟩)⟩
            refine AllReadyH.cons (o := { dst := some 11, op := Op.alloc 34, type := 0, pos := "law.go:137", after := _, guard := none }) rfl (fun K hK => ?_) ?_
            · (try rw [HWZ.out])
              go_simp
              have hb := Below.alloc (Below.refl wz.heap.size wz) (Nat.le_refl _) (.cells #[.slice none 0 0, .int .i64 0, .int .i64 0, .slice none 0 0, .slice none 0 0, .slice none 0 0, .int .i64 0] 34)
              have kG := Blk.new wz 34 #[.slice none 0 0, .int .i64 0, .int .i64 0, .slice none 0 0, .slice none 0 0, .slice none 0 0, .int .i64 0]
              have hgl := hBB.size
              obtain ⟨g, hgg⟩ : ∃ g, wz.heap.size = g := ⟨_, rfl⟩
              obtain ⟨wz, hwy⟩ : ∃ z, wz.alloc (.cells #[.slice none 0 0, .int .i64 0, .int .i64 0, .slice none 0 0, .slice none 0 0, .slice none 0 0, .int .i64 0] 34) = z := ⟨_, rfl⟩
              rw [hwy] at hb kG ⊢
              rw [hgg] at kG hgl ⊢
              (try replace hV1 := own_below hV1 hb)
              (try replace hV2 := own_below hV2 hb)
              (try replace hU := hU.below hb)
              (try replace hM := hM.below hb)
              replace hBB := hBB.trans (hb.mono hBB.size)
              clear hb hgg hwy
              refine hK.out _ _ ?_ (fun hHeldbr10b14 => ?_)
              · exact HP5.out _ hBB
              clear hK K hHeldbr5b6
              try simp only [Act.put, List.setIfInBounds_toArray, List.set_cons_zero, List.set_cons_succ]
              refine wpAnyH_ready (rs := [6]) (by kernel_rfl) (by simp) ?_
              refine AllReadyH.cons (o := { dst := some 38, op := Op.call { callee := Callee.value (Operand.func 12), args := #[Operand.tmp 32, Operand.tmp 37], argTypes := #[24, 25] }, type := 35, pos := "law.go:137", after := _, guard := none }) rfl (fun K hK => ?_) AllReadyH.nil
              go_simp
              refine (HR5.out _ _ hBB (show Sl _ 1 _ (picks ++ [who]).length ((picks ++ [who]).flatMap encI) from by rw [List.length_append, ← HNP.out, List.flatMap_append]; exact Sl.of_own hV2)).mono ?_
              rintro e wz ⟨vs, rfl, hM, hb⟩
              (try replace kG := kG.keep hb)
              replace hBB := hBB.trans (hb.mono hBB.size)
              clear hV2 hb
              try go_wp2_with fail
              refine hK.out _ _ ?_ (fun hHeldbr6b15 => ?_)
              · exact HP5.out _ hBB
              clear hK K hHeldbr10b14
              try simp only [Act.put, List.setIfInBounds_toArray, List.set_cons_zero, List.set_cons_succ]
              refine wpAnyH_take (i := 7) (oi := { dst := some 31, op := Op.move (Operand.tmp 38), type := 35, pos := "law.go:137", after := _, guard := none }) (v := ?vbr7b16) rfl (by kernel_rfl) (by kernel_rfl) (by kernel_rfl) (fun _ _ _ h => h) (Or.inl ⟨by rfl, ?hybr7b16⟩) (by assumption) ?restbr7b16
              case hybr7b16 => (intro w hSw; (try dsimp only at hSw); go_simp <;> with_reducible rfl)
              try simp only [Act.put, List.setIfInBounds_toArray, List.set_cons_zero, List.set_cons_succ]
              refine wpAnyH_take (i := 8) (oi := { dst := some 39, op := Op.extract (Operand.tmp 31) 0, type := 34, pos := "law.go:137", after := _, guard := none }) (v := ?vbr8b17) rfl (by kernel_rfl) (by kernel_rfl) (by kernel_rfl) (fun _ _ _ h => h) (Or.inl ⟨by rfl, ?hybr8b17⟩) (by assumption) ?restbr8b17
              case hybr8b17 => (intro w hSw; (try dsimp only at hSw); go_simp <;> with_reducible rfl)
              try simp only [Act.put, List.setIfInBounds_toArray, List.set_cons_zero, List.set_cons_succ]
              refine wpAnyH_take (i := 9) (oi := { dst := some 40, op := Op.extract (Operand.tmp 31) 1, type := 4, pos := "law.go:137", after := _, guard := none }) (v := ?vbr9b18) rfl (by kernel_rfl) (by kernel_rfl) (by kernel_rfl) (fun _ _ _ h => h) (Or.inl ⟨by rfl, ?hybr9b18⟩) (by assumption) ?restbr9b18
              case hybr9b18 => (intro w hSw; (try dsimp only at hSw); go_simp <;> with_reducible rfl)
              try simp only [Act.put, List.setIfInBounds_toArray, List.set_cons_zero, List.set_cons_succ]
              refine wpAnyH_ready (rs := [11]) (by kernel_rfl) (by simp) ?_
              refine AllReadyH.cons (o := { dst := none, op := Op.store 34 (Operand.tmp 11) (Operand.tmp 39), type := 0, pos := "law.go:137", after := _, guard := none }) rfl (fun K hK => ?_) AllReadyH.nil
              refine step_store_mem g _ kG rfl vs hM.1 hM.2.1 (.tmp 11) (.tmp 39) (by rfl) rfl rfl rfl ?_
              rintro wz kG2 hgz
              replace hM := hM.box hgz kG
              replace hBB := hBB.grown hgz hBB.size (fun k hk => by injection hk with hk; omega)
              clear hgz kG
              refine hK.out _ _ ?_ (fun hHeldbr11b19 => ?_)
              · exact HP5.out _ hBB
              clear hK K hHeldbr6b15
              try simp only [Act.put, List.setIfInBounds_toArray, List.set_cons_zero, List.set_cons_succ]
              refine wpAnyH_ready (rs := [12]) (by kernel_rfl) (by simp) ?_
              refine AllReadyH.cons (o := { dst := some 12, op := Op.assign (Operand.tmp 40), type := 4, pos := "law.go:137", after := _, guard := none }) rfl (fun K hK => ?_) AllReadyH.nil
              go_simp
              skip
              refine hK.out _ _ ?_ (fun hHeldbr12b20 => ?_)
              · exact HP5.out _ hBB
              clear hK K hHeldbr11b19
              try simp only [Act.put, List.setIfInBounds_toArray, List.set_cons_zero, List.set_cons_succ]
              refine wpAnyH_done (by kernel_rfl) ?_ _
              go_wp2_with fail
              go_meet
              exact ⟨g, rfl, rfl, (show Hid _ from ⟨hgl, hBB, vs, hM, kG2⟩)⟩
            exact AllReadyH.nil
          refine AllReadyH.cons (o := { dst := some 11, op := Op.alloc 34, type := 0, pos := "law.go:137", after := _, guard := none }) rfl (fun K hK => ?_) ?_
          · (try rw [HWZ.out])
            go_simp
            have hb := Below.alloc (Below.refl wz.heap.size wz) (Nat.le_refl _) (.cells #[.slice none 0 0, .int .i64 0, .int .i64 0, .slice none 0 0, .slice none 0 0, .slice none 0 0, .int .i64 0] 34)
            have kG := Blk.new wz 34 #[.slice none 0 0, .int .i64 0, .int .i64 0, .slice none 0 0, .slice none 0 0, .slice none 0 0, .int .i64 0]
            have hgl := hBB.size
            obtain ⟨g, hgg⟩ : ∃ g, wz.heap.size = g := ⟨_, rfl⟩
            obtain ⟨wz, hwy⟩ : ∃ z, wz.alloc (.cells #[.slice none 0 0, .int .i64 0, .int .i64 0, .slice none 0 0, .slice none 0 0, .slice none 0 0, .int .i64 0] 34) = z := ⟨_, rfl⟩
            rw [hwy] at hb kG ⊢
            rw [hgg] at kG hgl ⊢
            (try replace hV1 := own_below hV1 hb)
            (try replace hV2 := own_below hV2 hb)
            (try replace hU := hU.below hb)
            (try replace hM := hM.below hb)
            replace hBB := hBB.trans (hb.mono hBB.size)
            clear hb hgg hwy
            refine hK.out _ _ ?_ (fun hHeldbr10b21 => ?_)
            · exact HP5.out _ hBB
            clear hK K hHeldbr4b5
            try simp only [Act.put, List.setIfInBounds_toArray, List.set_cons_zero, List.set_cons_succ]
            refine wpAnyH_ready (rs := [5]) (by kernel_rfl) (by simp) ?_
            refine AllReadyH.cons (o := { dst := some 37, op := Op.call { callee := Callee.builtin Builtin.append, args := #[Operand.tmp 34, Operand.tmp 36], argTypes := #[25, 25] }, type := 25, pos := "law.go:137", after := _, guard := none }) rfl (fun K hK => ?_) AllReadyH.nil
            refine step_append_sl rfl (.tmp 34) (.tmp 36) _ rfl w5.heap.size 3 i0 _ 1 8 Try.underlying25 hi0 hz0 hz1 hz2 rfl (by omega) _ np _ rfl hV1 _ 1 _ rfl hU (by simp [Value.oneCell']) (by unfold maxLen; omega) (by omega) hBB.size ?_
            rintro v2 wz hV2 hgz -
            have hb := below_own hV1 hgz (Nat.le_refl _) hBB.size
            (try replace kG := kG.grown hgz (fun e => own_ne hV1 kG (by decide) e.symm))
            replace hBB := hBB.trans hb
            clear hgz hb hU hV1
            refine hK.out _ _ ?_ (fun hHeldbr5b22 => ?_)
            · exact HP5.out _ hBB
            clear hK K hHeldbr10b21
            try simp only [Act.put, List.setIfInBounds_toArray, List.set_cons_zero, List.set_cons_succ]
            refine wpAnyH_ready (rs := [6]) (by kernel_rfl) (by simp) ?_
            refine AllReadyH.cons (o := { dst := some 38, op := Op.call { callee := Callee.value (Operand.func 12), args := #[Operand.tmp 32, Operand.tmp 37], argTypes := #[24, 25] }, type := 35, pos := "law.go:137", after := _, guard := none }) rfl (fun K hK => ?_) AllReadyH.nil
            go_simp
            refine (HR5.out _ _ hBB (show Sl _ 1 _ (picks ++ [who]).length ((picks ++ [who]).flatMap encI) from by rw [List.length_append, ← HNP.out, List.flatMap_append]; exact Sl.of_own hV2)).mono ?_
            rintro e wz ⟨vs, rfl, hM, hb⟩
            (try replace kG := kG.keep hb)
            replace hBB := hBB.trans (hb.mono hBB.size)
            clear hV2 hb
            try go_wp2_with fail
            refine hK.out _ _ ?_ (fun hHeldbr6b23 => ?_)
            · exact HP5.out _ hBB
            clear hK K hHeldbr5b22
            try simp only [Act.put, List.setIfInBounds_toArray, List.set_cons_zero, List.set_cons_succ]
            refine wpAnyH_take (i := 7) (oi := { dst := some 31, op := Op.move (Operand.tmp 38), type := 35, pos := "law.go:137", after := _, guard := none }) (v := ?vbr7b24) rfl (by kernel_rfl) (by kernel_rfl) (by kernel_rfl) (fun _ _ _ h => h) (Or.inl ⟨by rfl, ?hybr7b24⟩) (by assumption) ?restbr7b24
            case hybr7b24 => (intro w hSw; (try dsimp only at hSw); go_simp <;> with_reducible rfl)
            try simp only [Act.put, List.setIfInBounds_toArray, List.set_cons_zero, List.set_cons_succ]
            refine wpAnyH_take (i := 8) (oi := { dst := some 39, op := Op.extract (Operand.tmp 31) 0, type := 34, pos := "law.go:137", after := _, guard := none }) (v := ?vbr8b25) rfl (by kernel_rfl) (by kernel_rfl) (by kernel_rfl) (fun _ _ _ h => h) (Or.inl ⟨by rfl, ?hybr8b25⟩) (by assumption) ?restbr8b25
            case hybr8b25 => (intro w hSw; (try dsimp only at hSw); go_simp <;> with_reducible rfl)
            try simp only [Act.put, List.setIfInBounds_toArray, List.set_cons_zero, List.set_cons_succ]
            refine wpAnyH_take (i := 9) (oi := { dst := some 40, op := Op.extract (Operand.tmp 31) 1, type := 4, pos := "law.go:137", after := _, guard := none }) (v := ?vbr9b26) rfl (by kernel_rfl) (by kernel_rfl) (by kernel_rfl) (fun _ _ _ h => h) (Or.inl ⟨by rfl, ?hybr9b26⟩) (by assumption) ?restbr9b26
            case hybr9b26 => (intro w hSw; (try dsimp only at hSw); go_simp <;> with_reducible rfl)
            try simp only [Act.put, List.setIfInBounds_toArray, List.set_cons_zero, List.set_cons_succ]
            refine wpAnyH_ready (rs := [11]) (by kernel_rfl) (by simp) ?_
            refine AllReadyH.cons (o := { dst := none, op := Op.store 34 (Operand.tmp 11) (Operand.tmp 39), type := 0, pos := "law.go:137", after := _, guard := none }) rfl (fun K hK => ?_) AllReadyH.nil
            refine step_store_mem g _ kG rfl vs hM.1 hM.2.1 (.tmp 11) (.tmp 39) (by rfl) rfl rfl rfl ?_
            rintro wz kG2 hgz
            replace hM := hM.box hgz kG
            replace hBB := hBB.grown hgz hBB.size (fun k hk => by injection hk with hk; omega)
            clear hgz kG
            refine hK.out _ _ ?_ (fun hHeldbr11b27 => ?_)
            · exact HP5.out _ hBB
            clear hK K hHeldbr6b23
            try simp only [Act.put, List.setIfInBounds_toArray, List.set_cons_zero, List.set_cons_succ]
            refine wpAnyH_ready (rs := [12]) (by kernel_rfl) (by simp) ?_
            refine AllReadyH.cons (o := { dst := some 12, op := Op.assign (Operand.tmp 40), type := 4, pos := "law.go:137", after := _, guard := none }) rfl (fun K hK => ?_) AllReadyH.nil
            go_simp
            skip
            refine hK.out _ _ ?_ (fun hHeldbr12b28 => ?_)
            · exact HP5.out _ hBB
            clear hK K hHeldbr11b27
            try simp only [Act.put, List.setIfInBounds_toArray, List.set_cons_zero, List.set_cons_succ]
            refine wpAnyH_done (by kernel_rfl) ?_ _
            go_wp2_with fail
            go_meet
            exact ⟨g, rfl, rfl, (show Hid _ from ⟨hgl, hBB, vs, hM, kG2⟩)⟩
          exact AllReadyH.nil
        refine AllReadyH.cons (o := { dst := some 11, op := Op.alloc 34, type := 0, pos := "law.go:137", after := _, guard := none }) rfl (fun K hK => ?_) ?_
        · (try rw [HWZ.out])
          go_simp
          have hb := Below.alloc (Below.refl wz.heap.size wz) (Nat.le_refl _) (.cells #[.slice none 0 0, .int .i64 0, .int .i64 0, .slice none 0 0, .slice none 0 0, .slice none 0 0, .int .i64 0] 34)
          have kG := Blk.new wz 34 #[.slice none 0 0, .int .i64 0, .int .i64 0, .slice none 0 0, .slice none 0 0, .slice none 0 0, .int .i64 0]
          have hgl := hBB.size
          obtain ⟨g, hgg⟩ : ∃ g, wz.heap.size = g := ⟨_, rfl⟩
          obtain ⟨wz, hwy⟩ : ∃ z, wz.alloc (.cells #[.slice none 0 0, .int .i64 0, .int .i64 0, .slice none 0 0, .slice none 0 0, .slice none 0 0, .int .i64 0] 34) = z := ⟨_, rfl⟩
          rw [hwy] at hb kG ⊢
          rw [hgg] at kG hgl ⊢
          (try replace hV1 := own_below hV1 hb)
          (try replace hV2 := own_below hV2 hb)
          (try replace hU := hU.below hb)
          (try replace hM := hM.below hb)
          replace hBB := hBB.trans (hb.mono hBB.size)
          clear hb hgg hwy
          refine hK.out _ _ ?_ (fun hHeldbr10b29 => ?_)
          · exact HP5.out _ hBB
          clear hK K hHeldbr2b4
          try simp only [Act.put, List.setIfInBounds_toArray, List.set_cons_zero, List.set_cons_succ]
          refine wpAnyH_ready (rs := [4]) (by kernel_rfl) (by simp) ?_
          refine AllReadyH.cons (o := { dst := some 36, op := Op.buildSlice 25 1 #[(0, Operand.tmp 35)], type := 25, pos := "law.go:137", after := _, guard := none }) rfl (fun K hK => ?_) AllReadyH.nil
          (try rw [HWZ.out])
          go_simp
          have hb := Below.alloc (Below.refl wz.heap.size wz) (Nat.le_refl _) (.cells #[.int .i64 who] 3)
          have hU0 := Blk.new wz 3 #[.int .i64 who]
          obtain ⟨gu, hgu⟩ : ∃ g, wz.heap.size = g := ⟨_, rfl⟩
          obtain ⟨wz, hwy⟩ : ∃ z, wz.alloc (.cells #[.int .i64 who] 3) = z := ⟨_, rfl⟩
          rw [hwy] at hb hU0 ⊢
          rw [hgu] at hU0 ⊢
          (try replace hV1 := own_below hV1 hb)
          (try replace hV2 := own_below hV2 hb)
          (try replace hU := hU.below hb)
          (try replace hM := hM.below hb)
          (try replace kG := kG.keep hb)
          replace hBB := hBB.trans (hb.mono hBB.size)
          have hU := slI_one hU0
          clear hb hU0 hgu hwy
          refine hK.out _ _ ?_ (fun hHeldbr4b30 => ?_)
          · exact HP5.out _ hBB
          clear hK K hHeldbr10b29
          try simp only [Act.put, List.setIfInBounds_toArray, List.set_cons_zero, List.set_cons_succ]
          refine wpAnyH_ready (rs := [5]) (by kernel_rfl) (by simp) ?_
          refine AllReadyH.cons (o := { dst := some 37, op := Op.call { callee := Callee.builtin Builtin.append, args := #[Operand.tmp 34, Operand.tmp 36], argTypes := #[25, 25] }, type := 25, pos := "law.go:137", after := _, guard := none }) rfl (fun K hK => ?_) AllReadyH.nil
          refine step_append_sl rfl (.tmp 34) (.tmp 36) _ rfl w5.heap.size 3 i0 _ 1 8 Try.underlying25 hi0 hz0 hz1 hz2 rfl (by omega) _ np _ rfl hV1 _ 1 _ rfl hU (by simp [Value.oneCell']) (by unfold maxLen; omega) (by omega) hBB.size ?_
          rintro v2 wz hV2 hgz -
          have hb := below_own hV1 hgz (Nat.le_refl _) hBB.size
          (try replace kG := kG.grown hgz (fun e => own_ne hV1 kG (by decide) e.symm))
          replace hBB := hBB.trans hb
          clear hgz hb hU hV1
          refine hK.out _ _ ?_ (fun hHeldbr5b31 => ?_)
          · exact HP5.out _ hBB
          clear hK K hHeldbr4b30
          try simp only [Act.put, List.setIfInBounds_toArray, List.set_cons_zero, List.set_cons_succ]
          refine wpAnyH_ready (rs := [6]) (by kernel_rfl) (by simp) ?_
          refine AllReadyH.cons (o := { dst := some 38, op := Op.call { callee := Callee.value (Operand.func 12), args := #[Operand.tmp 32, Operand.tmp 37], argTypes := #[24, 25] }, type := 35, pos := "law.go:137", after := _, guard := none }) rfl (fun K hK => ?_) AllReadyH.nil
          go_simp
          refine (HR5.out _ _ hBB (show Sl _ 1 _ (picks ++ [who]).length ((picks ++ [who]).flatMap encI) from by rw [List.length_append, ← HNP.out, List.flatMap_append]; exact Sl.of_own hV2)).mono ?_
          rintro e wz ⟨vs, rfl, hM, hb⟩
          (try replace kG := kG.keep hb)
          replace hBB := hBB.trans (hb.mono hBB.size)
          clear hV2 hb
          try go_wp2_with fail
          refine hK.out _ _ ?_ (fun hHeldbr6b32 => ?_)
          · exact HP5.out _ hBB
          clear hK K hHeldbr5b31
          try simp only [Act.put, List.setIfInBounds_toArray, List.set_cons_zero, List.set_cons_succ]
          refine wpAnyH_take (i := 7) (oi := { dst := some 31, op := Op.move (Operand.tmp 38), type := 35, pos := "law.go:137", after := _, guard := none }) (v := ?vbr7b33) rfl (by kernel_rfl) (by kernel_rfl) (by kernel_rfl) (fun _ _ _ h => h) (Or.inl ⟨by rfl, ?hybr7b33⟩) (by assumption) ?restbr7b33
          case hybr7b33 => (intro w hSw; (try dsimp only at hSw); go_simp <;> with_reducible rfl)
          try simp only [Act.put, List.setIfInBounds_toArray, List.set_cons_zero, List.set_cons_succ]
          refine wpAnyH_take (i := 8) (oi := { dst := some 39, op := Op.extract (Operand.tmp 31) 0, type := 34, pos := "law.go:137", after := _, guard := none }) (v := ?vbr8b34) rfl (by kernel_rfl) (by kernel_rfl) (by kernel_rfl) (fun _ _ _ h => h) (Or.inl ⟨by rfl, ?hybr8b34⟩) (by assumption) ?restbr8b34
          case hybr8b34 => (intro w hSw; (try dsimp only at hSw); go_simp <;> with_reducible rfl)
          try simp only [Act.put, List.setIfInBounds_toArray, List.set_cons_zero, List.set_cons_succ]
          refine wpAnyH_take (i := 9) (oi := { dst := some 40, op := Op.extract (Operand.tmp 31) 1, type := 4, pos := "law.go:137", after := _, guard := none }) (v := ?vbr9b35) rfl (by kernel_rfl) (by kernel_rfl) (by kernel_rfl) (fun _ _ _ h => h) (Or.inl ⟨by rfl, ?hybr9b35⟩) (by assumption) ?restbr9b35
          case hybr9b35 => (intro w hSw; (try dsimp only at hSw); go_simp <;> with_reducible rfl)
          try simp only [Act.put, List.setIfInBounds_toArray, List.set_cons_zero, List.set_cons_succ]
          refine wpAnyH_ready (rs := [11]) (by kernel_rfl) (by simp) ?_
          refine AllReadyH.cons (o := { dst := none, op := Op.store 34 (Operand.tmp 11) (Operand.tmp 39), type := 0, pos := "law.go:137", after := _, guard := none }) rfl (fun K hK => ?_) AllReadyH.nil
          refine step_store_mem g _ kG rfl vs hM.1 hM.2.1 (.tmp 11) (.tmp 39) (by rfl) rfl rfl rfl ?_
          rintro wz kG2 hgz
          replace hM := hM.box hgz kG
          replace hBB := hBB.grown hgz hBB.size (fun k hk => by injection hk with hk; omega)
          clear hgz kG
          refine hK.out _ _ ?_ (fun hHeldbr11b36 => ?_)
          · exact HP5.out _ hBB
          clear hK K hHeldbr6b32
          try simp only [Act.put, List.setIfInBounds_toArray, List.set_cons_zero, List.set_cons_succ]
          refine wpAnyH_ready (rs := [12]) (by kernel_rfl) (by simp) ?_
          refine AllReadyH.cons (o := { dst := some 12, op := Op.assign (Operand.tmp 40), type := 4, pos := "law.go:137", after := _, guard := none }) rfl (fun K hK => ?_) AllReadyH.nil
          go_simp
          skip
          refine hK.out _ _ ?_ (fun hHeldbr12b37 => ?_)
          · exact HP5.out _ hBB
          clear hK K hHeldbr11b36
          try simp only [Act.put, List.setIfInBounds_toArray, List.set_cons_zero, List.set_cons_succ]
          refine wpAnyH_done (by kernel_rfl) ?_ _
          go_wp2_with fail
          go_meet
          exact ⟨g, rfl, rfl, (show Hid _ from ⟨hgl, hBB, vs, hM, kG2⟩)⟩
        exact AllReadyH.nil
      refine AllReadyH.cons (o := { dst := some 36, op := Op.buildSlice 25 1 #[(0, Operand.tmp 35)], type := 25, pos := "law.go:137", after := _, guard := none }) rfl (fun K hK => ?_) ?_
      · (try rw [HWZ.out])
        go_simp
        have hb := Below.alloc (Below.refl wz.heap.size wz) (Nat.le_refl _) (.cells #[.int .i64 who] 3)
        have hU0 := Blk.new wz 3 #[.int .i64 who]
        obtain ⟨gu, hgu⟩ : ∃ g, wz.heap.size = g := ⟨_, rfl⟩
        obtain ⟨wz, hwy⟩ : ∃ z, wz.alloc (.cells #[.int .i64 who] 3) = z := ⟨_, rfl⟩
        rw [hwy] at hb hU0 ⊢
        rw [hgu] at hU0 ⊢
        (try replace hV1 := own_below hV1 hb)
        (try replace hV2 := own_below hV2 hb)
        (try replace hU := hU.below hb)
        (try replace hM := hM.below hb)
        (try replace kG := kG.keep hb)
        replace hBB := hBB.trans (hb.mono hBB.size)
        have hU := slI_one hU0
        clear hb hU0 hgu hwy
        refine hK.out _ _ ?_ (fun hHeldbr4b38 => ?_)
        · exact HP5.out _ hBB
        clear hK K hHeldbr
        try simp only [Act.put, List.setIfInBounds_toArray, List.set_cons_zero, List.set_cons_succ]
        refine wpAnyH_ready (rs := [2, 10]) (by kernel_rfl) (by simp) ?_
        refine AllReadyH.cons (o := { dst := some 34, op := Op.call { callee := Callee.builtin Builtin.append, args := #[Operand.const (Value.slice none 0 0), Operand.tmp 33], argTypes := #[25, 25] }, type := 25, pos := "law.go:137", after := _, guard := none }) rfl (fun K hK => ?_) ?_
        · (try rw [HWZ.out])
          refine step_append_sl rfl (.const (.slice none 0 0)) (.tmp 33) _ rfl w5.heap.size 3 i0 _ 1 8 Try.underlying25 hi0 hz0 hz1 hz2 rfl (by omega) (.slice none 0 0) 0 [] rfl (World.ownsRow_nil _ _ _ _) (.slice kA np kc) np _ rfl (HK5.out _ hBB) HONE.out (by unfold maxLen; omega) (by omega) hBB.size ?_
          rintro v1 wz hV1 hgz -
          have hb := below_grown_none hgz
          simp only [Nat.zero_add, List.nil_append] at hV1
          (try replace hU := hU.below hb)
          (try replace kG := kG.keep hb)
          replace hBB := hBB.trans (hb.mono hBB.size)
          clear hgz hb
          refine hK.out _ _ ?_ (fun hHeldbr2b39 => ?_)
          · exact HP5.out _ hBB
          clear hK K hHeldbr4b38
          try simp only [Act.put, List.setIfInBounds_toArray, List.set_cons_zero, List.set_cons_succ]
          refine wpAnyH_ready (rs := [5, 10]) (by kernel_rfl) (by simp) ?_
          refine AllReadyH.cons (o := { dst := some 37, op := Op.call { callee := Callee.builtin Builtin.append, args := #[Operand.tmp 34, Operand.tmp 36], argTypes := #[25, 25] }, type := 25, pos := "law.go:137", after := _, guard := none }) rfl (fun K hK => ?_) ?_
          · refine step_append_sl rfl (.tmp 34) (.tmp 36) _ rfl w5.heap.size 3 i0 _ 1 8 Try.underlying25 hi0 hz0 hz1 hz2 rfl (by omega) _ np _ rfl hV1 _ 1 _ rfl hU (by simp [Value.oneCell']) (by unfold maxLen; omega) (by omega) hBB.size ?_
            rintro v2 wz hV2 hgz -
            have hb := below_own hV1 hgz (Nat.le_refl _) hBB.size
            (try replace kG := kG.grown hgz (fun e => own_ne hV1 kG (by decide) e.symm))
            replace hBB := hBB.trans hb
            clear hgz hb hU hV1
            refine hK.out _ _ ?_ (fun hHeldbr5b40 => ?_)
            · exact HP5.out _ hBB
            clear hK K hHeldbr2b39
            try simp only [Act.put, List.setIfInBounds_toArray, List.set_cons_zero, List.set_cons_succ]
            refine wpAnyH_ready (rs := [6, 10]) (by kernel_rfl) (by simp) ?_
            refine AllReadyH.cons (o := { dst := some 38, op := Op.call { callee := Callee.value (Operand.func 12), args := #[Operand.tmp 32, Operand.tmp 37], argTypes := #[24, 25] }, type := 35, pos := "law.go:137", after := _, guard := none }) rfl (fun K hK => ?_) ?_
            · go_simp
              refine (HR5.out _ _ hBB (show Sl _ 1 _ (picks ++ [who]).length ((picks ++ [who]).flatMap encI) from by rw [List.length_append, ← HNP.out, List.flatMap_append]; exact Sl.of_own hV2)).mono ?_
              rintro e wz ⟨vs, rfl, hM, hb⟩
              (try replace kG := kG.keep hb)
              replace hBB := hBB.trans (hb.mono hBB.size)
              clear hV2 hb
              try go_wp2_with fail
              refine hK.out _ _ ?_ (fun hHeldbr6b41 => ?_)
              · exact HP5.out _ hBB
              clear hK K hHeldbr5b40
              try simp only [Act.put, List.setIfInBounds_toArray, List.set_cons_zero, List.set_cons_succ]
              refine wpAnyH_take (i := 7) (oi := { dst := some 31, op := Op.move (Operand.tmp 38), type := 35, pos := "law.go:137", after := _, guard := none }) (v := ?vbr7b42) rfl (by kernel_rfl) (by kernel_rfl) (by kernel_rfl) (fun _ _ _ h => h) (Or.inl ⟨by rfl, ?hybr7b42⟩) (by assumption) ?restbr7b42
              case hybr7b42 => (intro w hSw; (try dsimp only at hSw); go_simp <;> with_reducible rfl)
              try simp only [Act.put, List.setIfInBounds_toArray, List.set_cons_zero, List.set_cons_succ]
              refine wpAnyH_take (i := 8) (oi := { dst := some 39, op := Op.extract (Operand.tmp 31) 0, type := 34, pos := "law.go:137", after := _, guard := none }) (v := ?vbr8b43) rfl (by kernel_rfl) (by kernel_rfl) (by kernel_rfl) (fun _ _ _ h => h) (Or.inl ⟨by rfl, ?hybr8b43⟩) (by assumption) ?restbr8b43
              case hybr8b43 => (intro w hSw; (try dsimp only at hSw); go_simp <;> with_reducible rfl)
              try simp only [Act.put, List.setIfInBounds_toArray, List.set_cons_zero, List.set_cons_succ]
              refine wpAnyH_take (i := 9) (oi := { dst := some 40, op := Op.extract (Operand.tmp 31) 1, type := 4, pos := "law.go:137", after := _, guard := none }) (v := ?vbr9b44) rfl (by kernel_rfl) (by kernel_rfl) (by kernel_rfl) (fun _ _ _ h => h) (Or.inl ⟨by rfl, ?hybr9b44⟩) (by assumption) ?restbr9b44
              case hybr9b44 => (intro w hSw; (try dsimp only at hSw); go_simp <;> with_reducible rfl)
              try simp only [Act.put, List.setIfInBounds_toArray, List.set_cons_zero, List.set_cons_succ]
              refine wpAnyH_ready (rs := [10]) (by kernel_rfl) (by simp) ?_
              refine AllReadyH.cons (o := { dst := some 11, op := Op.alloc 34, type := 0, pos := "law.go:137", after := _, guard := none }) rfl (fun K hK => ?_) AllReadyH.nil
              (try rw [HWZ.out])
              go_simp
              have hb := Below.alloc (Below.refl wz.heap.size wz) (Nat.le_refl _) (.cells #[.slice none 0 0, .int .i64 0, .int .i64 0, .slice none 0 0, .slice none 0 0, .slice none 0 0, .int .i64 0] 34)
              have kG := Blk.new wz 34 #[.slice none 0 0, .int .i64 0, .int .i64 0, .slice none 0 0, .slice none 0 0, .slice none 0 0, .int .i64 0]
              have hgl := hBB.size
              obtain ⟨g, hgg⟩ : ∃ g, wz.heap.size = g := ⟨_, rfl⟩
              obtain ⟨wz, hwy⟩ : ∃ z, wz.alloc (.cells #[.slice none 0 0, .int .i64 0, .int .i64 0, .slice none 0 0, .slice none 0 0, .slice none 0 0, .int .i64 0] 34) = z := ⟨_, rfl⟩
              rw [hwy] at hb kG ⊢
              rw [hgg] at kG hgl ⊢
              (try replace hV1 := own_below hV1 hb)
              (try replace hV2 := own_below hV2 hb)
              (try replace hU := hU.below hb)
              (try replace hM := hM.below hb)
              replace hBB := hBB.trans (hb.mono hBB.size)
              clear hb hgg hwy
              refine hK.out _ _ ?_ (fun hHeldbr10b45 => ?_)
              · exact HP5.out _ hBB
              clear hK K hHeldbr6b41
              try simp only [Act.put, List.setIfInBounds_toArray, List.set_cons_zero, List.set_cons_succ]
              refine wpAnyH_ready (rs := [11]) (by kernel_rfl) (by simp) ?_
              refine AllReadyH.cons (o := { dst := none, op := Op.store 34 (Operand.tmp 11) (Operand.tmp 39), type := 0, pos := "law.go:137", after := _, guard := none }) rfl (fun K hK => ?_) AllReadyH.nil
              refine step_store_mem g _ kG rfl vs hM.1 hM.2.1 (.tmp 11) (.tmp 39) (by rfl) rfl rfl rfl ?_
              rintro wz kG2 hgz
              replace hM := hM.box hgz kG
              replace hBB := hBB.grown hgz hBB.size (fun k hk => by injection hk with hk; omega)
              clear hgz kG
              refine hK.out _ _ ?_ (fun hHeldbr11b46 => ?_)
              · exact HP5.out _ hBB
              clear hK K hHeldbr10b45
              try simp only [Act.put, List.setIfInBounds_toArray, List.set_cons_zero, List.set_cons_succ]
              refine wpAnyH_ready (rs := [12]) (by kernel_rfl) (by simp) ?_
              refine AllReadyH.cons (o := { dst := some 12, op := Op.assign (Operand.tmp 40), type := 4, pos := "law.go:137", after := _, guard := none }) rfl (fun K hK => ?_) AllReadyH.nil
              go_simp
              skip
              refine hK.out _ _ ?_ (fun hHeldbr12b47 => ?_)
              · exact HP5.out _ hBB
              clear hK K hHeldbr11b46
              try simp only [Act.put, List.setIfInBounds_toArray, List.set_cons_zero, List.set_cons_succ]
              refine wpAnyH_done (by kernel_rfl) ?_ _
              go_wp2_with fail
              go_meet
              exact ⟨g, rfl, rfl, (show Hid _ from ⟨hgl, hBB, vs, hM, kG2⟩)⟩
            refine AllReadyH.cons (o := { dst := some 11, op := Op.alloc 34, type := 0, pos := "law.go:137", after := _, guard := none }) rfl (fun K hK => ?_) ?_
            · (try rw [HWZ.out])
              go_simp
              have hb := Below.alloc (Below.refl wz.heap.size wz) (Nat.le_refl _) (.cells #[.slice none 0 0, .int .i64 0, .int .i64 0, .slice none 0 0, .slice none 0 0, .slice none 0 0, .int .i64 0] 34)
              have kG := Blk.new wz 34 #[.slice none 0 0, .int .i64 0, .int .i64 0, .slice none 0 0, .slice none 0 0, .slice none 0 0, .int .i64 0]
              have hgl := hBB.size
              obtain ⟨g, hgg⟩ : ∃ g, wz.heap.size = g := ⟨_, rfl⟩
              obtain ⟨wz, hwy⟩ : ∃ z, wz.alloc (.cells #[.slice none 0 0, .int .i64 0, .int .i64 0, .slice none 0 0, .slice none 0 0, .slice none 0 0, .int .i64 0] 34) = z := ⟨_, rfl⟩
              rw [hwy] at hb kG ⊢
              rw [hgg] at kG hgl ⊢
              (try replace hV1 := own_below hV1 hb)
              (try replace hV2 := own_below hV2 hb)
              (try replace hU := hU.below hb)
              (try replace hM := hM.below hb)
              replace hBB := hBB.trans (hb.mono hBB.size)
              clear hb hgg hwy
              refine hK.out _ _ ?_ (fun hHeldbr10b48 => ?_)
              · exact HP5.out _ hBB
              clear hK K hHeldbr5b40
              try simp only [Act.put, List.setIfInBounds_toArray, List.set_cons_zero, List.set_cons_succ]
              refine wpAnyH_ready (rs := [6]) (by kernel_rfl) (by simp) ?_
              refine AllReadyH.cons (o := { dst := some 38, op := Op.call { callee := Callee.value (Operand.func 12), args := #[Operand.tmp 32, Operand.tmp 37], argTypes := #[24, 25] }, type := 35, pos := "law.go:137", after := _, guard := none }) rfl (fun K hK => ?_) AllReadyH.nil
              go_simp
              refine (HR5.out _ _ hBB (show Sl _ 1 _ (picks ++ [who]).length ((picks ++ [who]).flatMap encI) from by rw [List.length_append, ← HNP.out, List.flatMap_append]; exact Sl.of_own hV2)).mono ?_
              rintro e wz ⟨vs, rfl, hM, hb⟩
              (try replace kG := kG.keep hb)
              replace hBB := hBB.trans (hb.mono hBB.size)
              clear hV2 hb
              try go_wp2_with fail
              refine hK.out _ _ ?_ (fun hHeldbr6b49 => ?_)
              · exact HP5.out _ hBB
              clear hK K hHeldbr10b48
              try simp only [Act.put, List.setIfInBounds_toArray, List.set_cons_zero, List.set_cons_succ]
              refine wpAnyH_take (i := 7) (oi := { dst := some 31, op := Op.move (Operand.tmp 38), type := 35, pos := "law.go:137", after := _, guard := none }) (v := ?vbr7b50) rfl (by kernel_rfl) (by kernel_rfl) (by kernel_rfl) (fun _ _ _ h => h) (Or.inl ⟨by rfl, ?hybr7b50⟩) (by assumption) ?restbr7b50
              case hybr7b50 => (intro w hSw; (try dsimp only at hSw); go_simp <;> with_reducible rfl)
              try simp only [Act.put, List.setIfInBounds_toArray, List.set_cons_zero, List.set_cons_succ]
              refine wpAnyH_take (i := 8) (oi := { dst := some 39, op := Op.extract (Operand.tmp 31) 0, type := 34, pos := "law.go:137", after := _, guard := none }) (v := ?vbr8b51) rfl (by kernel_rfl) (by kernel_rfl) (by kernel_rfl) (fun _ _ _ h => h) (Or.inl ⟨by rfl, ?hybr8b51⟩) (by assumption) ?restbr8b51
              case hybr8b51 => (intro w hSw; (try dsimp only at hSw); go_simp <;> with_reducible rfl)
              try simp only [Act.put, List.setIfInBounds_toArray, List.set_cons_zero, List.set_cons_succ]
              refine wpAnyH_take (i := 9) (oi := { dst := some 40, op := Op.extract (Operand.tmp 31) 1, type := 4, pos := "law.go:137", after := _, guard := none }) (v := ?vbr9b52) rfl (by kernel_rfl) (by kernel_rfl) (by kernel_rfl) (fun _ _ _ h => h) (Or.inl ⟨by rfl, ?hybr9b52⟩) (by assumption) ?restbr9b52
              case hybr9b52 => (intro w hSw; (try dsimp only at hSw); go_simp <;> with_reducible rfl)
              try simp only [Act.put, List.setIfInBounds_toArray, List.set_cons_zero, List.set_cons_succ]
              refine wpAnyH_ready (rs := [11]) (by kernel_rfl) (by simp) ?_
              refine AllReadyH.cons (o := { dst := none, op := Op.store 34 (Operand.tmp 11) (Operand.tmp 39), type := 0, pos := "law.go:137", after := _, guard := none }) rfl (fun K hK => ?_) AllReadyH.nil
              refine step_store_mem g _ kG rfl vs hM.1 hM.2.1 (.tmp 11) (.tmp 39) (by rfl) rfl rfl rfl ?_
              rintro wz kG2 hgz
              replace hM := hM.box hgz kG
              replace hBB := hBB.grown hgz hBB.size (fun k hk => by injection hk with hk; omega)
              clear hgz kG
              refine hK.out _ _ ?_ (fun hHeldbr11b53 => ?_)
              · exact HP5.out _ hBB
              clear hK K hHeldbr6b49
              try simp only [Act.put, List.setIfInBounds_toArray, List.set_cons_zero, List.set_cons_succ]
              refine wpAnyH_ready (rs := [12]) (by kernel_rfl) (by simp) ?_
              refine AllReadyH.cons (o := { dst := some 12, op := Op.assign (Operand.tmp 40), type := 4, pos := "law.go:137", after := _, guard := none }) rfl (fun K hK => ?_) AllReadyH.nil
              go_simp
              skip
              refine hK.out _ _ ?_ (fun hHeldbr12b54 => ?_)
              · exact HP5.out _ hBB
              clear hK K hHeldbr11b53
              try simp only [Act.put, List.setIfInBounds_toArray, List.set_cons_zero, List.set_cons_succ]
              refine wpAnyH_done (by kernel_rfl) ?_ _
              go_wp2_with fail
              go_meet
              exact ⟨g, rfl, rfl, (show Hid _ from ⟨hgl, hBB, vs, hM, kG2⟩)⟩
            exact AllReadyH.nil
          refine AllReadyH.cons (o := { dst := some 11, op := Op.alloc 34, type := 0, pos := "law.go:137", after := _, guard := none }) rfl (fun K hK => ?_) ?_
          · (try rw [HWZ.out])
            go_simp
            have hb := Below.alloc (Below.refl wz.heap.size wz) (Nat.le_refl _) (.cells #[.slice none 0 0, .int .i64 0, .int .i64 0, .slice none 0 0, .slice none 0 0, .slice none 0 0, .int .i64 0] 34)
            have kG := Blk.new wz 34 #[.slice none 0 0, .int .i64 0, .int .i64 0, .slice none 0 0, .slice none 0 0, .slice none 0 0, .int .i64 0]
            have hgl := hBB.size
            obtain ⟨g, hgg⟩ : ∃ g, wz.heap.size = g := ⟨_, rfl⟩
            obtain ⟨wz, hwy⟩ : ∃ z, wz.alloc (.cells #[.slice none 0 0, .int .i64 0, .int .i64 0, .slice none 0 0, .slice none 0 0, .slice none 0 0, .int .i64 0] 34) = z := ⟨_, rfl⟩
            rw [hwy] at hb kG ⊢
            rw [hgg] at kG hgl ⊢
            (try replace hV1 := own_below hV1 hb)
            (try replace hV2 := own_below hV2 hb)
            (try replace hU := hU.below hb)
            (try replace hM := hM.below hb)
            replace hBB := hBB.trans (hb.mono hBB.size)
            clear hb hgg hwy
            refine hK.out _ _ ?_ (fun hHeldbr10b55 => ?_)
            · exact HP5.out _ hBB
            clear hK K hHeldbr2b39
            try simp only [Act.put, List.setIfInBounds_toArray, List.set_cons_zero, List.set_cons_succ]
            refine wpAnyH_ready (rs := [5]) (by kernel_rfl) (by simp) ?_
            refine AllReadyH.cons (o := { dst := some 37, op := Op.call { callee := Callee.builtin Builtin.append, args := #[Operand.tmp 34, Operand.tmp 36], argTypes := #[25, 25] }, type := 25, pos := "law.go:137", after := _, guard := none }) rfl (fun K hK => ?_) AllReadyH.nil
            refine step_append_sl rfl (.tmp 34) (.tmp 36) _ rfl w5.heap.size 3 i0 _ 1 8 Try.underlying25 hi0 hz0 hz1 hz2 rfl (by omega) _ np _ rfl hV1 _ 1 _ rfl hU (by simp [Value.oneCell']) (by unfold maxLen; omega) (by omega) hBB.size ?_
            rintro v2 wz hV2 hgz -
            have hb := below_own hV1 hgz (Nat.le_refl _) hBB.size
            (try replace kG := kG.grown hgz (fun e => own_ne hV1 kG (by decide) e.symm))
            replace hBB := hBB.trans hb
            clear hgz hb hU hV1
            refine hK.out _ _ ?_ (fun hHeldbr5b56 => ?_)
            · exact HP5.out _ hBB
            clear hK K hHeldbr10b55
            try simp only [Act.put, List.setIfInBounds_toArray, List.set_cons_zero, List.set_cons_succ]
            refine wpAnyH_ready (rs := [6]) (by kernel_rfl) (by simp) ?_
            refine AllReadyH.cons (o := { dst := some 38, op := Op.call { callee := Callee.value (Operand.func 12), args := #[Operand.tmp 32, Operand.tmp 37], argTypes := #[24, 25] }, type := 35, pos := "law.go:137", after := _, guard := none }) rfl (fun K hK => ?_) AllReadyH.nil
            go_simp
            refine (HR5.out _ _ hBB (show Sl _ 1 _ (picks ++ [who]).length ((picks ++ [who]).flatMap encI) from by rw [List.length_append, ← HNP.out, List.flatMap_append]; exact Sl.of_own hV2)).mono ?_
            rintro e wz ⟨vs, rfl, hM, hb⟩
            (try replace kG := kG.keep hb)
            replace hBB := hBB.trans (hb.mono hBB.size)
            clear hV2 hb
            try go_wp2_with fail
            refine hK.out _ _ ?_ (fun hHeldbr6b57 => ?_)
            · exact HP5.out _ hBB
            clear hK K hHeldbr5b56
            try simp only [Act.put, List.setIfInBounds_toArray, List.set_cons_zero, List.set_cons_succ]
            refine wpAnyH_take (i := 7) (oi := { dst := some 31, op := Op.move (Operand.tmp 38), type := 35, pos := "law.go:137", after := _, guard := none }) (v := ?vbr7b58) rfl (by kernel_rfl) (by kernel_rfl) (by kernel_rfl) (fun _ _ _ h => h) (Or.inl ⟨by rfl, ?hybr7b58⟩) (by assumption) ?restbr7b58
            case hybr7b58 => (intro w hSw; (try dsimp only at hSw); go_simp <;> with_reducible rfl)
            try simp only [Act.put, List.setIfInBounds_toArray, List.set_cons_zero, List.set_cons_succ]
            refine wpAnyH_take (i := 8) (oi := { dst := some 39, op := Op.extract (Operand.tmp 31) 0, type := 34, pos := "law.go:137", after := _, guard := none }) (v := ?vbr8b59) rfl (by kernel_rfl) (by kernel_rfl) (by kernel_rfl) (fun _ _ _ h => h) (Or.inl ⟨by rfl, ?hybr8b59⟩) (by assumption) ?restbr8b59
            case hybr8b59 => (intro w hSw; (try dsimp only at hSw); go_simp <;> with_reducible rfl)
            try simp only [Act.put, List.setIfInBounds_toArray, List.set_cons_zero, List.set_cons_succ]
            refine wpAnyH_take (i := 9) (oi := { dst := some 40, op := Op.extract (Operand.tmp 31) 1, type := 4, pos := "law.go:137", after := _, guard := none }) (v := ?vbr9b60) rfl (by kernel_rfl) (by kernel_rfl) (by kernel_rfl) (fun _ _ _ h => h) (Or.inl ⟨by rfl, ?hybr9b60⟩) (by assumption) ?restbr9b60
            case hybr9b60 => (intro w hSw; (try dsimp only at hSw); go_simp <;> with_reducible rfl)
            try simp only [Act.put, List.setIfInBounds_toArray, List.set_cons_zero, List.set_cons_succ]
            refine wpAnyH_ready (rs := [11]) (by kernel_rfl) (by simp) ?_
            refine AllReadyH.cons (o := { dst := none, op := Op.store 34 (Operand.tmp 11) (Operand.tmp 39), type := 0, pos := "law.go:137", after := _, guard := none }) rfl (fun K hK => ?_) AllReadyH.nil
            refine step_store_mem g _ kG rfl vs hM.1 hM.2.1 (.tmp 11) (.tmp 39) (by rfl) rfl rfl rfl ?_
            rintro wz kG2 hgz
            replace hM := hM.box hgz kG
            replace hBB := hBB.grown hgz hBB.size (fun k hk => by injection hk with hk; omega)
            clear hgz kG
            refine hK.out _ _ ?_ (fun hHeldbr11b61 => ?_)
            · exact HP5.out _ hBB
            clear hK K hHeldbr6b57
            try simp only [Act.put, List.setIfInBounds_toArray, List.set_cons_zero, List.set_cons_succ]
            refine wpAnyH_ready (rs := [12]) (by kernel_rfl) (by simp) ?_
            refine AllReadyH.cons (o := { dst := some 12, op := Op.assign (Operand.tmp 40), type := 4, pos := "law.go:137", after := _, guard := none }) rfl (fun K hK => ?_) AllReadyH.nil
            go_simp
            skip
            refine hK.out _ _ ?_ (fun hHeldbr12b62 => ?_)
            · exact HP5.out _ hBB
            clear hK K hHeldbr11b61
            try simp only [Act.put, List.setIfInBounds_toArray, List.set_cons_zero, List.set_cons_succ]
            refine wpAnyH_done (by kernel_rfl) ?_ _
            go_wp2_with fail
            go_meet
            exact ⟨g, rfl, rfl, (show Hid _ from ⟨hgl, hBB, vs, hM, kG2⟩)⟩
          exact AllReadyH.nil
        refine AllReadyH.cons (o := { dst := some 11, op := Op.alloc 34, type := 0, pos := "law.go:137", after := _, guard := none }) rfl (fun K hK => ?_) ?_
        · (try rw [HWZ.out])
          go_simp
          have hb := Below.alloc (Below.refl wz.heap.size wz) (Nat.le_refl _) (.cells #[.slice none 0 0, .int .i64 0, .int .i64 0, .slice none 0 0, .slice none 0 0, .slice none 0 0, .int .i64 0] 34)
          have kG := Blk.new wz 34 #[.slice none 0 0, .int .i64 0, .int .i64 0, .slice none 0 0, .slice none 0 0, .slice none 0 0, .int .i64 0]
          have hgl := hBB.size
          obtain ⟨g, hgg⟩ : ∃ g, wz.heap.size = g := ⟨_, rfl⟩
          obtain ⟨wz, hwy⟩ : ∃ z, wz.alloc (.cells #[.slice none 0 0, .int .i64 0, .int .i64 0, .slice none 0 0, .slice none 0 0, .slice none 0 0, .int .i64 0] 34) = z := ⟨_, rfl⟩
          rw [hwy] at hb kG ⊢
          rw [hgg] at kG hgl ⊢
          (try replace hV1 := own_below hV1 hb)
          (try replace hV2 := own_below hV2 hb)
          (try replace hU := hU.below hb)
          (try replace hM := hM.below hb)
          replace hBB := hBB.trans (hb.mono hBB.size)
          clear hb hgg hwy
          refine hK.out _ _ ?_ (fun hHeldbr10b63 => ?_)
          · exact HP5.out _ hBB
          clear hK K hHeldbr4b38
          try simp only [Act.put, List.setIfInBounds_toArray, List.set_cons_zero, List.set_cons_succ]
          refine wpAnyH_ready (rs := [2]) (by kernel_rfl) (by simp) ?_
          refine AllReadyH.cons (o := { dst := some 34, op := Op.call { callee := Callee.builtin Builtin.append, args := #[Operand.const (Value.slice none 0 0), Operand.tmp 33], argTypes := #[25, 25] }, type := 25, pos := "law.go:137", after := _, guard := none }) rfl (fun K hK => ?_) AllReadyH.nil
          (try rw [HWZ.out])
          refine step_append_sl rfl (.const (.slice none 0 0)) (.tmp 33) _ rfl w5.heap.size 3 i0 _ 1 8 Try.underlying25 hi0 hz0 hz1 hz2 rfl (by omega) (.slice none 0 0) 0 [] rfl (World.ownsRow_nil _ _ _ _) (.slice kA np kc) np _ rfl (HK5.out _ hBB) HONE.out (by unfold maxLen; omega) (by omega) hBB.size ?_
          rintro v1 wz hV1 hgz -
          have hb := below_grown_none hgz
          simp only [Nat.zero_add, List.nil_append] at hV1
          (try replace hU := hU.below hb)
          (try replace kG := kG.keep hb)
          replace hBB := hBB.trans (hb.mono hBB.size)
          clear hgz hb
          refine hK.out _ _ ?_ (fun hHeldbr2b64 => ?_)
          · exact HP5.out _ hBB
          clear hK K hHeldbr10b63
          try simp only [Act.put, List.setIfInBounds_toArray, List.set_cons_zero, List.set_cons_succ]
          refine wpAnyH_ready (rs := [5]) (by kernel_rfl) (by simp) ?_
          refine AllReadyH.cons (o := { dst := some 37, op := Op.call { callee := Callee.builtin Builtin.append, args := #[Operand.tmp 34, Operand.tmp 36], argTypes := #[25, 25] }, type := 25, pos := "law.go:137", after := _, guard := none }) rfl (fun K hK => ?_) AllReadyH.nil
          refine step_append_sl rfl (.tmp 34) (.tmp 36) _ rfl w5.heap.size 3 i0 _ 1 8 Try.underlying25 hi0 hz0 hz1 hz2 rfl (by omega) _ np _ rfl hV1 _ 1 _ rfl hU (by simp [Value.oneCell']) (by unfold maxLen; omega) (by omega) hBB.size ?_
          rintro v2 wz hV2 hgz -
          have hb := below_own hV1 hgz (Nat.le_refl _) hBB.size
          (try replace kG := kG.grown hgz (fun e => own_ne hV1 kG (by decide) e.symm))
          replace hBB := hBB.trans hb
          clear hgz hb hU hV1
          refine hK.out _ _ ?_ (fun hHeldbr5b65 => ?_)
          · exact HP5.out _ hBB
          clear hK K hHeldbr2b64
          try simp only [Act.put, List.setIfInBounds_toArray, List.set_cons_zero, List.set_cons_succ]
          refine wpAnyH_ready (rs := [6]) (by kernel_rfl) (by simp) ?_
          refine AllReadyH.cons (o := { dst := some 38, op := Op.call { callee := Callee.value (Operand.func 12), args := #[Operand.tmp 32, Operand.tmp 37], argTypes := #[24, 25] }, type := 35, pos := "law.go:137", after := _, guard := none }) rfl (fun K hK => ?_) AllReadyH.nil
          go_simp
          refine (HR5.out _ _ hBB (show Sl _ 1 _ (picks ++ [who]).length ((picks ++ [who]).flatMap encI) from by rw [List.length_append, ← HNP.out, List.flatMap_append]; exact Sl.of_own hV2)).mono ?_
          rintro e wz ⟨vs, rfl, hM, hb⟩
          (try replace kG := kG.keep hb)
          replace hBB := hBB.trans (hb.mono hBB.size)
          clear hV2 hb
          try go_wp2_with fail
          refine hK.out _ _ ?_ (fun hHeldbr6b66 => ?_)
          · exact HP5.out _ hBB
          clear hK K hHeldbr5b65
          try simp only [Act.put, List.setIfInBounds_toArray, List.set_cons_zero, List.set_cons_succ]
          refine wpAnyH_take (i := 7) (oi := { dst := some 31, op := Op.move (Operand.tmp 38), type := 35, pos := "law.go:137", after := _, guard := none }) (v := ?vbr7b67) rfl (by kernel_rfl) (by kernel_rfl) (by kernel_rfl) (fun _ _ _ h => h) (Or.inl ⟨by rfl, ?hybr7b67⟩) (by assumption) ?restbr7b67
          case hybr7b67 => (intro w hSw; (try dsimp only at hSw); go_simp <;> with_reducible rfl)
          try simp only [Act.put, List.setIfInBounds_toArray, List.set_cons_zero, List.set_cons_succ]
          refine wpAnyH_take (i := 8) (oi := { dst := some 39, op := Op.extract (Operand.tmp 31) 0, type := 34, pos := "law.go:137", after := _, guard := none }) (v := ?vbr8b68) rfl (by kernel_rfl) (by kernel_rfl) (by kernel_rfl) (fun _ _ _ h => h) (Or.inl ⟨by rfl, ?hybr8b68⟩) (by assumption) ?restbr8b68
          case hybr8b68 => (intro w hSw; (try dsimp only at hSw); go_simp <;> with_reducible rfl)
          try simp only [Act.put, List.setIfInBounds_toArray, List.set_cons_zero, List.set_cons_succ]
          refine wpAnyH_take (i := 9) (oi := { dst := some 40, op := Op.extract (Operand.tmp 31) 1, type := 4, pos := "law.go:137", after := _, guard := none }) (v := ?vbr9b69) rfl (by kernel_rfl) (by kernel_rfl) (by kernel_rfl) (fun _ _ _ h => h) (Or.inl ⟨by rfl, ?hybr9b69⟩) (by assumption) ?restbr9b69
          case hybr9b69 => (intro w hSw; (try dsimp only at hSw); go_simp <;> with_reducible rfl)
          try simp only [Act.put, List.setIfInBounds_toArray, List.set_cons_zero, List.set_cons_succ]
          refine wpAnyH_ready (rs := [11]) (by kernel_rfl) (by simp) ?_
          refine AllReadyH.cons (o := { dst := none, op := Op.store 34 (Operand.tmp 11) (Operand.tmp 39), type := 0, pos := "law.go:137", after := _, guard := none }) rfl (fun K hK => ?_) AllReadyH.nil
          refine step_store_mem g _ kG rfl vs hM.1 hM.2.1 (.tmp 11) (.tmp 39) (by rfl) rfl rfl rfl ?_
          rintro wz kG2 hgz
          replace hM := hM.box hgz kG
          replace hBB := hBB.grown hgz hBB.size (fun k hk => by injection hk with hk; omega)
          clear hgz kG
          refine hK.out _ _ ?_ (fun hHeldbr11b70 => ?_)
          · exact HP5.out _ hBB
          clear hK K hHeldbr6b66
          try simp only [Act.put, List.setIfInBounds_toArray, List.set_cons_zero, List.set_cons_succ]
          refine wpAnyH_ready (rs := [12]) (by kernel_rfl) (by simp) ?_
          refine AllReadyH.cons (o := { dst := some 12, op := Op.assign (Operand.tmp 40), type := 4, pos := "law.go:137", after := _, guard := none }) rfl (fun K hK => ?_) AllReadyH.nil
          go_simp
          skip
          refine hK.out _ _ ?_ (fun hHeldbr12b71 => ?_)
          · exact HP5.out _ hBB
          clear hK K hHeldbr11b70
          try simp only [Act.put, List.setIfInBounds_toArray, List.set_cons_zero, List.set_cons_succ]
          refine wpAnyH_done (by kernel_rfl) ?_ _
          go_wp2_with fail
          go_meet
          exact ⟨g, rfl, rfl, (show Hid _ from ⟨hgl, hBB, vs, hM, kG2⟩)⟩
        exact AllReadyH.nil
      refine AllReadyH.cons (o := { dst := some 11, op := Op.alloc 34, type := 0, pos := "law.go:137", after := _, guard := none }) rfl (fun K hK => ?_) ?_
      · (try rw [HWZ.out])
        go_simp
        have hb := Below.alloc (Below.refl wz.heap.size wz) (Nat.le_refl _) (.cells #[.slice none 0 0, .int .i64 0, .int .i64 0, .slice none 0 0, .slice none 0 0, .slice none 0 0, .int .i64 0] 34)
        have kG := Blk.new wz 34 #[.slice none 0 0, .int .i64 0, .int .i64 0, .slice none 0 0, .slice none 0 0, .slice none 0 0, .int .i64 0]
        have hgl := hBB.size
        obtain ⟨g, hgg⟩ : ∃ g, wz.heap.size = g := ⟨_, rfl⟩
        obtain ⟨wz, hwy⟩ : ∃ z, wz.alloc (.cells #[.slice none 0 0, .int .i64 0, .int .i64 0, .slice none 0 0, .slice none 0 0, .slice none 0 0, .int .i64 0] 34) = z := ⟨_, rfl⟩
        rw [hwy] at hb kG ⊢
        rw [hgg] at kG hgl ⊢
        (try replace hV1 := own_below hV1 hb)
        (try replace hV2 := own_below hV2 hb)
        (try replace hU := hU.below hb)
        (try replace hM := hM.below hb)
        replace hBB := hBB.trans (hb.mono hBB.size)
        clear hb hgg hwy
        refine hK.out _ _ ?_ (fun hHeldbr10b72 => ?_)
        · exact HP5.out _ hBB
        clear hK K hHeldbr
        try simp only [Act.put, List.setIfInBounds_toArray, List.set_cons_zero, List.set_cons_succ]
        refine wpAnyH_ready (rs := [2, 4]) (by kernel_rfl) (by simp) ?_
        refine AllReadyH.cons (o := { dst := some 34, op := Op.call { callee := Callee.builtin Builtin.append, args := #[Operand.const (Value.slice none 0 0), Operand.tmp 33], argTypes := #[25, 25] }, type := 25, pos := "law.go:137", after := _, guard := none }) rfl (fun K hK => ?_) ?_
        · (try rw [HWZ.out])
          refine step_append_sl rfl (.const (.slice none 0 0)) (.tmp 33) _ rfl w5.heap.size 3 i0 _ 1 8 Try.underlying25 hi0 hz0 hz1 hz2 rfl (by omega) (.slice none 0 0) 0 [] rfl (World.ownsRow_nil _ _ _ _) (.slice kA np kc) np _ rfl (HK5.out _ hBB) HONE.out (by unfold maxLen; omega) (by omega) hBB.size ?_
          rintro v1 wz hV1 hgz -
          have hb := below_grown_none hgz
          simp only [Nat.zero_add, List.nil_append] at hV1
          (try replace hU := hU.below hb)
          (try replace kG := kG.keep hb)
          replace hBB := hBB.trans (hb.mono hBB.size)
          clear hgz hb
          refine hK.out _ _ ?_ (fun hHeldbr2b73 => ?_)
          · exact HP5.out _ hBB
          clear hK K hHeldbr10b72
          try simp only [Act.put, List.setIfInBounds_toArray, List.set_cons_zero, List.set_cons_succ]
          refine wpAnyH_ready (rs := [4]) (by kernel_rfl) (by simp) ?_
          refine AllReadyH.cons (o := { dst := some 36, op := Op.buildSlice 25 1 #[(0, Operand.tmp 35)], type := 25, pos := "law.go:137", after := _, guard := none }) rfl (fun K hK => ?_) AllReadyH.nil
          (try rw [HWZ.out])
          go_simp
          have hb := Below.alloc (Below.refl wz.heap.size wz) (Nat.le_refl _) (.cells #[.int .i64 who] 3)
          have hU0 := Blk.new wz 3 #[.int .i64 who]
          obtain ⟨gu, hgu⟩ : ∃ g, wz.heap.size = g := ⟨_, rfl⟩
          obtain ⟨wz, hwy⟩ : ∃ z, wz.alloc (.cells #[.int .i64 who] 3) = z := ⟨_, rfl⟩
          rw [hwy] at hb hU0 ⊢
          rw [hgu] at hU0 ⊢
          (try replace hV1 := own_below hV1 hb)
          (try replace hV2 := own_below hV2 hb)
          (try replace hU := hU.below hb)
          (try replace hM := hM.below hb)
          (try replace kG := kG.keep hb)
          replace hBB := hBB.trans (hb.mono hBB.size)
          have hU := slI_one hU0
          clear hb hU0 hgu hwy
          refine hK.out _ _ ?_ (fun hHeldbr4b74 => ?_)
          · exact HP5.out _ hBB
          clear hK K hHeldbr2b73
          try simp only [Act.put, List.setIfInBounds_toArray, List.set_cons_zero, List.set_cons_succ]
          refine wpAnyH_ready (rs := [5]) (by kernel_rfl) (by simp) ?_
          refine AllReadyH.cons (o := { dst := some 37, op := Op.call { callee := Callee.builtin Builtin.append, args := #[Operand.tmp 34, Operand.tmp 36], argTypes := #[25, 25] }, type := 25, pos := "law.go:137", after := _, guard := none }) rfl (fun K hK => ?_) AllReadyH.nil
          refine step_append_sl rfl (.tmp 34) (.tmp 36) _ rfl w5.heap.size 3 i0 _ 1 8 Try.underlying25 hi0 hz0 hz1 hz2 rfl (by omega) _ np _ rfl hV1 _ 1 _ rfl hU (by simp [Value.oneCell']) (by unfold maxLen; omega) (by omega) hBB.size ?_
          rintro v2 wz hV2 hgz -
          have hb := below_own hV1 hgz (Nat.le_refl _) hBB.size
          (try replace kG := kG.grown hgz (fun e => own_ne hV1 kG (by decide) e.symm))
          replace hBB := hBB.trans hb
          clear hgz hb hU hV1
          refine hK.out _ _ ?_ (fun hHeldbr5b75 => ?_)
          · exact HP5.out _ hBB
          clear hK K hHeldbr4b74
          try simp only [Act.put, List.setIfInBounds_toArray, List.set_cons_zero, List.set_cons_succ]
          refine wpAnyH_ready (rs := [6]) (by kernel_rfl) (by simp) ?_
          refine AllReadyH.cons (o := { dst := some 38, op := Op.call { callee := Callee.value (Operand.func 12), args := #[Operand.tmp 32, Operand.tmp 37], argTypes := #[24, 25] }, type := 35, pos := "law.go:137", after := _, guard := none }) rfl (fun K hK => ?_) AllReadyH.nil
          go_simp
          refine (HR5.out _ _ hBB (show Sl _ 1 _ (picks ++ [who]).length ((picks ++ [who]).flatMap encI) from by rw [List.length_append, ← HNP.out, List.flatMap_append]; exact Sl.of_own hV2)).mono ?_
          rintro e wz ⟨vs, rfl, hM, hb⟩
          (try replace kG := kG.keep hb)
          replace hBB := hBB.trans (hb.mono hBB.size)
          clear hV2 hb
          try go_wp2_with fail
          refine hK.out _ _ ?_ (fun hHeldbr6b76 => ?_)
          · exact HP5.out _ hBB
          clear hK K hHeldbr5b75
          try simp only [Act.put, List.setIfInBounds_toArray, List.set_cons_zero, List.set_cons_succ]
          refine wpAnyH_take (i := 7) (oi := { dst := some 31, op := Op.move (Operand.tmp 38), type := 35, pos := "law.go:137", after := _, guard := none }) (v := ?vbr7b77) rfl (by kernel_rfl) (by kernel_rfl) (by kernel_rfl) (fun _ _ _ h => h) (Or.inl ⟨by rfl, ?hybr7b77⟩) (by assumption) ?restbr7b77
          case hybr7b77 => (intro w hSw; (try dsimp only at hSw); go_simp <;> with_reducible rfl)
          try simp only [Act.put, List.setIfInBounds_toArray, List.set_cons_zero, List.set_cons_succ]
          refine wpAnyH_take (i := 8) (oi := { dst := some 39, op := Op.extract (Operand.tmp 31) 0, type := 34, pos := "law.go:137", after := _, guard := none }) (v := ?vbr8b78) rfl (by kernel_rfl) (by kernel_rfl) (by kernel_rfl) (fun _ _ _ h => h) (Or.inl ⟨by rfl, ?hybr8b78⟩) (by assumption) ?restbr8b78
          case hybr8b78 => (intro w hSw; (try dsimp only at hSw); go_simp <;> with_reducible rfl)
          try simp only [Act.put, List.setIfInBounds_toArray, List.set_cons_zero, List.set_cons_succ]
          refine wpAnyH_take (i := 9) (oi := { dst := some 40, op := Op.extract (Operand.tmp 31) 1, type := 4, pos := "law.go:137", after := _, guard := none }) (v := ?vbr9b79) rfl (by kernel_rfl) (by kernel_rfl) (by kernel_rfl) (fun _ _ _ h => h) (Or.inl ⟨by rfl, ?hybr9b79⟩) (by assumption) ?restbr9b79
          case hybr9b79 => (intro w hSw; (try dsimp only at hSw); go_simp <;> with_reducible rfl)
          try simp only [Act.put, List.setIfInBounds_toArray, List.set_cons_zero, List.set_cons_succ]
          refine wpAnyH_ready (rs := [11]) (by kernel_rfl) (by simp) ?_
          refine AllReadyH.cons (o := { dst := none, op := Op.store 34 (Operand.tmp 11) (Operand.tmp 39), type := 0, pos := "law.go:137", after := _, guard := none }) rfl (fun K hK => ?_) AllReadyH.nil
          refine step_store_mem g _ kG rfl vs hM.1 hM.2.1 (.tmp 11) (.tmp 39) (by rfl) rfl rfl rfl ?_
          rintro wz kG2 hgz
          replace hM := hM.box hgz kG
          replace hBB := hBB.grown hgz hBB.size (fun k hk => by injection hk with hk; omega)
          clear hgz kG
          refine hK.out _ _ ?_ (fun hHeldbr11b80 => ?_)
          · exact HP5.out _ hBB
          clear hK K hHeldbr6b76
          try simp only [Act.put, List.setIfInBounds_toArray, List.set_cons_zero, List.set_cons_succ]
          refine wpAnyH_ready (rs := [12]) (by kernel_rfl) (by simp) ?_
          refine AllReadyH.cons (o := { dst := some 12, op := Op.assign (Operand.tmp 40), type := 4, pos := "law.go:137", after := _, guard := none }) rfl (fun K hK => ?_) AllReadyH.nil
          go_simp
          skip
          refine hK.out _ _ ?_ (fun hHeldbr12b81 => ?_)
          · exact HP5.out _ hBB
          clear hK K hHeldbr11b80
          try simp only [Act.put, List.setIfInBounds_toArray, List.set_cons_zero, List.set_cons_succ]
          refine wpAnyH_done (by kernel_rfl) ?_ _
          go_wp2_with fail
          go_meet
          exact ⟨g, rfl, rfl, (show Hid _ from ⟨hgl, hBB, vs, hM, kG2⟩)⟩
        refine AllReadyH.cons (o := { dst := some 36, op := Op.buildSlice 25 1 #[(0, Operand.tmp 35)], type := 25, pos := "law.go:137", after := _, guard := none }) rfl (fun K hK => ?_) ?_
        · (try rw [HWZ.out])
          go_simp
          have hb := Below.alloc (Below.refl wz.heap.size wz) (Nat.le_refl _) (.cells #[.int .i64 who] 3)
          have hU0 := Blk.new wz 3 #[.int .i64 who]
          obtain ⟨gu, hgu⟩ : ∃ g, wz.heap.size = g := ⟨_, rfl⟩
          obtain ⟨wz, hwy⟩ : ∃ z, wz.alloc (.cells #[.int .i64 who] 3) = z := ⟨_, rfl⟩
          rw [hwy] at hb hU0 ⊢
          rw [hgu] at hU0 ⊢
          (try replace hV1 := own_below hV1 hb)
          (try replace hV2 := own_below hV2 hb)
          (try replace hU := hU.below hb)
          (try replace hM := hM.below hb)
          (try replace kG := kG.keep hb)
          replace hBB := hBB.trans (hb.mono hBB.size)
          have hU := slI_one hU0
          clear hb hU0 hgu hwy
          refine hK.out _ _ ?_ (fun hHeldbr4b82 => ?_)
          · exact HP5.out _ hBB
          clear hK K hHeldbr10b72
          try simp only [Act.put, List.setIfInBounds_toArray, List.set_cons_zero, List.set_cons_succ]
          refine wpAnyH_ready (rs := [2]) (by kernel_rfl) (by simp) ?_
          refine AllReadyH.cons (o := { dst := some 34, op := Op.call { callee := Callee.builtin Builtin.append, args := #[Operand.const (Value.slice none 0 0), Operand.tmp 33], argTypes := #[25, 25] }, type := 25, pos := "law.go:137", after := _, guard := none }) rfl (fun K hK => ?_) AllReadyH.nil
          (try rw [HWZ.out])
          refine step_append_sl rfl (.const (.slice none 0 0)) (.tmp 33) _ rfl w5.heap.size 3 i0 _ 1 8 Try.underlying25 hi0 hz0 hz1 hz2 rfl (by omega) (.slice none 0 0) 0 [] rfl (World.ownsRow_nil _ _ _ _) (.slice kA np kc) np _ rfl (HK5.out _ hBB) HONE.out (by unfold maxLen; omega) (by omega) hBB.size ?_
          rintro v1 wz hV1 hgz -
          have hb := below_grown_none hgz
          simp only [Nat.zero_add, List.nil_append] at hV1
          (try replace hU := hU.below hb)
          (try replace kG := kG.keep hb)
          replace hBB := hBB.trans (hb.mono hBB.size)
          clear hgz hb
          refine hK.out _ _ ?_ (fun hHeldbr2b83 => ?_)
          · exact HP5.out _ hBB
          clear hK K hHeldbr4b82
          try simp only [Act.put, List.setIfInBounds_toArray, List.set_cons_zero, List.set_cons_succ]
          refine wpAnyH_ready (rs := [5]) (by kernel_rfl) (by simp) ?_
          refine AllReadyH.cons (o := { dst := some 37, op := Op.call { callee := Callee.builtin Builtin.append, args := #[Operand.tmp 34, Operand.tmp 36], argTypes := #[25, 25] }, type := 25, pos := "law.go:137", after := _, guard := none }) rfl (fun K hK => ?_) AllReadyH.nil
          refine step_append_sl rfl (.tmp 34) (.tmp 36) _ rfl w5.heap.size 3 i0 _ 1 8 Try.underlying25 hi0 hz0 hz1 hz2 rfl (by omega) _ np _ rfl hV1 _ 1 _ rfl hU (by simp [Value.oneCell']) (by unfold maxLen; omega) (by omega) hBB.size ?_
          rintro v2 wz hV2 hgz -
          have hb := below_own hV1 hgz (Nat.le_refl _) hBB.size
          (try replace kG := kG.grown hgz (fun e => own_ne hV1 kG (by decide) e.symm))
          replace hBB := hBB.trans hb
          clear hgz hb hU hV1
          refine hK.out _ _ ?_ (fun hHeldbr5b84 => ?_)
          · exact HP5.out _ hBB
          clear hK K hHeldbr2b83
          try simp only [Act.put, List.setIfInBounds_toArray, List.set_cons_zero, List.set_cons_succ]
          refine wpAnyH_ready (rs := [6]) (by kernel_rfl) (by simp) ?_
          refine AllReadyH.cons (o := { dst := some 38, op := Op.call { callee := Callee.value (Operand.func 12), args := #[Operand.tmp 32, Operand.tmp 37], argTypes := #[24, 25] }, type := 35, pos := "law.go:137", after := _, guard := none }) rfl (fun K hK => ?_) AllReadyH.nil
          go_simp
          refine (HR5.out _ _ hBB (show Sl _ 1 _ (picks ++ [who]).length ((picks ++ [who]).flatMap encI) from by rw [List.length_append, ← HNP.out, List.flatMap_append]; exact Sl.of_own hV2)).mono ?_
          rintro e wz ⟨vs, rfl, hM, hb⟩
          (try replace kG := kG.keep hb)
          replace hBB := hBB.trans (hb.mono hBB.size)
          clear hV2 hb
          try go_wp2_with fail
          refine hK.out _ _ ?_ (fun hHeldbr6b85 => ?_)
          · exact HP5.out _ hBB
          clear hK K hHeldbr5b84
          try simp only [Act.put, List.setIfInBounds_toArray, List.set_cons_zero, List.set_cons_succ]
          refine wpAnyH_take (i := 7) (oi := { dst := some 31, op := Op.move (Operand.tmp 38), type := 35, pos := "law.go:137", after := _, guard := none }) (v := ?vbr7b86) rfl (by kernel_rfl) (by kernel_rfl) (by kernel_rfl) (fun _ _ _ h => h) (Or.inl ⟨by rfl, ?hybr7b86⟩) (by assumption) ?restbr7b86
          case hybr7b86 => (intro w hSw; (try dsimp only at hSw); go_simp <;> with_reducible rfl)
          try simp only [Act.put, List.setIfInBounds_toArray, List.set_cons_zero, List.set_cons_succ]
          refine wpAnyH_take (i := 8) (oi := { dst := some 39, op := Op.extract (Operand.tmp 31) 0, type := 34, pos := "law.go:137", after := _, guard := none }) (v := ?vbr8b87) rfl (by kernel_rfl) (by kernel_rfl) (by kernel_rfl) (fun _ _ _ h => h) (Or.inl ⟨by rfl, ?hybr8b87⟩) (by assumption) ?restbr8b87
          case hybr8b87 => (intro w hSw; (try dsimp only at hSw); go_simp <;> with_reducible rfl)
          try simp only [Act.put, List.setIfInBounds_toArray, List.set_cons_zero, List.set_cons_succ]
          refine wpAnyH_take (i := 9) (oi := { dst := some 40, op := Op.extract (Operand.tmp 31) 1, type := 4, pos := "law.go:137", after := _, guard := none }) (v := ?vbr9b88) rfl (by kernel_rfl) (by kernel_rfl) (by kernel_rfl) (fun _ _ _ h => h) (Or.inl ⟨by rfl, ?hybr9b88⟩) (by assumption) ?restbr9b88
          case hybr9b88 => (intro w hSw; (try dsimp only at hSw); go_simp <;> with_reducible rfl)
          try simp only [Act.put, List.setIfInBounds_toArray, List.set_cons_zero, List.set_cons_succ]
          refine wpAnyH_ready (rs := [11]) (by kernel_rfl) (by simp) ?_
          refine AllReadyH.cons (o := { dst := none, op := Op.store 34 (Operand.tmp 11) (Operand.tmp 39), type := 0, pos := "law.go:137", after := _, guard := none }) rfl (fun K hK => ?_) AllReadyH.nil
          refine step_store_mem g _ kG rfl vs hM.1 hM.2.1 (.tmp 11) (.tmp 39) (by rfl) rfl rfl rfl ?_
          rintro wz kG2 hgz
          replace hM := hM.box hgz kG
          replace hBB := hBB.grown hgz hBB.size (fun k hk => by injection hk with hk; omega)
          clear hgz kG
          refine hK.out _ _ ?_ (fun hHeldbr11b89 => ?_)
          · exact HP5.out _ hBB
          clear hK K hHeldbr6b85
          try simp only [Act.put, List.setIfInBounds_toArray, List.set_cons_zero, List.set_cons_succ]
          refine wpAnyH_ready (rs := [12]) (by kernel_rfl) (by simp) ?_
          refine AllReadyH.cons (o := { dst := some 12, op := Op.assign (Operand.tmp 40), type := 4, pos := "law.go:137", after := _, guard := none }) rfl (fun K hK => ?_) AllReadyH.nil
          go_simp
          skip
          refine hK.out _ _ ?_ (fun hHeldbr12b90 => ?_)
          · exact HP5.out _ hBB
          clear hK K hHeldbr11b89
          try simp only [Act.put, List.setIfInBounds_toArray, List.set_cons_zero, List.set_cons_succ]
          refine wpAnyH_done (by kernel_rfl) ?_ _
          go_wp2_with fail
          go_meet
          exact ⟨g, rfl, rfl, (show Hid _ from ⟨hgl, hBB, vs, hM, kG2⟩)⟩
        exact AllReadyH.nil
      exact AllReadyH.nil
    case rest =>
      obtain ⟨g, rfl, rfl, HC⟩ := hcut
      go_wp2_with fail
      go_ret
      exact ⟨rfl, HB1.out.trans ((HB5.out.trans (HC.out.2.1.mono HB5.out.size)).mono HB1.out.size)⟩
  | true =>
  obtain ⟨wn, hwn, hPO⟩ := planOk_of hmay
  have HPO := Lib.hid hPO
  have HWN := Lib.hid hwn
  have HMAY := Lib.hid hmay
  clear hwn hPO hmay
  go_wp2_with fail
  refine (HRY.out wn HWN.out HMAY.out (.slice kA np kc) picks (by have := HFW.out.2; have := HNP.out; omega) _ HB3.out (by have := HKV.out _ HB3.out; rw [← HNP.out] at this ⊢; exact this)).mono ?_
  rintro e w4 ⟨a, m, rfl, hm, her, hb4⟩
  have HB4 := Lib.hid (HB3.out.trans (hb4.mono HB3.out.size))
  have HER := Lib.hid her
  have HRG := Lib.hid (good_run HPO.out picks)
  have HGO := Lib.hid (show Good wn pl m from good_er (by rw [her]; exact good_er2 HRG.out.1))
  have HTM := Lib.hid (show m.time = (picks.length : Int) from by have e1 : m.er.time = m.time := rfl; have e2 : (runM wn mx pl picks).er.time = (runM wn mx pl picks).time := rfl; rw [← e1, her, e2]; exact HRG.out.2)
  clear p0 p1 p2 hb4 her
  have kM := Blk.new_ w4 34 (memCells a m).toArray _ rfl
  obtain ⟨w5, hw5⟩ : ∃ z, w4.alloc (.cells (memCells a m).toArray 34) = z := ⟨_, rfl⟩
  have HM := Lib.hid (hm.below (show Below w4.heap.size w4 w5 from hw5 ▸ (Below.refl _ _).alloc (Nat.le_refl _) _))
  have HB5 := Lib.hid (show Below w1.heap.size w1 w5 from hw5 ▸ HB4.out.alloc HB4.out.size _)
  rw [hw5] at kM
  have HKM := Lib.hid kM
  have HG := Lib.hid (fun W (hb : Below w5.heap.size w5 W) => (show W.cell? ⟨w4.heap.size, 0, none⟩ = some (.slice (some ⟨a.gW, 0, none⟩) m.W.length a.cW) ∧ W.cell? ⟨w4.heap.size, 1, none⟩ = some (.int .i64 m.now) ∧ W.cell? ⟨w4.heap.size, 2, none⟩ = some (.int .i64 m.mx) ∧ W.cell? ⟨w4.heap.size, 3, none⟩ = some (.slice a.lA m.L.length a.lc) ∧ W.cell? ⟨w4.heap.size, 4, none⟩ = some (.slice (some ⟨a.gT, 0, none⟩) m.T.length a.cT) ∧ W.cell? ⟨w4.heap.size, 5, none⟩ = some (.slice a.hA m.H.length a.hc) ∧ W.cell? ⟨w4.heap.size, 6, none⟩ = some (.int .i64 m.time) from
    ⟨by rw [(kM.keep hb).cell]; rfl, by rw [(kM.keep hb).cell]; rfl, by rw [(kM.keep hb).cell]; rfl, by rw [(kM.keep hb).cell]; rfl, by rw [(kM.keep hb).cell]; rfl, by rw [(kM.keep hb).cell]; rfl, by rw [(kM.keep hb).cell]; rfl⟩))
  have HW5 := Lib.hid hw5
  clear hm kM hw5
  simp only [memCells] at HW5 ⊢
  rw [HMAY.out] at HRP
  have hTn : m.T.length = n := by rw [HGO.out.T, HN.out]
  have HTN := Lib.hid hTn
  have HSM := Lib.hid (fun b m2 W (hn : MemV W b m2) (hb : Below w5.heap.size w5 W) => Same_any b a m2 m W hn (HM.out.below hb))
  have HID := Lib.hid (fun W (hb : Below w5.heap.size w5 W) => Idle_any words mx pl _ a m who W (HPV.out W (HB5.out.trans (hb.mono HB5.out.size))) (HM.out.below hb) HGO.out.T)
  simp only [planV, memCells] at HID
  rw [← HN.out] at HID
  rw [hTn] at HG HW5 HID ⊢
  clear hTn
  have HP5 := Lib.hid (fun W (hb : Below w5.heap.size w5 W) => HP.out W (HB5.out.trans (hb.mono HB5.out.size)))
  have HK5 := Lib.hid (fun W (hb : Below w5.heap.size w5 W) => (show Sl W 1 (.slice kA np kc) np (picks.flatMap encI) from by have := HKV.out W (HB5.out.trans (hb.mono HB5.out.size)); rw [← HNP.out] at this; exact this))
  have HR5 := Lib.hid (fun kv W (hb : Below w5.heap.size w5 W) hkv => HRP.out kv W (HB5.out.trans (hb.mono HB5.out.size)) hkv)
  go_upto_region 6 with fail
  rw [HW5.out]
  go_cut [11, 12] (fun s11 s12 wx => ∃ g, s11 = .pointer (some ⟨g, 0, none⟩) ∧ s12 = .bool true ∧ Hid (w5.heap.size ≤ g ∧ Below w5.heap.size w5 wx ∧ ∃ vs, PickP true (runM words.toNat mx pl (picks ++ [who])) vs wx ∧ Blk wx g 34 vs.toArray))
  case first =>
    have hBB : Below w5.heap.size w5 w5.drew := (Below.refl _ _).drew
    obtain ⟨wz, hwz⟩ : ∃ z, w5.drew = z := ⟨_, rfl⟩
    rw [hwz] at hBB
    have HWZ := Lib.hid hwz
    have HONE := Lib.hid (encI_one picks)
    have h150 : np ≤ 150 := by have := HFW.out.2; omega
    clear hwz
    refine wp_region_held_drew (S := fun W => W.cell? ⟨w.heap.size, 0, none⟩ = some (.int .i64 words) ∧ W.cell? ⟨w.heap.size, 1, none⟩ = some (.int .i64 mx) ∧ W.cell? ⟨w.heap.size, 2, none⟩ = some (.slice A n c)) (by kernel_rfl) ?_ (fun hHeldcr => ?_)
    · exact HP5.out _ (Below.refl _ _).drew
    refine wpAnyH_take (i := 0) (oi := { dst := some 32, op := Op.load 24 (Operand.tmp 3), type := 24, pos := "law.go:137", after := _, guard := none }) (v := ?vcr0b1) rfl (by kernel_rfl) (by kernel_rfl) (by kernel_rfl) (fun _ _ _ h => h) (Or.inl ⟨by rfl, ?hycr0b1⟩) (by assumption) ?restcr0b1
    case hycr0b1 => (intro w hSw; (try dsimp only at hSw); go_simp <;> with_reducible rfl)
    try simp only [Act.put, List.setIfInBounds_toArray, List.set_cons_zero, List.set_cons_succ]
    refine wpAnyH_take (i := 1) (oi := { dst := some 33, op := Op.move (Operand.tmp 1), type := 25, pos := "law.go:137", after := _, guard := none }) (v := ?vcr1b2) rfl (by kernel_rfl) (by kernel_rfl) (by kernel_rfl) (fun _ _ _ h => h) (Or.inl ⟨by rfl, ?hycr1b2⟩) (by assumption) ?restcr1b2
    case hycr1b2 => (intro w hSw; (try dsimp only at hSw); go_simp <;> with_reducible rfl)
    try simp only [Act.put, List.setIfInBounds_toArray, List.set_cons_zero, List.set_cons_succ]
    refine wpAnyH_take (i := 3) (oi := { dst := some 35, op := Op.move (Operand.tmp 2), type := 3, pos := "law.go:137", after := _, guard := none }) (v := ?vcr3b3) rfl (by kernel_rfl) (by kernel_rfl) (by kernel_rfl) (fun _ _ _ h => h) (Or.inl ⟨by rfl, ?hycr3b3⟩) (by assumption) ?restcr3b3
    case hycr3b3 => (intro w hSw; (try dsimp only at hSw); go_simp <;> with_reducible rfl)
    try simp only [Act.put, List.setIfInBounds_toArray, List.set_cons_zero, List.set_cons_succ]
    refine wpAnyH_ready (rs := [2, 4, 10]) (by kernel_rfl) (by simp) ?_
    refine AllReadyH.cons (o := { dst := some 34, op := Op.call { callee := Callee.builtin Builtin.append, args := #[Operand.const (Value.slice none 0 0), Operand.tmp 33], argTypes := #[25, 25] }, type := 25, pos := "law.go:137", after := _, guard := none }) rfl (fun K hK => ?_) ?_
    · (try rw [HWZ.out])
      refine step_append_sl rfl (.const (.slice none 0 0)) (.tmp 33) _ rfl w5.heap.size 3 i0 _ 1 8 Try.underlying25 hi0 hz0 hz1 hz2 rfl (by omega) (.slice none 0 0) 0 [] rfl (World.ownsRow_nil _ _ _ _) (.slice kA np kc) np _ rfl (HK5.out _ hBB) HONE.out (by unfold maxLen; omega) (by omega) hBB.size ?_
      rintro v1 wz hV1 hgz -
      have hb := below_grown_none hgz
      simp only [Nat.zero_add, List.nil_append] at hV1
      (try replace hU := hU.below hb)
      (try replace kG := kG.keep hb)
      replace hBB := hBB.trans (hb.mono hBB.size)
      clear hgz hb
      refine hK.out _ _ ?_ (fun hHeldcr2b4 => ?_)
      · exact HP5.out _ hBB
      clear hK K hHeldcr
      try simp only [Act.put, List.setIfInBounds_toArray, List.set_cons_zero, List.set_cons_succ]
      refine wpAnyH_ready (rs := [4, 10]) (by kernel_rfl) (by simp) ?_
      refine AllReadyH.cons (o := { dst := some 36, op := Op.buildSlice 25 1 #[(0, Operand.tmp 35)], type := 25, pos := "law.go:137", after := _, guard := none }) rfl (fun K hK => ?_) ?_
      · (try rw [HWZ.out])
        go_simp
        have hb := Below.alloc (Below.refl wz.heap.size wz) (Nat.le_refl _) (.cells #[.int .i64 who] 3)
        have hU0 := Blk.new wz 3 #[.int .i64 who]
        obtain ⟨gu, hgu⟩ : ∃ g, wz.heap.size = g := ⟨_, rfl⟩
        obtain ⟨wz, hwy⟩ : ∃ z, wz.alloc (.cells #[.int .i64 who] 3) = z := ⟨_, rfl⟩
        rw [hwy] at hb hU0 ⊢
        rw [hgu] at hU0 ⊢
        (try replace hV1 := own_below hV1 hb)
        (try replace hV2 := own_below hV2 hb)
        (try replace hU := hU.below hb)
        (try replace hM := hM.below hb)
        (try replace kG := kG.keep hb)
        replace hBB := hBB.trans (hb.mono hBB.size)
        have hU := slI_one hU0
        clear hb hU0 hgu hwy
        refine hK.out _ _ ?_ (fun hHeldcr4b5 => ?_)
        · exact HP5.out _ hBB
        clear hK K hHeldcr2b4
        try simp only [Act.put, List.setIfInBounds_toArray, List.set_cons_zero, List.set_cons_succ]
        refine wpAnyH_ready (rs := [5, 10]) (by kernel_rfl) (by simp) ?_
        refine AllReadyH.cons (o := { dst := some 37, op := Op.call { callee := Callee.builtin Builtin.append, args := #[Operand.tmp 34, Operand.tmp 36], argTypes := #[25, 25] }, type := 25, pos := "law.go:137", after := _, guard := none }) rfl (fun K hK => ?_) ?_
        · refine step_append_sl rfl (.tmp 34) (.tmp 36) _ rfl w5.heap.size 3 i0 _ 1 8 Try.underlying25 hi0 hz0 hz1 hz2 rfl (by omega) _ np _ rfl hV1 _ 1 _ rfl hU (by simp [Value.oneCell']) (by unfold maxLen; omega) (by omega) hBB.size ?_
          rintro v2 wz hV2 hgz -
          have hb := below_own hV1 hgz (Nat.le_refl _) hBB.size
          (try replace kG := kG.grown hgz (fun e => own_ne hV1 kG (by decide) e.symm))
          replace hBB := hBB.trans hb
          clear hgz hb hU hV1
          refine hK.out _ _ ?_ (fun hHeldcr5b6 => ?_)
          · exact HP5.out _ hBB
          clear hK K hHeldcr4b5
          try simp only [Act.put, List.setIfInBounds_toArray, List.set_cons_zero, List.set_cons_succ]
          refine wpAnyH_ready (rs := [6, 10]) (by kernel_rfl) (by simp) ?_
          refine AllReadyH.cons (o := { dst := some 38, op := Op.call { callee := Callee.value (Operand.func 12), args := #[Operand.tmp 32, Operand.tmp 37], argTypes := #[24, 25] }, type := 35, pos := "law.go:137", after := _, guard := none }) rfl (fun K hK => ?_) ?_
          · go_simp
            refine (HR5.out _ _ hBB (show Sl _ 1 _ (picks ++ [who]).length ((picks ++ [who]).flatMap encI) from by rw [List.length_append, ← HNP.out, List.flatMap_append]; exact Sl.of_own hV2)).mono ?_
            rintro e wz ⟨vs, rfl, hM, hb⟩
            (try replace kG := kG.keep hb)
            replace hBB := hBB.trans (hb.mono hBB.size)
            clear hV2 hb
            try go_wp2_with fail
            refine hK.out _ _ ?_ (fun hHeldcr6b7 => ?_)
            · exact HP5.out _ hBB
            clear hK K hHeldcr5b6
            try simp only [Act.put, List.setIfInBounds_toArray, List.set_cons_zero, List.set_cons_succ]
            refine wpAnyH_take (i := 7) (oi := { dst := some 31, op := Op.move (Operand.tmp 38), type := 35, pos := "law.go:137", after := _, guard := none }) (v := ?vcr7b8) rfl (by kernel_rfl) (by kernel_rfl) (by kernel_rfl) (fun _ _ _ h => h) (Or.inl ⟨by rfl, ?hycr7b8⟩) (by assumption) ?restcr7b8
            case hycr7b8 => (intro w hSw; (try dsimp only at hSw); go_simp <;> with_reducible rfl)
            try simp only [Act.put, List.setIfInBounds_toArray, List.set_cons_zero, List.set_cons_succ]
            refine wpAnyH_take (i := 8) (oi := { dst := some 39, op := Op.extract (Operand.tmp 31) 0, type := 34, pos := "law.go:137", after := _, guard := none }) (v := ?vcr8b9) rfl (by kernel_rfl) (by kernel_rfl) (by kernel_rfl) (fun _ _ _ h => h) (Or.inl ⟨by rfl, ?hycr8b9⟩) (by assumption) ?restcr8b9
            case hycr8b9 => (intro w hSw; (try dsimp only at hSw); go_simp <;> with_reducible rfl)
            try simp only [Act.put, List.setIfInBounds_toArray, List.set_cons_zero, List.set_cons_succ]
            refine wpAnyH_take (i := 9) (oi := { dst := some 40, op := Op.extract (Operand.tmp 31) 1, type := 4, pos := "law.go:137", after := _, guard := none }) (v := ?vcr9b10) rfl (by kernel_rfl) (by kernel_rfl) (by kernel_rfl) (fun _ _ _ h => h) (Or.inl ⟨by rfl, ?hycr9b10⟩) (by assumption) ?restcr9b10
            case hycr9b10 => (intro w hSw; (try dsimp only at hSw); go_simp <;> with_reducible rfl)
            try simp only [Act.put, List.setIfInBounds_toArray, List.set_cons_zero, List.set_cons_succ]
            refine wpAnyH_ready (rs := [10]) (by kernel_rfl) (by simp) ?_
            refine AllReadyH.cons (o := { dst := some 11, op := Op.alloc 34, type := 0, pos := "law.go:137", after := _, guard := none }) rfl (fun K hK => ?_) AllReadyH.nil
            (try rw [HWZ.out])
            go_simp
            have hb := Below.alloc (Below.refl wz.heap.size wz) (Nat.le_refl _) (.cells #[.slice none 0 0, .int .i64 0, .int .i64 0, .slice none 0 0, .slice none 0 0, .slice none 0 0, .int .i64 0] 34)
            have kG := Blk.new wz 34 #[.slice none 0 0, .int .i64 0, .int .i64 0, .slice none 0 0, .slice none 0 0, .slice none 0 0, .int .i64 0]
            have hgl := hBB.size
            obtain ⟨g, hgg⟩ : ∃ g, wz.heap.size = g := ⟨_, rfl⟩
            obtain ⟨wz, hwy⟩ : ∃ z, wz.alloc (.cells #[.slice none 0 0, .int .i64 0, .int .i64 0, .slice none 0 0, .slice none 0 0, .slice none 0 0, .int .i64 0] 34) = z := ⟨_, rfl⟩
            rw [hwy] at hb kG ⊢
            rw [hgg] at kG hgl ⊢
            (try replace hV1 := own_below hV1 hb)
            (try replace hV2 := own_below hV2 hb)
            (try replace hU := hU.below hb)
            (try replace hM := hM.below hb)
            replace hBB := hBB.trans (hb.mono hBB.size)
            clear hb hgg hwy
            refine hK.out _ _ ?_ (fun hHeldcr10b11 => ?_)
            · exact HP5.out _ hBB
            clear hK K hHeldcr6b7
            try simp only [Act.put, List.setIfInBounds_toArray, List.set_cons_zero, List.set_cons_succ]
            refine wpAnyH_ready (rs := [11]) (by kernel_rfl) (by simp) ?_
            refine AllReadyH.cons (o := { dst := none, op := Op.store 34 (Operand.tmp 11) (Operand.tmp 39), type := 0, pos := "law.go:137", after := _, guard := none }) rfl (fun K hK => ?_) AllReadyH.nil
            refine step_store_mem g _ kG rfl vs hM.1 hM.2.1 (.tmp 11) (.tmp 39) (by rfl) rfl rfl rfl ?_
            rintro wz kG2 hgz
            replace hM := hM.box hgz kG
            replace hBB := hBB.grown hgz hBB.size (fun k hk => by injection hk with hk; omega)
            clear hgz kG
            refine hK.out _ _ ?_ (fun hHeldcr11b12 => ?_)
            · exact HP5.out _ hBB
            clear hK K hHeldcr10b11
            try simp only [Act.put, List.setIfInBounds_toArray, List.set_cons_zero, List.set_cons_succ]
            refine wpAnyH_ready (rs := [12]) (by kernel_rfl) (by simp) ?_
            refine AllReadyH.cons (o := { dst := some 12, op := Op.assign (Operand.tmp 40), type := 4, pos := "law.go:137", after := _, guard := none }) rfl (fun K hK => ?_) AllReadyH.nil
            go_simp
            skip
            refine hK.out _ _ ?_ (fun hHeldcr12b13 => ?_)
            · exact HP5.out _ hBB
            clear hK K hHeldcr11b12
            try simp only [Act.put, List.setIfInBounds_toArray, List.set_cons_zero, List.set_cons_succ]
            refine wpAnyH_done (by kernel_rfl) ?_ _
            go_wp2_with fail
            go_meet
            exact ⟨g, rfl, rfl, (show Hid _ from ⟨hgl, hBB, vs, hM, kG2⟩)⟩
          refine AllReadyH.cons (o := { dst := some 11, op := Op.alloc 34, type := 0, pos := "law.go:137", after := _, guard := none }) rfl (fun K hK => ?_) ?_
          · (try rw [HWZ.out])
            go_simp
            have hb := Below.alloc (Below.refl wz.heap.size wz) (Nat.le_refl _) (.cells #[.slice none 0 0, .int .i64 0, .int .i64 0, .slice none 0 0, .slice none 0 0, .slice none 0 0, .int .i64 0] 34)
            have kG := Blk.new wz 34 #[.slice none 0 0, .int .i64 0, .int .i64 0, .slice none 0 0, .slice none 0 0, .slice none 0 0, .int .i64 0]
            have hgl := hBB.size
            obtain ⟨g, hgg⟩ : ∃ g, wz.heap.size = g := ⟨_, rfl⟩
            obtain ⟨wz, hwy⟩ : ∃ z, wz.alloc (.cells #[.slice none 0 0, .int .i64 0, .int .i64 0, .slice none 0 0, .slice none 0 0, .slice none 0 0, .int .i64 0] 34) = z := ⟨_, rfl⟩
            rw [hwy] at hb kG ⊢
            rw [hgg] at kG hgl ⊢
            (try replace hV1 := own_below hV1 hb)
            (try replace hV2 := own_below hV2 hb)
            (try replace hU := hU.below hb)
            (try replace hM := hM.below hb)
            replace hBB := hBB.trans (hb.mono hBB.size)
            clear hb hgg hwy
            refine hK.out _ _ ?_ (fun hHeldcr10b14 => ?_)
            · exact HP5.out _ hBB
            clear hK K hHeldcr5b6
            try simp only [Act.put, List.setIfInBounds_toArray, List.set_cons_zero, List.set_cons_succ]
            refine wpAnyH_ready (rs := [6]) (by kernel_rfl) (by simp) ?_
            refine AllReadyH.cons (o := { dst := some 38, op := Op.call { callee := Callee.value (Operand.func 12), args := #[Operand.tmp 32, Operand.tmp 37], argTypes := #[24, 25] }, type := 35, pos := "law.go:137", after := _, guard := none }) rfl (fun K hK => ?_) AllReadyH.nil
            go_simp
            refine (HR5.out _ _ hBB (show Sl _ 1 _ (picks ++ [who]).length ((picks ++ [who]).flatMap encI) from by rw [List.length_append, ← HNP.out, List.flatMap_append]; exact Sl.of_own hV2)).mono ?_
            rintro e wz ⟨vs, rfl, hM, hb⟩
            (try replace kG := kG.keep hb)
            replace hBB := hBB.trans (hb.mono hBB.size)
            clear hV2 hb
            try go_wp2_with fail
            refine hK.out _ _ ?_ (fun hHeldcr6b15 => ?_)
            · exact HP5.out _ hBB
            clear hK K hHeldcr10b14
            try simp only [Act.put, List.setIfInBounds_toArray, List.set_cons_zero, List.set_cons_succ]
            refine wpAnyH_take (i := 7) (oi := { dst := some 31, op := Op.move (Operand.tmp 38), type := 35, pos := "law.go:137", after := _, guard := none }) (v := ?vcr7b16) rfl (by kernel_rfl) (by kernel_rfl) (by kernel_rfl) (fun _ _ _ h => h) (Or.inl ⟨by rfl, ?hycr7b16⟩) (by assumption) ?restcr7b16
            case hycr7b16 => (intro w hSw; (try dsimp only at hSw); go_simp <;> with_reducible rfl)
            try simp only [Act.put, List.setIfInBounds_toArray, List.set_cons_zero, List.set_cons_succ]
            refine wpAnyH_take (i := 8) (oi := { dst := some 39, op := Op.extract (Operand.tmp 31) 0, type := 34, pos := "law.go:137", after := _, guard := none }) (v := ?vcr8b17) rfl (by kernel_rfl) (by kernel_rfl) (by kernel_rfl) (fun _ _ _ h => h) (Or.inl ⟨by rfl, ?hycr8b17⟩) (by assumption) ?restcr8b17
            case hycr8b17 => (intro w hSw; (try dsimp only at hSw); go_simp <;> with_reducible rfl)
            try simp only [Act.put, List.setIfInBounds_toArray, List.set_cons_zero, List.set_cons_succ]
            refine wpAnyH_take (i := 9) (oi := { dst := some 40, op := Op.extract (Operand.tmp 31) 1, type := 4, pos := "law.go:137", after := _, guard := none }) (v := ?vcr9b18) rfl (by kernel_rfl) (by kernel_rfl) (by kernel_rfl) (fun _ _ _ h => h) (Or.inl ⟨by rfl, ?hycr9b18⟩) (by assumption) ?restcr9b18
            case hycr9b18 => (intro w hSw; (try dsimp only at hSw); go_simp <;> with_reducible rfl)
            try simp only [Act.put, List.setIfInBounds_toArray, List.set_cons_zero, List.set_cons_succ]
            refine wpAnyH_ready (rs := [11]) (by kernel_rfl) (by simp) ?_
            refine AllReadyH.cons (o := { dst := none, op := Op.store 34 (Operand.tmp 11) (Operand.tmp 39), type := 0, pos := "law.go:137", after := _, guard := none }) rfl (fun K hK => ?_) AllReadyH.nil
            refine step_store_mem g _ kG rfl vs hM.1 hM.2.1 (.tmp 11) (.tmp 39) (by rfl) rfl rfl rfl ?_
            rintro wz kG2 hgz
            replace hM := hM.box hgz kG
            replace hBB := hBB.grown hgz hBB.size (fun k hk => by injection hk with hk; omega)
            clear hgz kG
            refine hK.out _ _ ?_ (fun hHeldcr11b19 => ?_)
            · exact HP5.out _ hBB
            clear hK K hHeldcr6b15
            try simp only [Act.put, List.setIfInBounds_toArray, List.set_cons_zero, List.set_cons_succ]
            refine wpAnyH_ready (rs := [12]) (by kernel_rfl) (by simp) ?_
            refine AllReadyH.cons (o := { dst := some 12, op := Op.assign (Operand.tmp 40), type := 4, pos := "law.go:137", after := _, guard := none }) rfl (fun K hK => ?_) AllReadyH.nil
            go_simp
            skip
            refine hK.out _ _ ?_ (fun hHeldcr12b20 => ?_)
            · exact HP5.out _ hBB
            clear hK K hHeldcr11b19
            try simp only [Act.put, List.setIfInBounds_toArray, List.set_cons_zero, List.set_cons_succ]
            refine wpAnyH_done (by kernel_rfl) ?_ _
            go_wp2_with fail
            go_meet
            exact ⟨g, rfl, rfl, (show Hid _ from ⟨hgl, hBB, vs, hM, kG2⟩)⟩
          exact AllReadyH.nil
        refine AllReadyH.cons (o := { dst := some 11, op := Op.alloc 34, type := 0, pos := "law.go:137", after := _, guard := none }) rfl (fun K hK => ?_) ?_
        · (try rw [HWZ.out])
          go_simp
          have hb := Below.alloc (Below.refl wz.heap.size wz) (Nat.le_refl _) (.cells #[.slice none 0 0, .int .i64 0, .int .i64 0, .slice none 0 0, .slice none 0 0, .slice none 0 0, .int .i64 0] 34)
          have kG := Blk.new wz 34 #[.slice none 0 0, .int .i64 0, .int .i64 0, .slice none 0 0, .slice none 0 0, .slice none 0 0, .int .i64 0]
          have hgl := hBB.size
          obtain ⟨g, hgg⟩ : ∃ g, wz.heap.size = g := ⟨_, rfl⟩
          obtain ⟨wz, hwy⟩ : ∃ z, wz.alloc (.cells #[.slice none 0 0, .int .i64 0, .int .i64 0, .slice none 0 0, .slice none 0 0, .slice none 0 0, .int .i64 0] 34) = z := ⟨_, rfl⟩
          rw [hwy] at hb kG ⊢
          rw [hgg] at kG hgl ⊢
          (try replace hV1 := own_below hV1 hb)
          (try replace hV2 := own_below hV2 hb)
          (try replace hU := hU.below hb)
          (try replace hM := hM.below hb)
          replace hBB := hBB.trans (hb.mono hBB.size)
          clear hb hgg hwy
          refine hK.out _ _ ?_ (fun hHeldcr10b21 => ?_)
          · exact HP5.out _ hBB
          clear hK K hHeldcr4b5
          try simp only [Act.put, List.setIfInBounds_toArray, List.set_cons_zero, List.set_cons_succ]
          refine wpAnyH_ready (rs := [5]) (by kernel_rfl) (by simp) ?_
          refine AllReadyH.cons (o := { dst := some 37, op := Op.call { callee := Callee.builtin Builtin.append, args := #[Operand.tmp 34, Operand.tmp 36], argTypes := #[25, 25] }, type := 25, pos := "law.go:137", after := _, guard := none }) rfl (fun K hK => ?_) AllReadyH.nil
          refine step_append_sl rfl (.tmp 34) (.tmp 36) _ rfl w5.heap.size 3 i0 _ 1 8 Try.underlying25 hi0 hz0 hz1 hz2 rfl (by omega) _ np _ rfl hV1 _ 1 _ rfl hU (by simp [Value.oneCell']) (by unfold maxLen; omega) (by omega) hBB.size ?_
          rintro v2 wz hV2 hgz -
          have hb := below_own hV1 hgz (Nat.le_refl _) hBB.size
          (try replace kG := kG.grown hgz (fun e => own_ne hV1 kG (by decide) e.symm))
          replace hBB := hBB.trans hb
          clear hgz hb hU hV1
          refine hK.out _ _ ?_ (fun hHeldcr5b22 => ?_)
          · exact HP5.out _ hBB
          clear hK K hHeldcr10b21
          try simp only [Act.put, List.setIfInBounds_toArray, List.set_cons_zero, List.set_cons_succ]
          refine wpAnyH_ready (rs := [6]) (by kernel_rfl) (by simp) ?_
          refine AllReadyH.cons (o := { dst := some 38, op := Op.call { callee := Callee.value (Operand.func 12), args := #[Operand.tmp 32, Operand.tmp 37], argTypes := #[24, 25] }, type := 35, pos := "law.go:137", after := _, guard := none }) rfl (fun K hK => ?_) AllReadyH.nil
          go_simp
          refine (HR5.out _ _ hBB (show Sl _ 1 _ (picks ++ [who]).length ((picks ++ [who]).flatMap encI) from by rw [List.length_append, ← HNP.out, List.flatMap_append]; exact Sl.of_own hV2)).mono ?_
          rintro e wz ⟨vs, rfl, hM, hb⟩
          (try replace kG := kG.keep hb)
          replace hBB := hBB.trans (hb.mono hBB.size)
          clear hV2 hb
          try go_wp2_with fail
          refine hK.out _ _ ?_ (fun hHeldcr6b23 => ?_)
          · exact HP5.out _ hBB
          clear hK K hHeldcr5b22
          try simp only [Act.put, List.setIfInBounds_toArray, List.set_cons_zero, List.set_cons_succ]
          refine wpAnyH_take (i := 7) (oi := { dst := some 31, op := Op.move (Operand.tmp 38), type := 35, pos := "law.go:137", after := _, guard := none }) (v := ?vcr7b24) rfl (by kernel_rfl) (by kernel_rfl) (by kernel_rfl) (fun _ _ _ h => h) (Or.inl ⟨by rfl, ?hycr7b24⟩) (by assumption) ?restcr7b24
          case hycr7b24 => (intro w hSw; (try dsimp only at hSw); go_simp <;> with_reducible rfl)
          try simp only [Act.put, List.setIfInBounds_toArray, List.set_cons_zero, List.set_cons_succ]
          refine wpAnyH_take (i := 8) (oi := { dst := some 39, op := Op.extract (Operand.tmp 31) 0, type := 34, pos := "law.go:137", after := _, guard := none }) (v := ?vcr8b25) rfl (by kernel_rfl) (by kernel_rfl) (by kernel_rfl) (fun _ _ _ h => h) (Or.inl ⟨by rfl, ?hycr8b25⟩) (by assumption) ?restcr8b25
          case hycr8b25 => (intro w hSw; (try dsimp only at hSw); go_simp <;> with_reducible rfl)
          try simp only [Act.put, List.setIfInBounds_toArray, List.set_cons_zero, List.set_cons_succ]
          refine wpAnyH_take (i := 9) (oi := { dst := some 40, op := Op.extract (Operand.tmp 31) 1, type := 4, pos := "law.go:137", after := _, guard := none }) (v := ?vcr9b26) rfl (by kernel_rfl) (by kernel_rfl) (by kernel_rfl) (fun _ _ _ h => h) (Or.inl ⟨by rfl, ?hycr9b26⟩) (by assumption) ?restcr9b26
          case hycr9b26 => (intro w hSw; (try dsimp only at hSw); go_simp <;> with_reducible rfl)
          try simp only [Act.put, List.setIfInBounds_toArray, List.set_cons_zero, List.set_cons_succ]
          refine wpAnyH_ready (rs := [11]) (by kernel_rfl) (by simp) ?_
          refine AllReadyH.cons (o := { dst := none, op := Op.store 34 (Operand.tmp 11) (Operand.tmp 39), type := 0, pos := "law.go:137", after := _, guard := none }) rfl (fun K hK => ?_) AllReadyH.nil
          refine step_store_mem g _ kG rfl vs hM.1 hM.2.1 (.tmp 11) (.tmp 39) (by rfl) rfl rfl rfl ?_
          rintro wz kG2 hgz
          replace hM := hM.box hgz kG
          replace hBB := hBB.grown hgz hBB.size (fun k hk => by injection hk with hk; omega)
          clear hgz kG
          refine hK.out _ _ ?_ (fun hHeldcr11b27 => ?_)
          · exact HP5.out _ hBB
          clear hK K hHeldcr6b23
          try simp only [Act.put, List.setIfInBounds_toArray, List.set_cons_zero, List.set_cons_succ]
          refine wpAnyH_ready (rs := [12]) (by kernel_rfl) (by simp) ?_
          refine AllReadyH.cons (o := { dst := some 12, op := Op.assign (Operand.tmp 40), type := 4, pos := "law.go:137", after := _, guard := none }) rfl (fun K hK => ?_) AllReadyH.nil
          go_simp
          skip
          refine hK.out _ _ ?_ (fun hHeldcr12b28 => ?_)
          · exact HP5.out _ hBB
          clear hK K hHeldcr11b27
          try simp only [Act.put, List.setIfInBounds_toArray, List.set_cons_zero, List.set_cons_succ]
          refine wpAnyH_done (by kernel_rfl) ?_ _
          go_wp2_with fail
          go_meet
          exact ⟨g, rfl, rfl, (show Hid _ from ⟨hgl, hBB, vs, hM, kG2⟩)⟩
        exact AllReadyH.nil
      refine AllReadyH.cons (o := { dst := some 11, op := Op.alloc 34, type := 0, pos := "law.go:137", after := _, guard := none }) rfl (fun K hK => ?_) ?_
      · (try rw [HWZ.out])
        go_simp
        have hb := Below.alloc (Below.refl wz.heap.size wz) (Nat.le_refl _) (.cells #[.slice none 0 0, .int .i64 0, .int .i64 0, .slice none 0 0, .slice none 0 0, .slice none 0 0, .int .i64 0] 34)
        have kG := Blk.new wz 34 #[.slice none 0 0, .int .i64 0, .int .i64 0, .slice none 0 0, .slice none 0 0, .slice none 0 0, .int .i64 0]
        have hgl := hBB.size
        obtain ⟨g, hgg⟩ : ∃ g, wz.heap.size = g := ⟨_, rfl⟩
        obtain ⟨wz, hwy⟩ : ∃ z, wz.alloc (.cells #[.slice none 0 0, .int .i64 0, .int .i64 0, .slice none 0 0, .slice none 0 0, .slice none 0 0, .int .i64 0] 34) = z := ⟨_, rfl⟩
        rw [hwy] at hb kG ⊢
        rw [hgg] at kG hgl ⊢
        (try replace hV1 := own_below hV1 hb)
        (try replace hV2 := own_below hV2 hb)
        (try replace hU := hU.below hb)
        (try replace hM := hM.below hb)
        replace hBB := hBB.trans (hb.mono hBB.size)
        clear hb hgg hwy
        refine hK.out _ _ ?_ (fun hHeldcr10b29 => ?_)
        · exact HP5.out _ hBB
        clear hK K hHeldcr2b4
        try simp only [Act.put, List.setIfInBounds_toArray, List.set_cons_zero, List.set_cons_succ]
        refine wpAnyH_ready (rs := [4]) (by kernel_rfl) (by simp) ?_
        refine AllReadyH.cons (o := { dst := some 36, op := Op.buildSlice 25 1 #[(0, Operand.tmp 35)], type := 25, pos := "law.go:137", after := _, guard := none }) rfl (fun K hK => ?_) AllReadyH.nil
        (try rw [HWZ.out])
        go_simp
        have hb := Below.alloc (Below.refl wz.heap.size wz) (Nat.le_refl _) (.cells #[.int .i64 who] 3)
        have hU0 := Blk.new wz 3 #[.int .i64 who]
        obtain ⟨gu, hgu⟩ : ∃ g, wz.heap.size = g := ⟨_, rfl⟩
        obtain ⟨wz, hwy⟩ : ∃ z, wz.alloc (.cells #[.int .i64 who] 3) = z := ⟨_, rfl⟩
        rw [hwy] at hb hU0 ⊢
        rw [hgu] at hU0 ⊢
        (try replace hV1 := own_below hV1 hb)
        (try replace hV2 := own_below hV2 hb)
        (try replace hU := hU.below hb)
        (try replace hM := hM.below hb)
        (try replace kG := kG.keep hb)
        replace hBB := hBB.trans (hb.mono hBB.size)
        have hU := slI_one hU0
        clear hb hU0 hgu hwy
        refine hK.out _ _ ?_ (fun hHeldcr4b30 => ?_)
        · exact HP5.out _ hBB
        clear hK K hHeldcr10b29
        try simp only [Act.put, List.setIfInBounds_toArray, List.set_cons_zero, List.set_cons_succ]
        refine wpAnyH_ready (rs := [5]) (by kernel_rfl) (by simp) ?_
        refine AllReadyH.cons (o := { dst := some 37, op := Op.call { callee := Callee.builtin Builtin.append, args := #[Operand.tmp 34, Operand.tmp 36], argTypes := #[25, 25] }, type := 25, pos := "law.go:137", after := _, guard := none }) rfl (fun K hK => ?_) AllReadyH.nil
        refine step_append_sl rfl (.tmp 34) (.tmp 36) _ rfl w5.heap.size 3 i0 _ 1 8 Try.underlying25 hi0 hz0 hz1 hz2 rfl (by omega) _ np _ rfl hV1 _ 1 _ rfl hU (by simp [Value.oneCell']) (by unfold maxLen; omega) (by omega) hBB.size ?_
        rintro v2 wz hV2 hgz -
        have hb := below_own hV1 hgz (Nat.le_refl _) hBB.size
        (try replace kG := kG.grown hgz (fun e => own_ne hV1 kG (by decide) e.symm))
        replace hBB := hBB.trans hb
        clear hgz hb hU hV1
        refine hK.out _ _ ?_ (fun hHeldcr5b31 => ?_)
        · exact HP5.out _ hBB
        clear hK K hHeldcr4b30
        try simp only [Act.put, List.setIfInBounds_toArray, List.set_cons_zero, List.set_cons_succ]
        refine wpAnyH_ready (rs := [6]) (by kernel_rfl) (by simp) ?_
        refine AllReadyH.cons (o := { dst := some 38, op := Op.call { callee := Callee.value (Operand.func 12), args := #[Operand.tmp 32, Operand.tmp 37], argTypes := #[24, 25] }, type := 35, pos := "law.go:137", after := _, guard := none }) rfl (fun K hK => ?_) AllReadyH.nil
        go_simp
        refine (HR5.out _ _ hBB (show Sl _ 1 _ (picks ++ [who]).length ((picks ++ [who]).flatMap encI) from by rw [List.length_append, ← HNP.out, List.flatMap_append]; exact Sl.of_own hV2)).mono ?_
        rintro e wz ⟨vs, rfl, hM, hb⟩
        (try replace kG := kG.keep hb)
        replace hBB := hBB.trans (hb.mono hBB.size)
        clear hV2 hb
        try go_wp2_with fail
        refine hK.out _ _ ?_ (fun hHeldcr6b32 => ?_)
        · exact HP5.out _ hBB
        clear hK K hHeldcr5b31
        try simp only [Act.put, List.setIfInBounds_toArray, List.set_cons_zero, List.set_cons_succ]
        refine wpAnyH_take (i := 7) (oi := { dst := some 31, op := Op.move (Operand.tmp 38), type := 35, pos := "law.go:137", after := _, guard := none }) (v := ?vcr7b33) rfl (by kernel_rfl) (by kernel_rfl) (by kernel_rfl) (fun _ _ _ h => h) (Or.inl ⟨by rfl, ?hycr7b33⟩) (by assumption) ?restcr7b33
        case hycr7b33 => (intro w hSw; (try dsimp only at hSw); go_simp <;> with_reducible rfl)
        try simp only [Act.put, List.setIfInBounds_toArray, List.set_cons_zero, List.set_cons_succ]
        refine wpAnyH_take (i := 8) (oi := { dst := some 39, op := Op.extract (Operand.tmp 31) 0, type := 34, pos := "law.go:137", after := _, guard := none }) (v := ?vcr8b34) rfl (by kernel_rfl) (by kernel_rfl) (by kernel_rfl) (fun _ _ _ h => h) (Or.inl ⟨by rfl, ?hycr8b34⟩) (by assumption) ?restcr8b34
        case hycr8b34 => (intro w hSw; (try dsimp only at hSw); go_simp <;> with_reducible rfl)
        try simp only [Act.put, List.setIfInBounds_toArray, List.set_cons_zero, List.set_cons_succ]
        refine wpAnyH_take (i := 9) (oi := { dst := some 40, op := Op.extract (Operand.tmp 31) 1, type := 4, pos := "law.go:137", after := _, guard := none }) (v := ?vcr9b35) rfl (by kernel_rfl) (by kernel_rfl) (by kernel_rfl) (fun _ _ _ h => h) (Or.inl ⟨by rfl, ?hycr9b35⟩) (by assumption) ?restcr9b35
        case hycr9b35 => (intro w hSw; (try dsimp only at hSw); go_simp <;> with_reducible rfl)
        try simp only [Act.put, List.setIfInBounds_toArray, List.set_cons_zero, List.set_cons_succ]
        refine wpAnyH_ready (rs := [11]) (by kernel_rfl) (by simp) ?_
        refine AllReadyH.cons (o := { dst := none, op := Op.store 34 (Operand.tmp 11) (Operand.tmp 39), type := 0, pos := "law.go:137", after := _, guard := none }) rfl (fun K hK => ?_) AllReadyH.nil
        refine step_store_mem g _ kG rfl vs hM.1 hM.2.1 (.tmp 11) (.tmp 39) (by rfl) rfl rfl rfl ?_
        rintro wz kG2 hgz
        replace hM := hM.box hgz kG
        replace hBB := hBB.grown hgz hBB.size (fun k hk => by injection hk with hk; omega)
        clear hgz kG
        refine hK.out _ _ ?_ (fun hHeldcr11b36 => ?_)
        · exact HP5.out _ hBB
        clear hK K hHeldcr6b32
        try simp only [Act.put, List.setIfInBounds_toArray, List.set_cons_zero, List.set_cons_succ]
        refine wpAnyH_ready (rs := [12]) (by kernel_rfl) (by simp) ?_
        refine AllReadyH.cons (o := { dst := some 12, op := Op.assign (Operand.tmp 40), type := 4, pos := "law.go:137", after := _, guard := none }) rfl (fun K hK => ?_) AllReadyH.nil
        go_simp
        skip
        refine hK.out _ _ ?_ (fun hHeldcr12b37 => ?_)
        · exact HP5.out _ hBB
        clear hK K hHeldcr11b36
        try simp only [Act.put, List.setIfInBounds_toArray, List.set_cons_zero, List.set_cons_succ]
        refine wpAnyH_done (by kernel_rfl) ?_ _
        go_wp2_with fail
        go_meet
        exact ⟨g, rfl, rfl, (show Hid _ from ⟨hgl, hBB, vs, hM, kG2⟩)⟩
      exact AllReadyH.nil
    refine AllReadyH.cons (o := { dst := some 36, op := Op.buildSlice 25 1 #[(0, Operand.tmp 35)], type := 25, pos := "law.go:137", after := _, guard := none }) rfl (fun K hK => ?_) ?_
    · (try rw [HWZ.out])
      go_simp
      have hb := Below.alloc (Below.refl wz.heap.size wz) (Nat.le_refl _) (.cells #[.int .i64 who] 3)
      have hU0 := Blk.new wz 3 #[.int .i64 who]
      obtain ⟨gu, hgu⟩ : ∃ g, wz.heap.size = g := ⟨_, rfl⟩
      obtain ⟨wz, hwy⟩ : ∃ z, wz.alloc (.cells #[.int .i64 who] 3) = z := ⟨_, rfl⟩
      rw [hwy] at hb hU0 ⊢
      rw [hgu] at hU0 ⊢
      (try replace hV1 := own_below hV1 hb)
      (try replace hV2 := own_below hV2 hb)
      (try replace hU := hU.below hb)
      (try replace hM := hM.below hb)
      (try replace kG := kG.keep hb)
      replace hBB := hBB.trans (hb.mono hBB.size)
      have hU := slI_one hU0
      clear hb hU0 hgu hwy
      refine hK.out _ _ ?_ (fun hHeldcr4b38 => ?_)
      · exact HP5.out _ hBB
      clear hK K hHeldcr
      try simp only [Act.put, List.setIfInBounds_toArray, List.set_cons_zero, List.set_cons_succ]
      refine wpAnyH_ready (rs := [2, 10]) (by kernel_rfl) (by simp) ?_
      refine AllReadyH.cons (o := { dst := some 34, op := Op.call { callee := Callee.builtin Builtin.append, args := #[Operand.const (Value.slice none 0 0), Operand.tmp 33], argTypes := #[25, 25] }, type := 25, pos := "law.go:137", after := _, guard := none }) rfl (fun K hK => ?_) ?_
      · (try rw [HWZ.out])
        refine step_append_sl rfl (.const (.slice none 0 0)) (.tmp 33) _ rfl w5.heap.size 3 i0 _ 1 8 Try.underlying25 hi0 hz0 hz1 hz2 rfl (by omega) (.slice none 0 0) 0 [] rfl (World.ownsRow_nil _ _ _ _) (.slice kA np kc) np _ rfl (HK5.out _ hBB) HONE.out (by unfold maxLen; omega) (by omega) hBB.size ?_
        rintro v1 wz hV1 hgz -
        have hb := below_grown_none hgz
        simp only [Nat.zero_add, List.nil_append] at hV1
        (try replace hU := hU.below hb)
        (try replace kG := kG.keep hb)
        replace hBB := hBB.trans (hb.mono hBB.size)
        clear hgz hb
        refine hK.out _ _ ?_ (fun hHeldcr2b39 => ?_)
        · exact HP5.out _ hBB
        clear hK K hHeldcr4b38
        try simp only [Act.put, List.setIfInBounds_toArray, List.set_cons_zero, List.set_cons_succ]
        refine wpAnyH_ready (rs := [5, 10]) (by kernel_rfl) (by simp) ?_
        refine AllReadyH.cons (o := { dst := some 37, op := Op.call { callee := Callee.builtin Builtin.append, args := #[Operand.tmp 34, Operand.tmp 36], argTypes := #[25, 25] }, type := 25, pos := "law.go:137", after := _, guard := none }) rfl (fun K hK => ?_) ?_
        · refine step_append_sl rfl (.tmp 34) (.tmp 36) _ rfl w5.heap.size 3 i0 _ 1 8 Try.underlying25 hi0 hz0 hz1 hz2 rfl (by omega) _ np _ rfl hV1 _ 1 _ rfl hU (by simp [Value.oneCell']) (by unfold maxLen; omega) (by omega) hBB.size ?_
          rintro v2 wz hV2 hgz -
          have hb := below_own hV1 hgz (Nat.le_refl _) hBB.size
          (try replace kG := kG.grown hgz (fun e => own_ne hV1 kG (by decide) e.symm))
          replace hBB := hBB.trans hb
          clear hgz hb hU hV1
          refine hK.out _ _ ?_ (fun hHeldcr5b40 => ?_)
          · exact HP5.out _ hBB
          clear hK K hHeldcr2b39
          try simp only [Act.put, List.setIfInBounds_toArray, List.set_cons_zero, List.set_cons_succ]
          refine wpAnyH_ready (rs := [6, 10]) (by kernel_rfl) (by simp) ?_
          refine AllReadyH.cons (o := { dst := some 38, op := Op.call { callee := Callee.value (Operand.func 12), args := #[Operand.tmp 32, Operand.tmp 37], argTypes := #[24, 25] }, type := 35, pos := "law.go:137", after := _, guard := none }) rfl (fun K hK => ?_) ?_
          · go_simp
            refine (HR5.out _ _ hBB (show Sl _ 1 _ (picks ++ [who]).length ((picks ++ [who]).flatMap encI) from by rw [List.length_append, ← HNP.out, List.flatMap_append]; exact Sl.of_own hV2)).mono ?_
            rintro e wz ⟨vs, rfl, hM, hb⟩
            (try replace kG := kG.keep hb)
            replace hBB := hBB.trans (hb.mono hBB.size)
            clear hV2 hb
            try go_wp2_with fail
            refine hK.out _ _ ?_ (fun hHeldcr6b41 => ?_)
            · exact HP5.out _ hBB
            clear hK K hHeldcr5b40
            try simp only [Act.put, List.setIfInBounds_toArray, List.set_cons_zero, List.set_cons_succ]
            refine wpAnyH_take (i := 7) (oi := { dst := some 31, op := Op.move (Operand.tmp 38), type := 35, pos := "law.go:137", after := _, guard := none }) (v := ?vcr7b42) rfl (by kernel_rfl) (by kernel_rfl) (by kernel_rfl) (fun _ _ _ h => h) (Or.inl ⟨by rfl, ?hycr7b42⟩) (by assumption) ?restcr7b42
            case hycr7b42 => (intro w hSw; (try dsimp only at hSw); go_simp <;> with_reducible rfl)
            try simp only [Act.put, List.setIfInBounds_toArray, List.set_cons_zero, List.set_cons_succ]
            refine wpAnyH_take (i := 8) (oi := { dst := some 39, op := Op.extract (Operand.tmp 31) 0, type := 34, pos := "law.go:137", after := _, guard := none }) (v := ?vcr8b43) rfl (by kernel_rfl) (by kernel_rfl) (by kernel_rfl) (fun _ _ _ h => h) (Or.inl ⟨by rfl, ?hycr8b43⟩) (by assumption) ?restcr8b43
            case hycr8b43 => (intro w hSw; (try dsimp only at hSw); go_simp <;> with_reducible rfl)
            try simp only [Act.put, List.setIfInBounds_toArray, List.set_cons_zero, List.set_cons_succ]
            refine wpAnyH_take (i := 9) (oi := { dst := some 40, op := Op.extract (Operand.tmp 31) 1, type := 4, pos := "law.go:137", after := _, guard := none }) (v := ?vcr9b44) rfl (by kernel_rfl) (by kernel_rfl) (by kernel_rfl) (fun _ _ _ h => h) (Or.inl ⟨by rfl, ?hycr9b44⟩) (by assumption) ?restcr9b44
            case hycr9b44 => (intro w hSw; (try dsimp only at hSw); go_simp <;> with_reducible rfl)
            try simp only [Act.put, List.setIfInBounds_toArray, List.set_cons_zero, List.set_cons_succ]
            refine wpAnyH_ready (rs := [10]) (by kernel_rfl) (by simp) ?_
            refine AllReadyH.cons (o := { dst := some 11, op := Op.alloc 34, type := 0, pos := "law.go:137", after := _, guard := none }) rfl (fun K hK => ?_) AllReadyH.nil
            (try rw [HWZ.out])
            go_simp
            have hb := Below.alloc (Below.refl wz.heap.size wz) (Nat.le_refl _) (.cells #[.slice none 0 0, .int .i64 0, .int .i64 0, .slice none 0 0, .slice none 0 0, .slice none 0 0, .int .i64 0] 34)
            have kG := Blk.new wz 34 #[.slice none 0 0, .int .i64 0, .int .i64 0, .slice none 0 0, .slice none 0 0, .slice none 0 0, .int .i64 0]
            have hgl := hBB.size
            obtain ⟨g, hgg⟩ : ∃ g, wz.heap.size = g := ⟨_, rfl⟩
            obtain ⟨wz, hwy⟩ : ∃ z, wz.alloc (.cells #[.slice none 0 0, .int .i64 0, .int .i64 0, .slice none 0 0, .slice none 0 0, .slice none 0 0, .int .i64 0] 34) = z := ⟨_, rfl⟩
            rw [hwy] at hb kG ⊢
            rw [hgg] at kG hgl ⊢
            (try replace hV1 := own_below hV1 hb)
            (try replace hV2 := own_below hV2 hb)
            (try replace hU := hU.below hb)
            (try replace hM := hM.below hb)
            replace hBB := hBB.trans (hb.mono hBB.size)
            clear hb hgg hwy
            refine hK.out _ _ ?_ (fun hHeldcr10b45 => ?_)
            · exact HP5.out _ hBB
            clear hK K hHeldcr6b41
            try simp only [Act.put, List.setIfInBounds_toArray, List.set_cons_zero, List.set_cons_succ]
            refine wpAnyH_ready (rs := [11]) (by kernel_rfl) (by simp) ?_
            refine AllReadyH.cons (o := { dst := none, op := Op.store 34 (Operand.tmp 11) (Operand.tmp 39), type := 0, pos := "law.go:137", after := _, guard := none }) rfl (fun K hK => ?_) AllReadyH.nil
            refine step_store_mem g _ kG rfl vs hM.1 hM.2.1 (.tmp 11) (.tmp 39) (by rfl) rfl rfl rfl ?_
            rintro wz kG2 hgz
            replace hM := hM.box hgz kG
            replace hBB := hBB.grown hgz hBB.size (fun k hk => by injection hk with hk; omega)
            clear hgz kG
            refine hK.out _ _ ?_ (fun hHeldcr11b46 => ?_)
            · exact HP5.out _ hBB
            clear hK K hHeldcr10b45
            try simp only [Act.put, List.setIfInBounds_toArray, List.set_cons_zero, List.set_cons_succ]
            refine wpAnyH_ready (rs := [12]) (by kernel_rfl) (by simp) ?_
            refine AllReadyH.cons (o := { dst := some 12, op := Op.assign (Operand.tmp 40), type := 4, pos := "law.go:137", after := _, guard := none }) rfl (fun K hK => ?_) AllReadyH.nil
            go_simp
            skip
            refine hK.out _ _ ?_ (fun hHeldcr12b47 => ?_)
            · exact HP5.out _ hBB
            clear hK K hHeldcr11b46
            try simp only [Act.put, List.setIfInBounds_toArray, List.set_cons_zero, List.set_cons_succ]
            refine wpAnyH_done (by kernel_rfl) ?_ _
            go_wp2_with fail
            go_meet
            exact ⟨g, rfl, rfl, (show Hid _ from ⟨hgl, hBB, vs, hM, kG2⟩)⟩
          refine AllReadyH.cons (o := { dst := some 11, op := Op.alloc 34, type := 0, pos := "law.go:137", after := _, guard := none }) rfl (fun K hK => ?_) ?_
          · (try rw [HWZ.out])
            go_simp
            have hb := Below.alloc (Below.refl wz.heap.size wz) (Nat.le_refl _) (.cells #[.slice none 0 0, .int .i64 0, .int .i64 0, .slice none 0 0, .slice none 0 0, .slice none 0 0, .int .i64 0] 34)
            have kG := Blk.new wz 34 #[.slice none 0 0, .int .i64 0, .int .i64 0, .slice none 0 0, .slice none 0 0, .slice none 0 0, .int .i64 0]
            have hgl := hBB.size
            obtain ⟨g, hgg⟩ : ∃ g, wz.heap.size = g := ⟨_, rfl⟩
            obtain ⟨wz, hwy⟩ : ∃ z, wz.alloc (.cells #[.slice none 0 0, .int .i64 0, .int .i64 0, .slice none 0 0, .slice none 0 0, .slice none 0 0, .int .i64 0] 34) = z := ⟨_, rfl⟩
            rw [hwy] at hb kG ⊢
            rw [hgg] at kG hgl ⊢
            (try replace hV1 := own_below hV1 hb)
            (try replace hV2 := own_below hV2 hb)
            (try replace hU := hU.below hb)
            (try replace hM := hM.below hb)
            replace hBB := hBB.trans (hb.mono hBB.size)
            clear hb hgg hwy
            refine hK.out _ _ ?_ (fun hHeldcr10b48 => ?_)
            · exact HP5.out _ hBB
            clear hK K hHeldcr5b40
            try simp only [Act.put, List.setIfInBounds_toArray, List.set_cons_zero, List.set_cons_succ]
            refine wpAnyH_ready (rs := [6]) (by kernel_rfl) (by simp) ?_
            refine AllReadyH.cons (o := { dst := some 38, op := Op.call { callee := Callee.value (Operand.func 12), args := #[Operand.tmp 32, Operand.tmp 37], argTypes := #[24, 25] }, type := 35, pos := "law.go:137", after := _, guard := none }) rfl (fun K hK => ?_) AllReadyH.nil
            go_simp
            refine (HR5.out _ _ hBB (show Sl _ 1 _ (picks ++ [who]).length ((picks ++ [who]).flatMap encI) from by rw [List.length_append, ← HNP.out, List.flatMap_append]; exact Sl.of_own hV2)).mono ?_
            rintro e wz ⟨vs, rfl, hM, hb⟩
            (try replace kG := kG.keep hb)
            replace hBB := hBB.trans (hb.mono hBB.size)
            clear hV2 hb
            try go_wp2_with fail
            refine hK.out _ _ ?_ (fun hHeldcr6b49 => ?_)
            · exact HP5.out _ hBB
            clear hK K hHeldcr10b48
            try simp only [Act.put, List.setIfInBounds_toArray, List.set_cons_zero, List.set_cons_succ]
            refine wpAnyH_take (i := 7) (oi := { dst := some 31, op := Op.move (Operand.tmp 38), type := 35, pos := "law.go:137", after := _, guard := none }) (v := ?vcr7b50) rfl (by kernel_rfl) (by kernel_rfl) (by kernel_rfl) (fun _ _ _ h => h) (Or.inl ⟨by rfl, ?hycr7b50⟩) (by assumption) ?restcr7b50
            case hycr7b50 => (intro w hSw; (try dsimp only at hSw); go_simp <;> with_reducible rfl)
            try simp only [Act.put, List.setIfInBounds_toArray, List.set_cons_zero, List.set_cons_succ]
            refine wpAnyH_take (i := 8) (oi := { dst := some 39, op := Op.extract (Operand.tmp 31) 0, type := 34, pos := "law.go:137", after := _, guard := none }) (v := ?vcr8b51) rfl (by kernel_rfl) (by kernel_rfl) (by kernel_rfl) (fun _ _ _ h => h) (Or.inl ⟨by rfl, ?hycr8b51⟩) (by assumption) ?restcr8b51
            case hycr8b51 => (intro w hSw; (try dsimp only at hSw); go_simp <;> with_reducible rfl)
            try simp only [Act.put, List.setIfInBounds_toArray, List.set_cons_zero, List.set_cons_succ]
            refine wpAnyH_take (i := 9) (oi := { dst := some 40, op := Op.extract (Operand.tmp 31) 1, type := 4, pos := "law.go:137", after := _, guard := none }) (v := ?vcr9b52) rfl (by kernel_rfl) (by kernel_rfl) (by kernel_rfl) (fun _ _ _ h => h) (Or.inl ⟨by rfl, ?hycr9b52⟩) (by assumption) ?restcr9b52
            case hycr9b52 => (intro w hSw; (try dsimp only at hSw); go_simp <;> with_reducible rfl)
            try simp only [Act.put, List.setIfInBounds_toArray, List.set_cons_zero, List.set_cons_succ]
            refine wpAnyH_ready (rs := [11]) (by kernel_rfl) (by simp) ?_
            refine AllReadyH.cons (o := { dst := none, op := Op.store 34 (Operand.tmp 11) (Operand.tmp 39), type := 0, pos := "law.go:137", after := _, guard := none }) rfl (fun K hK => ?_) AllReadyH.nil
            refine step_store_mem g _ kG rfl vs hM.1 hM.2.1 (.tmp 11) (.tmp 39) (by rfl) rfl rfl rfl ?_
            rintro wz kG2 hgz
            replace hM := hM.box hgz kG
            replace hBB := hBB.grown hgz hBB.size (fun k hk => by injection hk with hk; omega)
            clear hgz kG
            refine hK.out _ _ ?_ (fun hHeldcr11b53 => ?_)
            · exact HP5.out _ hBB
            clear hK K hHeldcr6b49
            try simp only [Act.put, List.setIfInBounds_toArray, List.set_cons_zero, List.set_cons_succ]
            refine wpAnyH_ready (rs := [12]) (by kernel_rfl) (by simp) ?_
            refine AllReadyH.cons (o := { dst := some 12, op := Op.assign (Operand.tmp 40), type := 4, pos := "law.go:137", after := _, guard := none }) rfl (fun K hK => ?_) AllReadyH.nil
            go_simp
            skip
            refine hK.out _ _ ?_ (fun hHeldcr12b54 => ?_)
            · exact HP5.out _ hBB
            clear hK K hHeldcr11b53
            try simp only [Act.put, List.setIfInBounds_toArray, List.set_cons_zero, List.set_cons_succ]
            refine wpAnyH_done (by kernel_rfl) ?_ _
            go_wp2_with fail
            go_meet
            exact ⟨g, rfl, rfl, (show Hid _ from ⟨hgl, hBB, vs, hM, kG2⟩)⟩
          exact AllReadyH.nil
        refine AllReadyH.cons (o := { dst := some 11, op := Op.alloc 34, type := 0, pos := "law.go:137", after := _, guard := none }) rfl (fun K hK => ?_) ?_
        · (try rw [HWZ.out])
          go_simp
          have hb := Below.alloc (Below.refl wz.heap.size wz) (Nat.le_refl _) (.cells #[.slice none 0 0, .int .i64 0, .int .i64 0, .slice none 0 0, .slice none 0 0, .slice none 0 0, .int .i64 0] 34)
          have kG := Blk.new wz 34 #[.slice none 0 0, .int .i64 0, .int .i64 0, .slice none 0 0, .slice none 0 0, .slice none 0 0, .int .i64 0]
          have hgl := hBB.size
          obtain ⟨g, hgg⟩ : ∃ g, wz.heap.size = g := ⟨_, rfl⟩
          obtain ⟨wz, hwy⟩ : ∃ z, wz.alloc (.cells #[.slice none 0 0, .int .i64 0, .int .i64 0, .slice none 0 0, .slice none 0 0, .slice none 0 0, .int .i64 0] 34) = z := ⟨_, rfl⟩
          rw [hwy] at hb kG ⊢
          rw [hgg] at kG hgl ⊢
          (try replace hV1 := own_below hV1 hb)
          (try replace hV2 := own_below hV2 hb)
          (try replace hU := hU.below hb)
          (try replace hM := hM.below hb)
          replace hBB := hBB.trans (hb.mono hBB.size)
          clear hb hgg hwy
          refine hK.out _ _ ?_ (fun hHeldcr10b55 => ?_)
          · exact HP5.out _ hBB
          clear hK K hHeldcr2b39
          try simp only [Act.put, List.setIfInBounds_toArray, List.set_cons_zero, List.set_cons_succ]
          refine wpAnyH_ready (rs := [5]) (by kernel_rfl) (by simp) ?_
          refine AllReadyH.cons (o := { dst := some 37, op := Op.call { callee := Callee.builtin Builtin.append, args := #[Operand.tmp 34, Operand.tmp 36], argTypes := #[25, 25] }, type := 25, pos := "law.go:137", after := _, guard := none }) rfl (fun K hK => ?_) AllReadyH.nil
          refine step_append_sl rfl (.tmp 34) (.tmp 36) _ rfl w5.heap.size 3 i0 _ 1 8 Try.underlying25 hi0 hz0 hz1 hz2 rfl (by omega) _ np _ rfl hV1 _ 1 _ rfl hU (by simp [Value.oneCell']) (by unfold maxLen; omega) (by omega) hBB.size ?_
          rintro v2 wz hV2 hgz -
          have hb := below_own hV1 hgz (Nat.le_refl _) hBB.size
          (try replace kG := kG.grown hgz (fun e => own_ne hV1 kG (by decide) e.symm))
          replace hBB := hBB.trans hb
          clear hgz hb hU hV1
          refine hK.out _ _ ?_ (fun hHeldcr5b56 => ?_)
          · exact HP5.out _ hBB
          clear hK K hHeldcr10b55
          try simp only [Act.put, List.setIfInBounds_toArray, List.set_cons_zero, List.set_cons_succ]
          refine wpAnyH_ready (rs := [6]) (by kernel_rfl) (by simp) ?_
          refine AllReadyH.cons (o := { dst := some 38, op := Op.call { callee := Callee.value (Operand.func 12), args := #[Operand.tmp 32, Operand.tmp 37], argTypes := #[24, 25] }, type := 35, pos := "law.go:137", after := _, guard := none }) rfl (fun K hK => ?_) AllReadyH.nil
          go_simp
          refine (HR5.out _ _ hBB (show Sl _ 1 _ (picks ++ [who]).length ((picks ++ [who]).flatMap encI) from by rw [List.length_append, ← HNP.out, List.flatMap_append]; exact Sl.of_own hV2)).mono ?_
          rintro e wz ⟨vs, rfl, hM, hb⟩
          (try replace kG := kG.keep hb)
          replace hBB := hBB.trans (hb.mono hBB.size)
          clear hV2 hb
          try go_wp2_with fail
          refine hK.out _ _ ?_ (fun hHeldcr6b57 => ?_)
          · exact HP5.out _ hBB
          clear hK K hHeldcr5b56
          try simp only [Act.put, List.setIfInBounds_toArray, List.set_cons_zero, List.set_cons_succ]
          refine wpAnyH_take (i := 7) (oi := { dst := some 31, op := Op.move (Operand.tmp 38), type := 35, pos := "law.go:137", after := _, guard := none }) (v := ?vcr7b58) rfl (by kernel_rfl) (by kernel_rfl) (by kernel_rfl) (fun _ _ _ h => h) (Or.inl ⟨by rfl, ?hycr7b58⟩) (by assumption) ?restcr7b58
          case hycr7b58 => (intro w hSw; (try dsimp only at hSw); go_simp <;> with_reducible rfl)
          try simp only [Act.put, List.setIfInBounds_toArray, List.set_cons_zero, List.set_cons_succ]
          refine wpAnyH_take (i := 8) (oi := { dst := some 39, op := Op.extract (Operand.tmp 31) 0, type := 34, pos := "law.go:137", after := _, guard := none }) (v := ?vcr8b59) rfl (by kernel_rfl) (by kernel_rfl) (by kernel_rfl) (fun _ _ _ h => h) (Or.inl ⟨by rfl, ?hycr8b59⟩) (by assumption) ?restcr8b59
          case hycr8b59 => (intro w hSw; (try dsimp only at hSw); go_simp <;> with_reducible rfl)
          try simp only [Act.put, List.setIfInBounds_toArray, List.set_cons_zero, List.set_cons_succ]
          refine wpAnyH_take (i := 9) (oi := { dst := some 40, op := Op.extract (Operand.tmp 31) 1, type := 4, pos := "law.go:137", after := _, guard := none }) (v := ?vcr9b60) rfl (by kernel_rfl) (by kernel_rfl) (by kernel_rfl) (fun _ _ _ h => h) (Or.inl ⟨by rfl, ?hycr9b60⟩) (by assumption) ?restcr9b60
          case hycr9b60 => (intro w hSw; (try dsimp only at hSw); go_simp <;> with_reducible rfl)
          try simp only [Act.put, List.setIfInBounds_toArray, List.set_cons_zero, List.set_cons_succ]
          refine wpAnyH_ready (rs := [11]) (by kernel_rfl) (by simp) ?_
          refine AllReadyH.cons (o := { dst := none, op := Op.store 34 (Operand.tmp 11) (Operand.tmp 39), type := 0, pos := "law.go:137", after := _, guard := none }) rfl (fun K hK => ?_) AllReadyH.nil
          refine step_store_mem g _ kG rfl vs hM.1 hM.2.1 (.tmp 11) (.tmp 39) (by rfl) rfl rfl rfl ?_
          rintro wz kG2 hgz
          replace hM := hM.box hgz kG
          replace hBB := hBB.grown hgz hBB.size (fun k hk => by injection hk with hk; omega)
          clear hgz kG
          refine hK.out _ _ ?_ (fun hHeldcr11b61 => ?_)
          · exact HP5.out _ hBB
          clear hK K hHeldcr6b57
          try simp only [Act.put, List.setIfInBounds_toArray, List.set_cons_zero, List.set_cons_succ]
          refine wpAnyH_ready (rs := [12]) (by kernel_rfl) (by simp) ?_
          refine AllReadyH.cons (o := { dst := some 12, op := Op.assign (Operand.tmp 40), type := 4, pos := "law.go:137", after := _, guard := none }) rfl (fun K hK => ?_) AllReadyH.nil
          go_simp
          skip
          refine hK.out _ _ ?_ (fun hHeldcr12b62 => ?_)
          · exact HP5.out _ hBB
          clear hK K hHeldcr11b61
          try simp only [Act.put, List.setIfInBounds_toArray, List.set_cons_zero, List.set_cons_succ]
          refine wpAnyH_done (by kernel_rfl) ?_ _
          go_wp2_with fail
          go_meet
          exact ⟨g, rfl, rfl, (show Hid _ from ⟨hgl, hBB, vs, hM, kG2⟩)⟩
        exact AllReadyH.nil
      refine AllReadyH.cons (o := { dst := some 11, op := Op.alloc 34, type := 0, pos := "law.go:137", after := _, guard := none }) rfl (fun K hK => ?_) ?_
      · (try rw [HWZ.out])
        go_simp
        have hb := Below.alloc (Below.refl wz.heap.size wz) (Nat.le_refl _) (.cells #[.slice none 0 0, .int .i64 0, .int .i64 0, .slice none 0 0, .slice none 0 0, .slice none 0 0, .int .i64 0] 34)
        have kG := Blk.new wz 34 #[.slice none 0 0, .int .i64 0, .int .i64 0, .slice none 0 0, .slice none 0 0, .slice none 0 0, .int .i64 0]
        have hgl := hBB.size
        obtain ⟨g, hgg⟩ : ∃ g, wz.heap.size = g := ⟨_, rfl⟩
        obtain ⟨wz, hwy⟩ : ∃ z, wz.alloc (.cells #[.slice none 0 0, .int .i64 0, .int .i64 0, .slice none 0 0, .slice none 0 0, .slice none 0 0, .int .i64 0] 34) = z := ⟨_, rfl⟩
        rw [hwy] at hb kG ⊢
        rw [hgg] at kG hgl ⊢
        (try replace hV1 := own_below hV1 hb)
        (try replace hV2 := own_below hV2 hb)
        (try replace hU := hU.below hb)
        (try replace hM := hM.below hb)
        replace hBB := hBB.trans (hb.mono hBB.size)
        clear hb hgg hwy
        refine hK.out _ _ ?_ (fun hHeldcr10b63 => ?_)
        · exact HP5.out _ hBB
        clear hK K hHeldcr4b38
        try simp only [Act.put, List.setIfInBounds_toArray, List.set_cons_zero, List.set_cons_succ]
        refine wpAnyH_ready (rs := [2]) (by kernel_rfl) (by simp) ?_
        refine AllReadyH.cons (o := { dst := some 34, op := Op.call { callee := Callee.builtin Builtin.append, args := #[Operand.const (Value.slice none 0 0), Operand.tmp 33], argTypes := #[25, 25] }, type := 25, pos := "law.go:137", after := _, guard := none }) rfl (fun K hK => ?_) AllReadyH.nil
        (try rw [HWZ.out])
        refine step_append_sl rfl (.const (.slice none 0 0)) (.tmp 33) _ rfl w5.heap.size 3 i0 _ 1 8 Try.underlying25 hi0 hz0 hz1 hz2 rfl (by omega) (.slice none 0 0) 0 [] rfl (World.ownsRow_nil _ _ _ _) (.slice kA np kc) np _ rfl (HK5.out _ hBB) HONE.out (by unfold maxLen; omega) (by omega) hBB.size ?_
        rintro v1 wz hV1 hgz -
        have hb := below_grown_none hgz
        simp only [Nat.zero_add, List.nil_append] at hV1
        (try replace hU := hU.below hb)
        (try replace kG := kG.keep hb)
        replace hBB := hBB.trans (hb.mono hBB.size)
        clear hgz hb
        refine hK.out _ _ ?_ (fun hHeldcr2b64 => ?_)
        · exact HP5.out _ hBB
        clear hK K hHeldcr10b63
        try simp only [Act.put, List.setIfInBounds_toArray, List.set_cons_zero, List.set_cons_succ]
        refine wpAnyH_ready (rs := [5]) (by kernel_rfl) (by simp) ?_
        refine AllReadyH.cons (o := { dst := some 37, op := Op.call { callee := Callee.builtin Builtin.append, args := #[Operand.tmp 34, Operand.tmp 36], argTypes := #[25, 25] }, type := 25, pos := "law.go:137", after := _, guard := none }) rfl (fun K hK => ?_) AllReadyH.nil
        refine step_append_sl rfl (.tmp 34) (.tmp 36) _ rfl w5.heap.size 3 i0 _ 1 8 Try.underlying25 hi0 hz0 hz1 hz2 rfl (by omega) _ np _ rfl hV1 _ 1 _ rfl hU (by simp [Value.oneCell']) (by unfold maxLen; omega) (by omega) hBB.size ?_
        rintro v2 wz hV2 hgz -
        have hb := below_own hV1 hgz (Nat.le_refl _) hBB.size
        (try replace kG := kG.grown hgz (fun e => own_ne hV1 kG (by decide) e.symm))
        replace hBB := hBB.trans hb
        clear hgz hb hU hV1
        refine hK.out _ _ ?_ (fun hHeldcr5b65 => ?_)
        · exact HP5.out _ hBB
        clear hK K hHeldcr2b64
        try simp only [Act.put, List.setIfInBounds_toArray, List.set_cons_zero, List.set_cons_succ]
        refine wpAnyH_ready (rs := [6]) (by kernel_rfl) (by simp) ?_
        refine AllReadyH.cons (o := { dst := some 38, op := Op.call { callee := Callee.value (Operand.func 12), args := #[Operand.tmp 32, Operand.tmp 37], argTypes := #[24, 25] }, type := 35, pos := "law.go:137", after := _, guard := none }) rfl (fun K hK => ?_) AllReadyH.nil
        go_simp
        refine (HR5.out _ _ hBB (show Sl _ 1 _ (picks ++ [who]).length ((picks ++ [who]).flatMap encI) from by rw [List.length_append, ← HNP.out, List.flatMap_append]; exact Sl.of_own hV2)).mono ?_
        rintro e wz ⟨vs, rfl, hM, hb⟩
        (try replace kG := kG.keep hb)
        replace hBB := hBB.trans (hb.mono hBB.size)
        clear hV2 hb
        try go_wp2_with fail
        refine hK.out _ _ ?_ (fun hHeldcr6b66 => ?_)
        · exact HP5.out _ hBB
        clear hK K hHeldcr5b65
        try simp only [Act.put, List.setIfInBounds_toArray, List.set_cons_zero, List.set_cons_succ]
        refine wpAnyH_take (i := 7) (oi := { dst := some 31, op := Op.move (Operand.tmp 38), type := 35, pos := "law.go:137", after := _, guard := none }) (v := ?vcr7b67) rfl (by kernel_rfl) (by kernel_rfl) (by kernel_rfl) (fun _ _ _ h => h) (Or.inl ⟨by rfl, ?hycr7b67⟩) (by assumption) ?restcr7b67
        case hycr7b67 => (intro w hSw; (try dsimp only at hSw); go_simp <;> with_reducible rfl)
        try simp only [Act.put, List.setIfInBounds_toArray, List.set_cons_zero, List.set_cons_succ]
        refine wpAnyH_take (i := 8) (oi := { dst := some 39, op := Op.extract (Operand.tmp 31) 0, type := 34, pos := "law.go:137", after := _, guard := none }) (v := ?vcr8b68) rfl (by kernel_rfl) (by kernel_rfl) (by kernel_rfl) (fun _ _ _ h => h) (Or.inl ⟨by rfl, ?hycr8b68⟩) (by assumption) ?restcr8b68
        case hycr8b68 => (intro w hSw; (try dsimp only at hSw); go_simp <;> with_reducible rfl)
        try simp only [Act.put, List.setIfInBounds_toArray, List.set_cons_zero, List.set_cons_succ]
        refine wpAnyH_take (i := 9) (oi := { dst := some 40, op := Op.extract (Operand.tmp 31) 1, type := 4, pos := "law.go:137", after := _, guard := none }) (v := ?vcr9b69) rfl (by kernel_rfl) (by kernel_rfl) (by kernel_rfl) (fun _ _ _ h => h) (Or.inl ⟨by rfl, ?hycr9b69⟩) (by assumption) ?restcr9b69
        case hycr9b69 => (intro w hSw; (try dsimp only at hSw); go_simp <;> with_reducible rfl)
        try simp only [Act.put, List.setIfInBounds_toArray, List.set_cons_zero, List.set_cons_succ]
        refine wpAnyH_ready (rs := [11]) (by kernel_rfl) (by simp) ?_
        refine AllReadyH.cons (o := { dst := none, op := Op.store 34 (Operand.tmp 11) (Operand.tmp 39), type := 0, pos := "law.go:137", after := _, guard := none }) rfl (fun K hK => ?_) AllReadyH.nil
        refine step_store_mem g _ kG rfl vs hM.1 hM.2.1 (.tmp 11) (.tmp 39) (by rfl) rfl rfl rfl ?_
        rintro wz kG2 hgz
        replace hM := hM.box hgz kG
        replace hBB := hBB.grown hgz hBB.size (fun k hk => by injection hk with hk; omega)
        clear hgz kG
        refine hK.out _ _ ?_ (fun hHeldcr11b70 => ?_)
        · exact HP5.out _ hBB
        clear hK K hHeldcr6b66
        try simp only [Act.put, List.setIfInBounds_toArray, List.set_cons_zero, List.set_cons_succ]
        refine wpAnyH_ready (rs := [12]) (by kernel_rfl) (by simp) ?_
        refine AllReadyH.cons (o := { dst := some 12, op := Op.assign (Operand.tmp 40), type := 4, pos := "law.go:137", after := _, guard := none }) rfl (fun K hK => ?_) AllReadyH.nil
        go_simp
        skip
        refine hK.out _ _ ?_ (fun hHeldcr12b71 => ?_)
        · exact HP5.out _ hBB
        clear hK K hHeldcr11b70
        try simp only [Act.put, List.setIfInBounds_toArray, List.set_cons_zero, List.set_cons_succ]
        refine wpAnyH_done (by kernel_rfl) ?_ _
        go_wp2_with fail
        go_meet
        exact ⟨g, rfl, rfl, (show Hid _ from ⟨hgl, hBB, vs, hM, kG2⟩)⟩
      exact AllReadyH.nil
    refine AllReadyH.cons (o := { dst := some 11, op := Op.alloc 34, type := 0, pos := "law.go:137", after := _, guard := none }) rfl (fun K hK => ?_) ?_
    · (try rw [HWZ.out])
      go_simp
      have hb := Below.alloc (Below.refl wz.heap.size wz) (Nat.le_refl _) (.cells #[.slice none 0 0, .int .i64 0, .int .i64 0, .slice none 0 0, .slice none 0 0, .slice none 0 0, .int .i64 0] 34)
      have kG := Blk.new wz 34 #[.slice none 0 0, .int .i64 0, .int .i64 0, .slice none 0 0, .slice none 0 0, .slice none 0 0, .int .i64 0]
      have hgl := hBB.size
      obtain ⟨g, hgg⟩ : ∃ g, wz.heap.size = g := ⟨_, rfl⟩
      obtain ⟨wz, hwy⟩ : ∃ z, wz.alloc (.cells #[.slice none 0 0, .int .i64 0, .int .i64 0, .slice none 0 0, .slice none 0 0, .slice none 0 0, .int .i64 0] 34) = z := ⟨_, rfl⟩
      rw [hwy] at hb kG ⊢
      rw [hgg] at kG hgl ⊢
      (try replace hV1 := own_below hV1 hb)
      (try replace hV2 := own_below hV2 hb)
      (try replace hU := hU.below hb)
      (try replace hM := hM.below hb)
      replace hBB := hBB.trans (hb.mono hBB.size)
      clear hb hgg hwy
      refine hK.out _ _ ?_ (fun hHeldcr10b72 => ?_)
      · exact HP5.out _ hBB
      clear hK K hHeldcr
      try simp only [Act.put, List.setIfInBounds_toArray, List.set_cons_zero, List.set_cons_succ]
      refine wpAnyH_ready (rs := [2, 4]) (by kernel_rfl) (by simp) ?_
      refine AllReadyH.cons (o := { dst := some 34, op := Op.call { callee := Callee.builtin Builtin.append, args := #[Operand.const (Value.slice none 0 0), Operand.tmp 33], argTypes := #[25, 25] }, type := 25, pos := "law.go:137", after := _, guard := none }) rfl (fun K hK => ?_) ?_
      · (try rw [HWZ.out])
        refine step_append_sl rfl (.const (.slice none 0 0)) (.tmp 33) _ rfl w5.heap.size 3 i0 _ 1 8 Try.underlying25 hi0 hz0 hz1 hz2 rfl (by omega) (.slice none 0 0) 0 [] rfl (World.ownsRow_nil _ _ _ _) (.slice kA np kc) np _ rfl (HK5.out _ hBB) HONE.out (by unfold maxLen; omega) (by omega) hBB.size ?_
        rintro v1 wz hV1 hgz -
        have hb := below_grown_none hgz
        simp only [Nat.zero_add, List.nil_append] at hV1
        (try replace hU := hU.below hb)
        (try replace kG := kG.keep hb)
        replace hBB := hBB.trans (hb.mono hBB.size)
        clear hgz hb
        refine hK.out _ _ ?_ (fun hHeldcr2b73 => ?_)
        · exact HP5.out _ hBB
        clear hK K hHeldcr10b72
        try simp only [Act.put, List.setIfInBounds_toArray, List.set_cons_zero, List.set_cons_succ]
        refine wpAnyH_ready (rs := [4]) (by kernel_rfl) (by simp) ?_
        refine AllReadyH.cons (o := { dst := some 36, op := Op.buildSlice 25 1 #[(0, Operand.tmp 35)], type := 25, pos := "law.go:137", after := _, guard := none }) rfl (fun K hK => ?_) AllReadyH.nil
        (try rw [HWZ.out])
        go_simp
        have hb := Below.alloc (Below.refl wz.heap.size wz) (Nat.le_refl _) (.cells #[.int .i64 who] 3)
        have hU0 := Blk.new wz 3 #[.int .i64 who]
        obtain ⟨gu, hgu⟩ : ∃ g, wz.heap.size = g := ⟨_, rfl⟩
        obtain ⟨wz, hwy⟩ : ∃ z, wz.alloc (.cells #[.int .i64 who] 3) = z := ⟨_, rfl⟩
        rw [hwy] at hb hU0 ⊢
        rw [hgu] at hU0 ⊢
        (try replace hV1 := own_below hV1 hb)
        (try replace hV2 := own_below hV2 hb)
        (try replace hU := hU.below hb)
        (try replace hM := hM.below hb)
        (try replace kG := kG.keep hb)
        replace hBB := hBB.trans (hb.mono hBB.size)
        have hU := slI_one hU0
        clear hb hU0 hgu hwy
        refine hK.out _ _ ?_ (fun hHeldcr4b74 => ?_)
        · exact HP5.out _ hBB
        clear hK K hHeldcr2b73
        try simp only [Act.put, List.setIfInBounds_toArray, List.set_cons_zero, List.set_cons_succ]
        refine wpAnyH_ready (rs := [5]) (by kernel_rfl) (by simp) ?_
        refine AllReadyH.cons (o := { dst := some 37, op := Op.call { callee := Callee.builtin Builtin.append, args := #[Operand.tmp 34, Operand.tmp 36], argTypes := #[25, 25] }, type := 25, pos := "law.go:137", after := _, guard := none }) rfl (fun K hK => ?_) AllReadyH.nil
        refine step_append_sl rfl (.tmp 34) (.tmp 36) _ rfl w5.heap.size 3 i0 _ 1 8 Try.underlying25 hi0 hz0 hz1 hz2 rfl (by omega) _ np _ rfl hV1 _ 1 _ rfl hU (by simp [Value.oneCell']) (by unfold maxLen; omega) (by omega) hBB.size ?_
        rintro v2 wz hV2 hgz -
        have hb := below_own hV1 hgz (Nat.le_refl _) hBB.size
        (try replace kG := kG.grown hgz (fun e => own_ne hV1 kG (by decide) e.symm))
        replace hBB := hBB.trans hb
        clear hgz hb hU hV1
        refine hK.out _ _ ?_ (fun hHeldcr5b75 => ?_)
        · exact HP5.out _ hBB
        clear hK K hHeldcr4b74
        try simp only [Act.put, List.setIfInBounds_toArray, List.set_cons_zero, List.set_cons_succ]
        refine wpAnyH_ready (rs := [6]) (by kernel_rfl) (by simp) ?_
        refine AllReadyH.cons (o := { dst := some 38, op := Op.call { callee := Callee.value (Operand.func 12), args := #[Operand.tmp 32, Operand.tmp 37], argTypes := #[24, 25] }, type := 35, pos := "law.go:137", after := _, guard := none }) rfl (fun K hK => ?_) AllReadyH.nil
        go_simp
        refine (HR5.out _ _ hBB (show Sl _ 1 _ (picks ++ [who]).length ((picks ++ [who]).flatMap encI) from by rw [List.length_append, ← HNP.out, List.flatMap_append]; exact Sl.of_own hV2)).mono ?_
        rintro e wz ⟨vs, rfl, hM, hb⟩
        (try replace kG := kG.keep hb)
        replace hBB := hBB.trans (hb.mono hBB.size)
        clear hV2 hb
        try go_wp2_with fail
        refine hK.out _ _ ?_ (fun hHeldcr6b76 => ?_)
        · exact HP5.out _ hBB
        clear hK K hHeldcr5b75
        try simp only [Act.put, List.setIfInBounds_toArray, List.set_cons_zero, List.set_cons_succ]
        refine wpAnyH_take (i := 7) (oi := { dst := some 31, op := Op.move (Operand.tmp 38), type := 35, pos := "law.go:137", after := _, guard := none }) (v := ?vcr7b77) rfl (by kernel_rfl) (by kernel_rfl) (by kernel_rfl) (fun _ _ _ h => h) (Or.inl ⟨by rfl, ?hycr7b77⟩) (by assumption) ?restcr7b77
        case hycr7b77 => (intro w hSw; (try dsimp only at hSw); go_simp <;> with_reducible rfl)
        try simp only [Act.put, List.setIfInBounds_toArray, List.set_cons_zero, List.set_cons_succ]
        refine wpAnyH_take (i := 8) (oi := { dst := some 39, op := Op.extract (Operand.tmp 31) 0, type := 34, pos := "law.go:137", after := _, guard := none }) (v := ?vcr8b78) rfl (by kernel_rfl) (by kernel_rfl) (by kernel_rfl) (fun _ _ _ h => h) (Or.inl ⟨by rfl, ?hycr8b78⟩) (by assumption) ?restcr8b78
        case hycr8b78 => (intro w hSw; (try dsimp only at hSw); go_simp <;> with_reducible rfl)
        try simp only [Act.put, List.setIfInBounds_toArray, List.set_cons_zero, List.set_cons_succ]
        refine wpAnyH_take (i := 9) (oi := { dst := some 40, op := Op.extract (Operand.tmp 31) 1, type := 4, pos := "law.go:137", after := _, guard := none }) (v := ?vcr9b79) rfl (by kernel_rfl) (by kernel_rfl) (by kernel_rfl) (fun _ _ _ h => h) (Or.inl ⟨by rfl, ?hycr9b79⟩) (by assumption) ?restcr9b79
        case hycr9b79 => (intro w hSw; (try dsimp only at hSw); go_simp <;> with_reducible rfl)
        try simp only [Act.put, List.setIfInBounds_toArray, List.set_cons_zero, List.set_cons_succ]
        refine wpAnyH_ready (rs := [11]) (by kernel_rfl) (by simp) ?_
        refine AllReadyH.cons (o := { dst := none, op := Op.store 34 (Operand.tmp 11) (Operand.tmp 39), type := 0, pos := "law.go:137", after := _, guard := none }) rfl (fun K hK => ?_) AllReadyH.nil
        refine step_store_mem g _ kG rfl vs hM.1 hM.2.1 (.tmp 11) (.tmp 39) (by rfl) rfl rfl rfl ?_
        rintro wz kG2 hgz
        replace hM := hM.box hgz kG
        replace hBB := hBB.grown hgz hBB.size (fun k hk => by injection hk with hk; omega)
        clear hgz kG
        refine hK.out _ _ ?_ (fun hHeldcr11b80 => ?_)
        · exact HP5.out _ hBB
        clear hK K hHeldcr6b76
        try simp only [Act.put, List.setIfInBounds_toArray, List.set_cons_zero, List.set_cons_succ]
        refine wpAnyH_ready (rs := [12]) (by kernel_rfl) (by simp) ?_
        refine AllReadyH.cons (o := { dst := some 12, op := Op.assign (Operand.tmp 40), type := 4, pos := "law.go:137", after := _, guard := none }) rfl (fun K hK => ?_) AllReadyH.nil
        go_simp
        skip
        refine hK.out _ _ ?_ (fun hHeldcr12b81 => ?_)
        · exact HP5.out _ hBB
        clear hK K hHeldcr11b80
        try simp only [Act.put, List.setIfInBounds_toArray, List.set_cons_zero, List.set_cons_succ]
        refine wpAnyH_done (by kernel_rfl) ?_ _
        go_wp2_with fail
        go_meet
        exact ⟨g, rfl, rfl, (show Hid _ from ⟨hgl, hBB, vs, hM, kG2⟩)⟩
      refine AllReadyH.cons (o := { dst := some 36, op := Op.buildSlice 25 1 #[(0, Operand.tmp 35)], type := 25, pos := "law.go:137", after := _, guard := none }) rfl (fun K hK => ?_) ?_
      · (try rw [HWZ.out])
        go_simp
        have hb := Below.alloc (Below.refl wz.heap.size wz) (Nat.le_refl _) (.cells #[.int .i64 who] 3)
        have hU0 := Blk.new wz 3 #[.int .i64 who]
        obtain ⟨gu, hgu⟩ : ∃ g, wz.heap.size = g := ⟨_, rfl⟩
        obtain ⟨wz, hwy⟩ : ∃ z, wz.alloc (.cells #[.int .i64 who] 3) = z := ⟨_, rfl⟩
        rw [hwy] at hb hU0 ⊢
        rw [hgu] at hU0 ⊢
        (try replace hV1 := own_below hV1 hb)
        (try replace hV2 := own_below hV2 hb)
        (try replace hU := hU.below hb)
        (try replace hM := hM.below hb)
        (try replace kG := kG.keep hb)
        replace hBB := hBB.trans (hb.mono hBB.size)
        have hU := slI_one hU0
        clear hb hU0 hgu hwy
        refine hK.out _ _ ?_ (fun hHeldcr4b82 => ?_)
        · exact HP5.out _ hBB
        clear hK K hHeldcr10b72
        try simp only [Act.put, List.setIfInBounds_toArray, List.set_cons_zero, List.set_cons_succ]
        refine wpAnyH_ready (rs := [2]) (by kernel_rfl) (by simp) ?_
        refine AllReadyH.cons (o := { dst := some 34, op := Op.call { callee := Callee.builtin Builtin.append, args := #[Operand.const (Value.slice none 0 0), Operand.tmp 33], argTypes := #[25, 25] }, type := 25, pos := "law.go:137", after := _, guard := none }) rfl (fun K hK => ?_) AllReadyH.nil
        (try rw [HWZ.out])
        refine step_append_sl rfl (.const (.slice none 0 0)) (.tmp 33) _ rfl w5.heap.size 3 i0 _ 1 8 Try.underlying25 hi0 hz0 hz1 hz2 rfl (by omega) (.slice none 0 0) 0 [] rfl (World.ownsRow_nil _ _ _ _) (.slice kA np kc) np _ rfl (HK5.out _ hBB) HONE.out (by unfold maxLen; omega) (by omega) hBB.size ?_
        rintro v1 wz hV1 hgz -
        have hb := below_grown_none hgz
        simp only [Nat.zero_add, List.nil_append] at hV1
        (try replace hU := hU.below hb)
        (try replace kG := kG.keep hb)
        replace hBB := hBB.trans (hb.mono hBB.size)
        clear hgz hb
        refine hK.out _ _ ?_ (fun hHeldcr2b83 => ?_)
        · exact HP5.out _ hBB
        clear hK K hHeldcr4b82
        try simp only [Act.put, List.setIfInBounds_toArray, List.set_cons_zero, List.set_cons_succ]
        refine wpAnyH_ready (rs := [5]) (by kernel_rfl) (by simp) ?_
        refine AllReadyH.cons (o := { dst := some 37, op := Op.call { callee := Callee.builtin Builtin.append, args := #[Operand.tmp 34, Operand.tmp 36], argTypes := #[25, 25] }, type := 25, pos := "law.go:137", after := _, guard := none }) rfl (fun K hK => ?_) AllReadyH.nil
        refine step_append_sl rfl (.tmp 34) (.tmp 36) _ rfl w5.heap.size 3 i0 _ 1 8 Try.underlying25 hi0 hz0 hz1 hz2 rfl (by omega) _ np _ rfl hV1 _ 1 _ rfl hU (by simp [Value.oneCell']) (by unfold maxLen; omega) (by omega) hBB.size ?_
        rintro v2 wz hV2 hgz -
        have hb := below_own hV1 hgz (Nat.le_refl _) hBB.size
        (try replace kG := kG.grown hgz (fun e => own_ne hV1 kG (by decide) e.symm))
        replace hBB := hBB.trans hb
        clear hgz hb hU hV1
        refine hK.out _ _ ?_ (fun hHeldcr5b84 => ?_)
        · exact HP5.out _ hBB
        clear hK K hHeldcr2b83
        try simp only [Act.put, List.setIfInBounds_toArray, List.set_cons_zero, List.set_cons_succ]
        refine wpAnyH_ready (rs := [6]) (by kernel_rfl) (by simp) ?_
        refine AllReadyH.cons (o := { dst := some 38, op := Op.call { callee := Callee.value (Operand.func 12), args := #[Operand.tmp 32, Operand.tmp 37], argTypes := #[24, 25] }, type := 35, pos := "law.go:137", after := _, guard := none }) rfl (fun K hK => ?_) AllReadyH.nil
        go_simp
        refine (HR5.out _ _ hBB (show Sl _ 1 _ (picks ++ [who]).length ((picks ++ [who]).flatMap encI) from by rw [List.length_append, ← HNP.out, List.flatMap_append]; exact Sl.of_own hV2)).mono ?_
        rintro e wz ⟨vs, rfl, hM, hb⟩
        (try replace kG := kG.keep hb)
        replace hBB := hBB.trans (hb.mono hBB.size)
        clear hV2 hb
        try go_wp2_with fail
        refine hK.out _ _ ?_ (fun hHeldcr6b85 => ?_)
        · exact HP5.out _ hBB
        clear hK K hHeldcr5b84
        try simp only [Act.put, List.setIfInBounds_toArray, List.set_cons_zero, List.set_cons_succ]
        refine wpAnyH_take (i := 7) (oi := { dst := some 31, op := Op.move (Operand.tmp 38), type := 35, pos := "law.go:137", after := _, guard := none }) (v := ?vcr7b86) rfl (by kernel_rfl) (by kernel_rfl) (by kernel_rfl) (fun _ _ _ h => h) (Or.inl ⟨by rfl, ?hycr7b86⟩) (by assumption) ?restcr7b86
        case hycr7b86 => (intro w hSw; (try dsimp only at hSw); go_simp <;> with_reducible rfl)
        try simp only [Act.put, List.setIfInBounds_toArray, List.set_cons_zero, List.set_cons_succ]
        refine wpAnyH_take (i := 8) (oi := { dst := some 39, op := Op.extract (Operand.tmp 31) 0, type := 34, pos := "law.go:137", after := _, guard := none }) (v := ?vcr8b87) rfl (by kernel_rfl) (by kernel_rfl) (by kernel_rfl) (fun _ _ _ h => h) (Or.inl ⟨by rfl, ?hycr8b87⟩) (by assumption) ?restcr8b87
        case hycr8b87 => (intro w hSw; (try dsimp only at hSw); go_simp <;> with_reducible rfl)
        try simp only [Act.put, List.setIfInBounds_toArray, List.set_cons_zero, List.set_cons_succ]
        refine wpAnyH_take (i := 9) (oi := { dst := some 40, op := Op.extract (Operand.tmp 31) 1, type := 4, pos := "law.go:137", after := _, guard := none }) (v := ?vcr9b88) rfl (by kernel_rfl) (by kernel_rfl) (by kernel_rfl) (fun _ _ _ h => h) (Or.inl ⟨by rfl, ?hycr9b88⟩) (by assumption) ?restcr9b88
        case hycr9b88 => (intro w hSw; (try dsimp only at hSw); go_simp <;> with_reducible rfl)
        try simp only [Act.put, List.setIfInBounds_toArray, List.set_cons_zero, List.set_cons_succ]
        refine wpAnyH_ready (rs := [11]) (by kernel_rfl) (by simp) ?_
        refine AllReadyH.cons (o := { dst := none, op := Op.store 34 (Operand.tmp 11) (Operand.tmp 39), type := 0, pos := "law.go:137", after := _, guard := none }) rfl (fun K hK => ?_) AllReadyH.nil
        refine step_store_mem g _ kG rfl vs hM.1 hM.2.1 (.tmp 11) (.tmp 39) (by rfl) rfl rfl rfl ?_
        rintro wz kG2 hgz
        replace hM := hM.box hgz kG
        replace hBB := hBB.grown hgz hBB.size (fun k hk => by injection hk with hk; omega)
        clear hgz kG
        refine hK.out _ _ ?_ (fun hHeldcr11b89 => ?_)
        · exact HP5.out _ hBB
        clear hK K hHeldcr6b85
        try simp only [Act.put, List.setIfInBounds_toArray, List.set_cons_zero, List.set_cons_succ]
        refine wpAnyH_ready (rs := [12]) (by kernel_rfl) (by simp) ?_
        refine AllReadyH.cons (o := { dst := some 12, op := Op.assign (Operand.tmp 40), type := 4, pos := "law.go:137", after := _, guard := none }) rfl (fun K hK => ?_) AllReadyH.nil
        go_simp
        skip
        refine hK.out _ _ ?_ (fun hHeldcr12b90 => ?_)
        · exact HP5.out _ hBB
        clear hK K hHeldcr11b89
        try simp only [Act.put, List.setIfInBounds_toArray, List.set_cons_zero, List.set_cons_succ]
        refine wpAnyH_done (by kernel_rfl) ?_ _
        go_wp2_with fail
        go_meet
        exact ⟨g, rfl, rfl, (show Hid _ from ⟨hgl, hBB, vs, hM, kG2⟩)⟩
      exact AllReadyH.nil
    exact AllReadyH.nil
  case rest =>
    obtain ⟨g, rfl, rfl, HC⟩ := hcut
    obtain ⟨hgl, hBC, vs, hM, kG⟩ := HC.out
    obtain ⟨-, -, hM⟩ := hM
    obtain ⟨a2, m2, rfl, hm2, her2⟩ := hM rfl
    have HBC := Lib.hid hBC
    have HM2 := Lib.hid hm2
    have HKG := Lib.hid kG
    have hz5 : w5.heap.size ≤ wc.heap.size := hBC.size
    have hwu : words = (wn : Int) := HWN.out
    have HEQ := Lib.hid (show idleL pl m who = memEq { m2 with time := m.time } m from pick_eq HGO.out HER.out (by rw [her2, hwu, Int.toNat_natCast, pick_run]))
    clear HC hm2 her2 kG hBC hM hwu
    obtain ⟨m0, m1, m2', m3, m4, m5, m6⟩ := HG.out _ HBC.out
    obtain ⟨p0, p1, p2⟩ := HP5.out _ HBC.out
    go_wp2_with fail
    refine (HID.out _ HBC.out).mono ?_
    rintro e w7 ⟨rfl, hb7⟩
    have HB7 := Lib.hid (HBC.out.trans (hb7.mono HBC.out.size))
    have HKG7 := Lib.hid (HKG.out.keep hb7)
    have HM7 := Lib.hid (HM2.out.below hb7)
    clear hb7 m0 m1 m2' m3 m4 m5 m6 p0 p1 p2 HM2 HKG
    obtain ⟨id, hid⟩ : ∃ z, z = idleL pl m who := ⟨_, rfl⟩
    rw [← hid] at HEQ ⊢
    have HIDD := Lib.hid hid
    clear hid
    obtain ⟨m0, m1, m2', m3, m4, m5, m6⟩ := HG.out _ HB7.out
    have f6 : w7.frozen? ⟨g, 6, none⟩ = false := HKG7.out.free 6
    have l7 : g < w7.heap.size := HKG7.out.lt
    have c6 : w7.cell? ⟨g, 6, none⟩ = some (.int .i64 m2.time) := by rw [HKG7.out.cell]; rfl
    have HK8 := Lib.hid (HKG7.out.set_ 6 (.int .i64 m.time))
    have HM8 := Lib.hid (HM7.out.box (grown_setCell w7 ⟨g, 6, none⟩ (.int .i64 m.time)) HKG7.out)
    have HB8 := Lib.hid (HB7.out.setCell (p := ⟨g, 6, none⟩) hgl (.int .i64 m.time))
    go_upto_region 11 with fail
    obtain ⟨w8, hw8⟩ : ∃ z, w7.setCell ⟨g, 6, none⟩ (.int .i64 m.time) = z := ⟨_, rfl⟩
    rw [hw8] at HK8 HM8 HB8 ⊢
    clear f6 l7 c6 m0 m1 m2' m3 m4 m5 m6 hw8
    have kG := HK8.out
    have q0 : w8.cell? ⟨g, 0, none⟩ = some (.slice (some ⟨a2.gW, 0, none⟩) m2.W.length a2.cW) := by rw [kG.cell]; rfl
    have q1 : w8.cell? ⟨g, 1, none⟩ = some (.int .i64 m2.now) := by rw [kG.cell]; rfl
    have q2 : w8.cell? ⟨g, 2, none⟩ = some (.int .i64 m2.mx) := by rw [kG.cell]; rfl
    have q3 : w8.cell? ⟨g, 3, none⟩ = some (.slice a2.lA m2.L.length a2.lc) := by rw [kG.cell]; rfl
    have q4 : w8.cell? ⟨g, 4, none⟩ = some (.slice (some ⟨a2.gT, 0, none⟩) m2.T.length a2.cT) := by rw [kG.cell]; rfl
    have q5 : w8.cell? ⟨g, 5, none⟩ = some (.slice a2.hA m2.H.length a2.hc) := by rw [kG.cell]; rfl
    have q6 : w8.cell? ⟨g, 6, none⟩ = some (.int .i64 m.time) := by rw [kG.cell]; rfl
    have hs8 := HSM.out a2 { m2 with time := m.time } w8 ⟨HM8.out.mem.W, HM8.out.mem.L, HM8.out.mem.T, HM8.out.mem.H, HM8.out.mem.ts, HM8.out.mem.hs⟩ HB8.out
    rw [← HEQ.out] at hs8
    simp only [memCells] at hs8
    rw [HTN.out] at hs8
    have HS8 := Lib.hid hs8
    obtain ⟨m0, m1, m2', m3, m4, m5, m6⟩ := HG.out _ HB8.out
    clear kG hs8
    go_wp2_with fail
    refine HS8.out.mono ?_
    rintro e w9 ⟨rfl, hb9⟩
    have HB9 := Lib.hid (HB8.out.trans (hb9.mono HB8.out.size))
    clear q0 q1 q2 q3 q4 q5 q6 m0 m1 m2' m3 m4 m5 m6 hb9
    have hii : (id == id) = true := by simp
    go_wp2_with fail
    go_ret
    exact ⟨rfl, HB1.out.trans ((HB5.out.trans (HB9.out.mono HB5.out.size)).mono HB1.out.size)⟩
end Go.Proofs.Ytngimbfojccikaa

