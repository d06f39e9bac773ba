/- StmLocks: printed by st_locks.py. -/
import Derived.Test.YtngimbfojccikaaStLawOrder
import Derived.Test.YtngimbfojccikaaStLock
namespace Go.Proofs.Ytngimbfojccikaa
set_option linter.unusedSimpArgs false
open Go Go.RowKit
set_option linter.unusedVariables false

theorem lock_er {m s : Mm} (h : LockI s) (he : m.er = s.er) : LockI m := by
  have hL : m.L = s.L := show m.er.L = s.er.L by rw [he]
  refine ⟨fun k t a l hk hl => ?_, fun a l hl => ?_, fun k t a l hk hl ho hs => ?_⟩
  · obtain ⟨u, hu, e⟩ := memer_T he hk
    rw [hL] at hl
    rw [h.own k u a l hu hl, show HeldBy u a ↔ HeldBy t a from by
      have e1 : u.st = t.st := by have := congrArg Tx.st e; exact this
      have e2 : u.i = t.i := by have := congrArg Tx.i e; exact this
      have e3 : u.W = t.W := by have := congrArg Tx.W e; exact this
      unfold HeldBy
      rw [e1, e2, e3]]
  · rw [hL] at hl
    rcases h.who a l hl with h1 | ⟨k, t, h1, h2⟩
    · exact .inl h1
    · obtain ⟨u, hu, _⟩ := memer_T he.symm h2
      exact .inr ⟨k, u, h1, hu⟩
  · obtain ⟨u, hu, e⟩ := memer_T he hk
    rw [hL] at hl
    have e1 : u.st = t.st := by have := congrArg Tx.st e; exact this
    have e2 : u.wv = t.wv := by have := congrArg Tx.wv e; exact this
    have := h.ver k u a l hu hl ho (by omega)
    omega
/-- Who holds a lock is at it. -/
theorem lock_held {words : Nat} {pl : List (List (List Ac))} {m : Mm} (hg : Good words pl m) (h : LockI m) {a : Nat} {l : Lk} (hl : m.L[a]? = some l) (h0 : 0 ≤ l.o) : ∃ (k : Nat) (t : Tx) (txs : List (List Ac)), l.o = (k : Int) ∧ m.T[k]? = some t ∧ pl[k]? = some txs ∧ 2 ≤ t.st ∧ t.tx < (txs.length : Int) := by
  rcases h.who a l hl with h1 | ⟨k, t, h1, h2⟩
  · omega
  · have hk := (List.getElem?_eq_some_iff.1 h2).1
    rw [hg.T] at hk
    have hh := (h.own k t a l h2 hl).1 h1
    have hs : 2 ≤ t.st := Decidable.byContradiction fun hc => HeldBy.low (by omega) hh
    exact ⟨k, t, pl[k], h1, h2, List.getElem?_eq_getElem hk, hs, (hg.ts k t _ h2 (List.getElem?_eq_getElem hk)).x2 (by omega)⟩

set_option maxRecDepth 100000 in
set_option maxHeartbeats 16000000 in
theorem stmLocks_walk (w : World) (words mx : Int) (pv : Value) (pl : List (List (List Ac))) (hpl : PlV w pv pl) (ww : okI words) (wm : okI mx) (kv : Value) (picks : List Int) (hkv : Sl w 1 kv picks.length (picks.flatMap encI)) (hok : ∀ q ∈ picks, okI q) :
    Calls Try.prog 4 #[planV words mx pv, kv] w fun e w' => e = .returned (.bool true) ∧ Below w.heap.size w w' := by
  obtain ⟨A, c, rfl, _, _⟩ := hpl.form
  obtain ⟨kA, kc, rfl, _, _⟩ := hkv.form
  have kP := Blk.new_ w 24 #[.int .i64 words, .int .i64 mx, .slice A pl.length c] _ rfl
  have bP : Below w.heap.size w (w.alloc (.cells #[.int .i64 words, .int .i64 mx, .slice A pl.length c] 24)) := (Below.refl _ w).alloc (Nat.le_refl _) _
  obtain ⟨w1, hw1⟩ : ∃ z, w.alloc (.cells #[.int .i64 words, .int .i64 mx, .slice A pl.length c] 24) = z := ⟨_, rfl⟩
  rw [hw1] at kP bP
  have HB1 := Lib.hid bP
  have HP := Lib.hid (fun W (hb : Below w1.heap.size w1 W) => (show W.cell? ⟨w.heap.size, 0, none⟩ = some (.int .i64 words) ∧ W.cell? ⟨w.heap.size, 1, none⟩ = some (.int .i64 mx) ∧ W.cell? ⟨w.heap.size, 2, none⟩ = some (.slice A pl.length c) from ⟨by rw [(kP.keep hb).cell]; rfl, by rw [(kP.keep hb).cell]; rfl, by rw [(kP.keep hb).cell]; rfl⟩))
  have HPV := Lib.hid (fun W (hb : Below w1.heap.size w1 W) => (hpl.below bP).below hb)
  have HKV := Lib.hid (fun W (hb : Below w1.heap.size w1 W) => (hkv.below bP).below hb)
  have HF := Lib.hid (fun W (hb : Below w1.heap.size w1 W) => few19_any words mx pl _ kA picks.length kc W (HPV.out W hb))
  have HRN := Lib.hid (fun (h : mayP words mx pl = false) v W (hb : Below w1.heap.size w1 W) => run_no words mx pl _ v W (HPV.out W hb) h)
  have HRY := Lib.hid (fun (wn : Nat) (hw : words = (wn : Int)) (h : mayP words mx pl = true) v (l : List Int) (hl : l.length ≤ 900) W (hb : Below w1.heap.size w1 W) (hv : Sl W 1 v l.length (l.flatMap encI)) => (show Calls Try.prog 12 #[planV words mx (.slice A pl.length c), v] W (RunPost W (runM wn mx pl l)) from by subst hw; exact run_yes wn mx pl _ v l W (HPV.out W hb) hv h hl))
  have HW1 := Lib.hid hw1
  obtain ⟨n, hn⟩ : ∃ n, n = pl.length := ⟨_, rfl⟩
  obtain ⟨np, hnp⟩ : ∃ n, n = picks.length := ⟨_, rfl⟩
  have HN := Lib.hid hn
  have HNP := Lib.hid hnp
  have HOK := Lib.hid hok
  have HWW := Lib.hid (And.intro ww wm)
  rw [← hn] at HP HRN HRY HW1 HF
  rw [← hnp] at HF
  rw [← hn, ← hnp]
  clear kP bP hw1 hpl hkv hn hnp hok ww wm
  simp only [planV] at HF HRN HRY ⊢
  go_enter Try.func4, Try.ntmps4
  go_upto_region 1 with fail
  rw [HW1.out]
  go_wp2_with fail
  refine (awake_any _).mono ?_
  rintro e w2 ⟨rfl, hb2⟩
  have HB2 := Lib.hid hb2
  obtain ⟨p0, p1, p2⟩ := HP.out _ hb2
  clear hb2
  go_wp2_with fail
  refine (HF.out _ HB2.out).mono ?_
  rintro e w3 ⟨fb, rfl, hfew, hb3⟩
  have HB3 := Lib.hid (HB2.out.trans (hb3.mono HB2.out.size))
  clear p0 p1 p2 hb3
  cases fb with
  | false =>
    clear hfew
    go_wp2_with fail
    go_ret
    exact ⟨rfl, HB1.out.trans (HB3.out.mono HB1.out.size)⟩
  | true =>
  have hf := hfew rfl
  have HFW := Lib.hid hf
  clear hfew hf
  obtain ⟨p0, p1, p2⟩ := HP.out _ HB3.out
  cases hmay : mayP words mx pl with
  | false =>
    go_wp2_with fail
    refine (HRN.out hmay _ _ HB3.out).mono ?_
    rintro e w4 ⟨rfl, hb4⟩
    have HB4 := Lib.hid (HB3.out.trans (hb4.mono HB3.out.size))
    clear p0 p1 p2 hb4
    go_wp2_with fail
    go_ret
    exact ⟨rfl, HB1.out.trans ((HB4.out.alloc HB4.out.size _).mono HB1.out.size)⟩
  | true =>
  obtain ⟨wn, hwn, hPO⟩ := planOk_of hmay
  have HPO := Lib.hid hPO
  have HWN := Lib.hid hwn
  have HMAY := Lib.hid hmay
  clear hwn hPO hmay
  go_wp2_with fail
  refine (HRY.out wn HWN.out HMAY.out (.slice kA np kc) picks (by have := HFW.out.2; have := HNP.out; omega) _ HB3.out (by have := HKV.out _ HB3.out; rw [← HNP.out] at this ⊢; exact this)).mono ?_
  rintro e w4 ⟨a, m, rfl, hm, her, hb4⟩
  have HB4 := Lib.hid (HB3.out.trans (hb4.mono HB3.out.size))
  have HER := Lib.hid her
  have HRG := Lib.hid (good_run HPO.out picks)
  have HGO := Lib.hid (show Good wn pl m from good_er (by rw [her]; exact good_er2 HRG.out.1))
  have HTM := Lib.hid (show m.time = (picks.length : Int) from by have e1 : m.er.time = m.time := rfl; have e2 : (runM wn mx pl picks).er.time = (runM wn mx pl picks).time := rfl; rw [← e1, her, e2]; exact HRG.out.2)
  clear p0 p1 p2 hb4 her
  have kM := Blk.new_ w4 34 (memCells a m).toArray _ rfl
  obtain ⟨w5, hw5⟩ : ∃ z, w4.alloc (.cells (memCells a m).toArray 34) = z := ⟨_, rfl⟩
  have HM := Lib.hid (hm.below (show Below w4.heap.size w4 w5 from hw5 ▸ (Below.refl _ _).alloc (Nat.le_refl _) _))
  have HB5 := Lib.hid (show Below w1.heap.size w1 w5 from hw5 ▸ HB4.out.alloc HB4.out.size _)
  rw [hw5] at kM
  have HKM := Lib.hid kM
  have HG := Lib.hid (fun W (hb : Below w5.heap.size w5 W) => (show W.cell? ⟨w4.heap.size, 0, none⟩ = some (.slice (some ⟨a.gW, 0, none⟩) m.W.length a.cW) ∧ W.cell? ⟨w4.heap.size, 1, none⟩ = some (.int .i64 m.now) ∧ W.cell? ⟨w4.heap.size, 2, none⟩ = some (.int .i64 m.mx) ∧ W.cell? ⟨w4.heap.size, 3, none⟩ = some (.slice a.lA m.L.length a.lc) ∧ W.cell? ⟨w4.heap.size, 4, none⟩ = some (.slice (some ⟨a.gT, 0, none⟩) m.T.length a.cT) ∧ W.cell? ⟨w4.heap.size, 5, none⟩ = some (.slice a.hA m.H.length a.hc) ∧ W.cell? ⟨w4.heap.size, 6, none⟩ = some (.int .i64 m.time) from
    ⟨by rw [(kM.keep hb).cell]; rfl, by rw [(kM.keep hb).cell]; rfl, by rw [(kM.keep hb).cell]; rfl, by rw [(kM.keep hb).cell]; rfl, by rw [(kM.keep hb).cell]; rfl, by rw [(kM.keep hb).cell]; rfl, by rw [(kM.keep hb).cell]; rfl⟩))
  have HW5 := Lib.hid hw5
  clear hm kM hw5
  simp only [memCells] at HW5 ⊢
  go_upto_region 6 with fail
  rw [HW5.out]
  have HLI := Lib.hid (lock_er (lock_run HPO.out picks).2 HER.out)
  have HLL := Lib.hid (fun (i : Nat) (hi : i < m.L.length) => Sl.pos encL encL_len HM.out.L (by omega))
  have hTn : m.T.length = n := by rw [HGO.out.T, HN.out]
  have hLn : m.L.length = wn := HGO.out.L
  have hw8 : wn ≤ 8 := HPO.out.w8
  have HTC := Lib.hid (fun (k : Nat) (t : Tx) (h : m.T[k]? = some t) W (hb : Below w5.heap.size w5 W) => (show W.cell? ⟨a.gT, k * 11, none⟩ = some (.int .i64 t.st) ∧ W.cell? ⟨a.gT, k * 11 + 1, none⟩ = some (.int .i64 t.tx) from by
    obtain ⟨hk, rfl⟩ := List.getElem?_eq_some_iff.1 h
    obtain ⟨b2, o2, e2, hb2, hT2⟩ := Sl.pos encTx encTx_len HM.out.T (by omega)
    injection e2 with e2
    injection e2 with e2b e2o e2s
    subst e2b e2o
    exact ⟨by have := hT2 W hb k hk 0 _ rfl; simpa using this, by have := hT2 W hb k hk 1 _ rfl; simpa using this⟩))
  have HPC := Lib.hid (fun (k : Nat) (txs : List (List Ac)) (h : pl[k]? = some txs) => (HPV.out _ HB5.out).at_ h)
  have HMY := Lib.hid (fun W (hb : Below w5.heap.size w5 W) => lmay_any m.now m.mx (.slice a.lA m.L.length a.lc) m.L W (HM.out.L.below hb))
  have HMM := Lib.hid HGO.out.may
  rw [HMM.out] at HMY
  clear HMM
  rw [hTn] at HG
  rw [← HN.out] at HPC
  clear hTn
  obtain ⟨nl, hnl⟩ : ∃ n, n = m.L.length := ⟨_, rfl⟩
  have HNL := Lib.hid hnl
  rw [← hnl] at HG HMY
  have hnl8 : nl ≤ 8 := by omega
  clear hnl hLn
  go_wp2_with fail
  go_loopg [9, 10] nl (fun gg s9 s10 wr => ∃ i : Nat, i ≤ nl ∧ nl - i ≤ gg ∧ s9 = .int .i64 i ∧ Hid (Below w5.heap.size w5 wr))
  case atStart => exact ⟨0, by omega, by omega, rfl, Below.refl _ _⟩
  case round =>
    obtain ⟨i, hi, hg, rfl, BW⟩ := hrel
    obtain ⟨m0, m1, m2, m3, m4, m5, m6⟩ := HG.out _ BW.out
    by_cases hlt : i < nl
    · have hltz : (i : Int) < (nl : Int) := by omega
      have hi0 : (0 : Int) ≤ (i : Int) := by omega
      have hil : i < m.L.length := by rw [← HNL.out]; exact hlt
      obtain ⟨bl, ol, el, hbl, hcl⟩ := HLL.out i hil
      have x1 := hcl wr BW.out i hil 1 _ rfl
      have hx := List.getElem?_eq_getElem hil
      generalize m.L[i] = x at *
      have HX := Lib.hid hx
      rw [el] at m3
      clear el hcl hx hil
      obtain ⟨o, ho⟩ : ∃ o, o = x.o := ⟨_, rfl⟩
      have HO := Lib.hid ho
      rw [← ho] at x1
      clear ho
      go_upto_region 12 with fail
      clear x1 m0 m1 m2 m3 m4 m5 m6
      by_cases h0 : o < 0
      · have hge : ¬ (n : Int) ≤ o := by omega
        have hge0 : ¬ (0 : Int) ≤ o := by omega
        go_wp2_with fail
        refine wp_region_held_drew (S := fun W => W.cell? ⟨w.heap.size, 2, none⟩ = some (.slice A n c) ∧ W.cell? ⟨w4.heap.size, 4, none⟩ = some (.slice (some ⟨a.gT, 0, none⟩) n a.cT)) (by kernel_rfl) ?_ (fun hHeldbr => ?_)
        · exact ⟨(HP.out _ (HB5.out.trans (BW.out.drew.mono HB5.out.size))).2.2, (HG.out _ BW.out.drew).2.2.2.2.1⟩
        refine wpAnyH_take (i := 0) (oi := { dst := some 45, op := Op.move (Operand.tmp 10), type := 3, pos := "law.go:63", after := _, guard := none }) (v := ?vbr0) rfl (by kernel_rfl) (by kernel_rfl) (by kernel_rfl) (fun _ _ _ h => h) (Or.inl ⟨by rfl, ?hybr0⟩) (by assumption) ?restbr0
        case hybr0 => (intro w hSw; (try dsimp only at hSw); go_simp <;> with_reducible rfl)
        try simp only [Act.put, List.setIfInBounds_toArray, List.set_cons_zero, List.set_cons_succ]
        refine wpAnyH_take (i := 1) (oi := { dst := some 46, op := Op.fieldAddr 34 (Operand.tmp 7) 2, type := 0, pos := "law.go:63", after := _, guard := none }) (v := ?vbr1) rfl (by kernel_rfl) (by kernel_rfl) (by kernel_rfl) (fun _ _ _ h => h) (Or.inl ⟨by rfl, ?hybr1⟩) (by assumption) ?restbr1
        case hybr1 => (intro w hSw; (try dsimp only at hSw); go_simp <;> with_reducible rfl)
        try simp only [Act.put, List.setIfInBounds_toArray, List.set_cons_zero, List.set_cons_succ]
        refine wpAnyH_take (i := 2) (oi := { dst := some 47, op := Op.load 31 (Operand.tmp 46), type := 31, pos := "law.go:63", after := _, guard := none }) (v := ?vbr2) rfl (by kernel_rfl) (by kernel_rfl) (by kernel_rfl) (fun _ _ _ h => h) (Or.inl ⟨by rfl, ?hybr2⟩) (by assumption) ?restbr2
        case hybr2 => (intro w hSw; (try dsimp only at hSw); go_simp <;> with_reducible rfl)
        try simp only [Act.put, List.setIfInBounds_toArray, List.set_cons_zero, List.set_cons_succ]
        refine wpAnyH_take (i := 3) (oi := { dst := some 48, op := Op.call { callee := Callee.builtin Builtin.len, args := #[Operand.tmp 47], argTypes := #[31] }, type := 3, pos := "law.go:63", after := _, guard := none }) (v := ?vbr3) rfl (by kernel_rfl) (by kernel_rfl) (by kernel_rfl) (fun _ _ _ h => h) (Or.inl ⟨by rfl, ?hybr3⟩) (by assumption) ?restbr3
        case hybr3 => (intro w hSw; (try dsimp only at hSw); go_simp <;> with_reducible rfl)
        try simp only [Act.put, List.setIfInBounds_toArray, List.set_cons_zero, List.set_cons_succ]
        refine wpAnyH_take (i := 4) (oi := { dst := some 49, op := Op.binOp BinOp.geq 3 (Operand.tmp 45) (Operand.tmp 48) 3, type := 4, pos := "law.go:63", after := _, guard := none }) (v := .bool false) rfl (by kernel_rfl) (by kernel_rfl) (by kernel_rfl) (fun _ _ _ h => h) (Or.inl ⟨by rfl, ?hybr4⟩) (by assumption) ?restbr4
        case hybr4 => (intro w hSw; (try dsimp only at hSw); go_simp <;> first | done | with_reducible rfl | omega | (simp; done) | (simp; omega) | (simp [*]; done) | (simp [*]; omega) | exact decide_eq_false (by omega) | exact decide_eq_true (by omega))
        try simp only [Act.put, List.setIfInBounds_toArray, List.set_cons_zero, List.set_cons_succ]
        refine wpAnyH_take (i := 5) (oi := { dst := some 50, op := Op.move (Operand.tmp 49), type := 4, pos := "law.go:63", after := _, guard := none }) (v := ?vbr5) rfl (by kernel_rfl) (by kernel_rfl) (by kernel_rfl) (fun _ _ _ h => h) (Or.inl ⟨by rfl, ?hybr5⟩) (by assumption) ?restbr5
        case hybr5 => (intro w hSw; (try dsimp only at hSw); go_simp <;> with_reducible rfl)
        try simp only [Act.put, List.setIfInBounds_toArray, List.set_cons_zero, List.set_cons_succ]
        refine wpAnyH_take (i := 6) (oi := { dst := some 51, op := Op.move (Operand.tmp 10), type := 3, pos := "law.go:63", after := _, guard := some (5, false) }) (v := ?vbr6) rfl (by kernel_rfl) (by kernel_rfl) (by kernel_rfl) (fun _ _ _ h => h) (Or.inl ⟨by rfl, ?hybr6⟩) (by assumption) ?restbr6
        case hybr6 => (intro w hSw; (try dsimp only at hSw); go_simp <;> with_reducible rfl)
        try simp only [Act.put, List.setIfInBounds_toArray, List.set_cons_zero, List.set_cons_succ]
        refine wpAnyH_take (i := 7) (oi := { dst := some 52, op := Op.binOp BinOp.geq 3 (Operand.tmp 51) (Operand.const (Value.int IntKind.i64 0)) 3, type := 4, pos := "law.go:63", after := _, guard := some (5, false) }) (v := .bool false) rfl (by kernel_rfl) (by kernel_rfl) (by kernel_rfl) (fun _ _ _ h => h) (Or.inl ⟨by rfl, ?hybr7⟩) (by assumption) ?restbr7
        case hybr7 => (intro w hSw; (try dsimp only at hSw); go_simp <;> first | done | with_reducible rfl | omega | (simp; done) | (simp; omega) | (simp [*]; done) | (simp [*]; omega) | exact decide_eq_false (by omega) | exact decide_eq_true (by omega))
        try simp only [Act.put, List.setIfInBounds_toArray, List.set_cons_zero, List.set_cons_succ]
        refine wpAnyH_take (i := 8) (oi := { dst := some 53, op := Op.move (Operand.tmp 52), type := 4, pos := "law.go:63", after := _, guard := some (5, false) }) (v := ?vbr8) rfl (by kernel_rfl) (by kernel_rfl) (by kernel_rfl) (fun _ _ _ h => h) (Or.inl ⟨by rfl, ?hybr8⟩) (by assumption) ?restbr8
        case hybr8 => (intro w hSw; (try dsimp only at hSw); go_simp <;> with_reducible rfl)
        try simp only [Act.put, List.setIfInBounds_toArray, List.set_cons_zero, List.set_cons_succ]
        refine wpAnyH_take (i := 9) (oi := { dst := some 54, op := Op.fieldAddr 34 (Operand.tmp 7) 2, type := 0, pos := "law.go:63", after := _, guard := some (8, true) }) rfl (by kernel_rfl) (by kernel_rfl) (by kernel_rfl) (fun _ _ _ h => h) (Or.inr ⟨by rfl, rfl⟩) (by assumption) ?_
        try simp only [Act.put, List.setIfInBounds_toArray, List.set_cons_zero, List.set_cons_succ]
        refine wpAnyH_take (i := 10) (oi := { dst := some 55, op := Op.load 31 (Operand.tmp 54), type := 31, pos := "law.go:63", after := _, guard := some (8, true) }) rfl (by kernel_rfl) (by kernel_rfl) (by kernel_rfl) (fun _ _ _ h => h) (Or.inr ⟨by rfl, rfl⟩) (by assumption) ?_
        try simp only [Act.put, List.setIfInBounds_toArray, List.set_cons_zero, List.set_cons_succ]
        refine wpAnyH_take (i := 11) (oi := { dst := some 56, op := Op.move (Operand.tmp 10), type := 3, pos := "law.go:63", after := _, guard := some (8, true) }) rfl (by kernel_rfl) (by kernel_rfl) (by kernel_rfl) (fun _ _ _ h => h) (Or.inr ⟨by rfl, rfl⟩) (by assumption) ?_
        try simp only [Act.put, List.setIfInBounds_toArray, List.set_cons_zero, List.set_cons_succ]
        refine wpAnyH_take (i := 12) (oi := { dst := some 57, op := Op.indexAddr 31 (Operand.tmp 55) (Operand.tmp 56), type := 0, pos := "law.go:63", after := _, guard := some (8, true) }) rfl (by kernel_rfl) (by kernel_rfl) (by kernel_rfl) (fun _ _ _ h => h) (Or.inr ⟨by rfl, rfl⟩) (by assumption) ?_
        try simp only [Act.put, List.setIfInBounds_toArray, List.set_cons_zero, List.set_cons_succ]
        refine wpAnyH_take (i := 13) (oi := { dst := some 58, op := Op.fieldAddr 46 (Operand.tmp 57) 0, type := 0, pos := "law.go:63", after := _, guard := some (8, true) }) rfl (by kernel_rfl) (by kernel_rfl) (by kernel_rfl) (fun _ _ _ h => h) (Or.inr ⟨by rfl, rfl⟩) (by assumption) ?_
        try simp only [Act.put, List.setIfInBounds_toArray, List.set_cons_zero, List.set_cons_succ]
        refine wpAnyH_take (i := 14) (oi := { dst := some 59, op := Op.load 3 (Operand.tmp 58), type := 3, pos := "law.go:63", after := _, guard := some (8, true) }) rfl (by kernel_rfl) (by kernel_rfl) (by kernel_rfl) (fun _ _ _ h => h) (Or.inr ⟨by rfl, rfl⟩) (by assumption) ?_
        try simp only [Act.put, List.setIfInBounds_toArray, List.set_cons_zero, List.set_cons_succ]
        refine wpAnyH_take (i := 15) (oi := { dst := some 60, op := Op.binOp BinOp.lss 3 (Operand.tmp 59) (Operand.const (Value.int IntKind.i64 2)) 3, type := 4, pos := "law.go:63", after := _, guard := some (8, true) }) rfl (by kernel_rfl) (by kernel_rfl) (by kernel_rfl) (fun _ _ _ h => h) (Or.inr ⟨by rfl, rfl⟩) (by assumption) ?_
        try simp only [Act.put, List.setIfInBounds_toArray, List.set_cons_zero, List.set_cons_succ]
        refine wpAnyH_take (i := 16) (oi := { dst := some 61, op := Op.move (Operand.tmp 60), type := 4, pos := "law.go:63", after := _, guard := some (8, true) }) rfl (by kernel_rfl) (by kernel_rfl) (by kernel_rfl) (fun _ _ _ h => h) (Or.inr ⟨by rfl, rfl⟩) (by assumption) ?_
        try simp only [Act.put, List.setIfInBounds_toArray, List.set_cons_zero, List.set_cons_succ]
        refine wpAnyH_take (i := 17) (oi := { dst := some 62, op := Op.fieldAddr 34 (Operand.tmp 7) 2, type := 0, pos := "law.go:63", after := _, guard := some (16, false) }) rfl (by kernel_rfl) (by kernel_rfl) (by kernel_rfl) (fun _ _ _ h => h) (Or.inr ⟨by rfl, rfl⟩) (by assumption) ?_
        try simp only [Act.put, List.setIfInBounds_toArray, List.set_cons_zero, List.set_cons_succ]
        refine wpAnyH_take (i := 18) (oi := { dst := some 63, op := Op.load 31 (Operand.tmp 62), type := 31, pos := "law.go:63", after := _, guard := some (16, false) }) rfl (by kernel_rfl) (by kernel_rfl) (by kernel_rfl) (fun _ _ _ h => h) (Or.inr ⟨by rfl, rfl⟩) (by assumption) ?_
        try simp only [Act.put, List.setIfInBounds_toArray, List.set_cons_zero, List.set_cons_succ]
        refine wpAnyH_take (i := 19) (oi := { dst := some 64, op := Op.move (Operand.tmp 10), type := 3, pos := "law.go:63", after := _, guard := some (16, false) }) rfl (by kernel_rfl) (by kernel_rfl) (by kernel_rfl) (fun _ _ _ h => h) (Or.inr ⟨by rfl, rfl⟩) (by assumption) ?_
        try simp only [Act.put, List.setIfInBounds_toArray, List.set_cons_zero, List.set_cons_succ]
        refine wpAnyH_take (i := 20) (oi := { dst := some 65, op := Op.indexAddr 31 (Operand.tmp 63) (Operand.tmp 64), type := 0, pos := "law.go:63", after := _, guard := some (16, false) }) rfl (by kernel_rfl) (by kernel_rfl) (by kernel_rfl) (fun _ _ _ h => h) (Or.inr ⟨by rfl, rfl⟩) (by assumption) ?_
        try simp only [Act.put, List.setIfInBounds_toArray, List.set_cons_zero, List.set_cons_succ]
        refine wpAnyH_take (i := 21) (oi := { dst := some 66, op := Op.fieldAddr 46 (Operand.tmp 65) 1, type := 0, pos := "law.go:63", after := _, guard := some (16, false) }) rfl (by kernel_rfl) (by kernel_rfl) (by kernel_rfl) (fun _ _ _ h => h) (Or.inr ⟨by rfl, rfl⟩) (by assumption) ?_
        try simp only [Act.put, List.setIfInBounds_toArray, List.set_cons_zero, List.set_cons_succ]
        refine wpAnyH_take (i := 22) (oi := { dst := some 67, op := Op.load 3 (Operand.tmp 66), type := 3, pos := "law.go:63", after := _, guard := some (16, false) }) rfl (by kernel_rfl) (by kernel_rfl) (by kernel_rfl) (fun _ _ _ h => h) (Or.inr ⟨by rfl, rfl⟩) (by assumption) ?_
        try simp only [Act.put, List.setIfInBounds_toArray, List.set_cons_zero, List.set_cons_succ]
        refine wpAnyH_take (i := 23) (oi := { dst := some 68, op := Op.fieldAddr 24 (Operand.tmp 2) 2, type := 0, pos := "law.go:63", after := _, guard := some (16, false) }) rfl (by kernel_rfl) (by kernel_rfl) (by kernel_rfl) (fun _ _ _ h => h) (Or.inr ⟨by rfl, rfl⟩) (by assumption) ?_
        try simp only [Act.put, List.setIfInBounds_toArray, List.set_cons_zero, List.set_cons_succ]
        refine wpAnyH_take (i := 24) (oi := { dst := some 69, op := Op.load 22 (Operand.tmp 68), type := 22, pos := "law.go:63", after := _, guard := some (16, false) }) rfl (by kernel_rfl) (by kernel_rfl) (by kernel_rfl) (fun _ _ _ h => h) (Or.inr ⟨by rfl, rfl⟩) (by assumption) ?_
        try simp only [Act.put, List.setIfInBounds_toArray, List.set_cons_zero, List.set_cons_succ]
        refine wpAnyH_take (i := 25) (oi := { dst := some 70, op := Op.move (Operand.tmp 10), type := 3, pos := "law.go:63", after := _, guard := some (16, false) }) rfl (by kernel_rfl) (by kernel_rfl) (by kernel_rfl) (fun _ _ _ h => h) (Or.inr ⟨by rfl, rfl⟩) (by assumption) ?_
        try simp only [Act.put, List.setIfInBounds_toArray, List.set_cons_zero, List.set_cons_succ]
        refine wpAnyH_take (i := 26) (oi := { dst := some 71, op := Op.indexAddr 22 (Operand.tmp 69) (Operand.tmp 70), type := 0, pos := "law.go:63", after := _, guard := some (16, false) }) rfl (by kernel_rfl) (by kernel_rfl) (by kernel_rfl) (fun _ _ _ h => h) (Or.inr ⟨by rfl, rfl⟩) (by assumption) ?_
        try simp only [Act.put, List.setIfInBounds_toArray, List.set_cons_zero, List.set_cons_succ]
        refine wpAnyH_take (i := 27) (oi := { dst := some 72, op := Op.load 47 (Operand.tmp 71), type := 47, pos := "law.go:63", after := _, guard := some (16, false) }) rfl (by kernel_rfl) (by kernel_rfl) (by kernel_rfl) (fun _ _ _ h => h) (Or.inr ⟨by rfl, rfl⟩) (by assumption) ?_
        try simp only [Act.put, List.setIfInBounds_toArray, List.set_cons_zero, List.set_cons_succ]
        refine wpAnyH_take (i := 28) (oi := { dst := some 73, op := Op.call { callee := Callee.builtin Builtin.len, args := #[Operand.tmp 72], argTypes := #[47] }, type := 3, pos := "law.go:63", after := _, guard := some (16, false) }) rfl (by kernel_rfl) (by kernel_rfl) (by kernel_rfl) (fun _ _ _ h => h) (Or.inr ⟨by rfl, rfl⟩) (by assumption) ?_
        try simp only [Act.put, List.setIfInBounds_toArray, List.set_cons_zero, List.set_cons_succ]
        refine wpAnyH_take (i := 29) (oi := { dst := some 74, op := Op.binOp BinOp.geq 3 (Operand.tmp 67) (Operand.tmp 73) 3, type := 4, pos := "law.go:63", after := _, guard := some (16, false) }) rfl (by kernel_rfl) (by kernel_rfl) (by kernel_rfl) (fun _ _ _ h => h) (Or.inr ⟨by rfl, rfl⟩) (by assumption) ?_
        try simp only [Act.put, List.setIfInBounds_toArray, List.set_cons_zero, List.set_cons_succ]
        refine wpAnyH_take (i := 30) (oi := { dst := some 75, op := Op.pick (Operand.tmp 61) (Operand.const (Value.bool true)) (Operand.tmp 74), type := 4, pos := "law.go:63", after := _, guard := some (8, true) }) rfl (by kernel_rfl) (by kernel_rfl) (by kernel_rfl) (fun _ _ _ h => h) (Or.inr ⟨by rfl, rfl⟩) (by assumption) ?_
        try simp only [Act.put, List.setIfInBounds_toArray, List.set_cons_zero, List.set_cons_succ]
        refine wpAnyH_take (i := 31) (oi := { dst := some 76, op := Op.pick (Operand.tmp 53) (Operand.tmp 75) (Operand.const (Value.bool false)), type := 4, pos := "law.go:63", after := _, guard := some (5, false) }) (v := ?vbr31) rfl (by kernel_rfl) (by kernel_rfl) (by kernel_rfl) (fun _ _ _ h => h) (Or.inl ⟨by rfl, ?hybr31⟩) (by assumption) ?restbr31
        case hybr31 => (intro w hSw; (try dsimp only at hSw); go_simp <;> with_reducible rfl)
        try simp only [Act.put, List.setIfInBounds_toArray, List.set_cons_zero, List.set_cons_succ]
        refine wpAnyH_take (i := 32) (oi := { dst := some 77, op := Op.pick (Operand.tmp 50) (Operand.const (Value.bool true)) (Operand.tmp 76), type := 4, pos := "law.go:63", after := _, guard := none }) (v := ?vbr32) rfl (by kernel_rfl) (by kernel_rfl) (by kernel_rfl) (fun _ _ _ h => h) (Or.inl ⟨by rfl, ?hybr32⟩) (by assumption) ?restbr32
        case hybr32 => (intro w hSw; (try dsimp only at hSw); go_simp <;> with_reducible rfl)
        try simp only [Act.put, List.setIfInBounds_toArray, List.set_cons_zero, List.set_cons_succ]
        refine wpAnyH_done (by kernel_rfl) ?_ _
        go_wp2_with fail
        go_roundg (nl - (i + 1))
        case measure => omega
        case rel => exact ⟨i + 1, by omega, by omega, by go_num, BW.out.drew⟩
      · obtain ⟨k, t, txs, hk1, hk2, hk3, hk4, hk5⟩ := lock_held HGO.out HLI.out HX.out (by rw [← HO.out]; omega)
        rw [← HO.out] at hk1
        subst hk1
        have hkn : k < n := by rw [HN.out]; exact (List.getElem?_eq_some_iff.1 hk3).1
        have hkz : (k : Int) < (n : Int) := by omega
        have hge : ¬ (n : Int) ≤ (k : Int) := by omega
        have hge0 : (0 : Int) ≤ (k : Int) := by omega
        obtain ⟨b1, o1, c1, A1, d1, e1, hb1, _, hc1, _⟩ := HPC.out k txs hk3
        injection e1 with e1 _ e1c
        have HTK := Lib.hid (fun W (hb : Below w5.heap.size w5 W) => (show W.cell? ⟨w.heap.size, 2, none⟩ = some (.slice (some ⟨b1, o1, none⟩) n c) ∧ W.cell? ⟨w4.heap.size, 4, none⟩ = some (.slice (some ⟨a.gT, 0, none⟩) n a.cT) ∧ W.cell? ⟨a.gT, k * 11, none⟩ = some (.int .i64 t.st) ∧ W.cell? ⟨a.gT, k * 11 + 1, none⟩ = some (.int .i64 t.tx) ∧ W.cell? ⟨b1, o1 + k, none⟩ = some (.slice A1 txs.length d1) from
          ⟨by rw [← e1]; exact (HP.out _ (HB5.out.trans (hb.mono HB5.out.size))).2.2, (HG.out _ hb).2.2.2.2.1, (HTC.out k t hk2 W hb).1, (HTC.out k t hk2 W hb).2, (hb.cell (p := ⟨b1, o1 + k, none⟩) hb1).trans hc1⟩))
        obtain ⟨st, hst⟩ : ∃ z, z = t.st := ⟨_, rfl⟩
        obtain ⟨tx, htx⟩ : ∃ z, z = t.tx := ⟨_, rfl⟩
        obtain ⟨n2, hn2⟩ : ∃ z, z = txs.length := ⟨_, rfl⟩
        rw [← hst, ← htx, ← hn2] at HTK
        rw [← hst] at hk4
        rw [← htx, ← hn2] at hk5
        have hst2 : ¬ st < 2 := by omega
        have htx2 : ¬ (n2 : Int) ≤ tx := by omega
        clear e1 e1c hc1 hb1 hst htx hn2 hk2 hk3 h0
        go_wp2_with fail
        refine wp_region_held_drew (S := fun W => W.cell? ⟨w.heap.size, 2, none⟩ = some (.slice (some ⟨b1, o1, none⟩) n c) ∧ W.cell? ⟨w4.heap.size, 4, none⟩ = some (.slice (some ⟨a.gT, 0, none⟩) n a.cT) ∧ W.cell? ⟨a.gT, k * 11, none⟩ = some (.int .i64 st) ∧ W.cell? ⟨a.gT, k * 11 + 1, none⟩ = some (.int .i64 tx) ∧ W.cell? ⟨b1, o1 + k, none⟩ = some (.slice A1 n2 d1)) (by kernel_rfl) ?_ (fun hHeldcr => ?_)
        · exact HTK.out _ BW.out.drew
        refine wpAnyH_take (i := 0) (oi := { dst := some 45, op := Op.move (Operand.tmp 10), type := 3, pos := "law.go:63", after := _, guard := none }) (v := ?vcr0) rfl (by kernel_rfl) (by kernel_rfl) (by kernel_rfl) (fun _ _ _ h => h) (Or.inl ⟨by rfl, ?hycr0⟩) (by assumption) ?restcr0
        case hycr0 => (intro w hSw; (try dsimp only at hSw); go_simp <;> with_reducible rfl)
        try simp only [Act.put, List.setIfInBounds_toArray, List.set_cons_zero, List.set_cons_succ]
        refine wpAnyH_take (i := 1) (oi := { dst := some 46, op := Op.fieldAddr 34 (Operand.tmp 7) 2, type := 0, pos := "law.go:63", after := _, guard := none }) (v := ?vcr1) rfl (by kernel_rfl) (by kernel_rfl) (by kernel_rfl) (fun _ _ _ h => h) (Or.inl ⟨by rfl, ?hycr1⟩) (by assumption) ?restcr1
        case hycr1 => (intro w hSw; (try dsimp only at hSw); go_simp <;> with_reducible rfl)
        try simp only [Act.put, List.setIfInBounds_toArray, List.set_cons_zero, List.set_cons_succ]
        refine wpAnyH_take (i := 2) (oi := { dst := some 47, op := Op.load 31 (Operand.tmp 46), type := 31, pos := "law.go:63", after := _, guard := none }) (v := ?vcr2) rfl (by kernel_rfl) (by kernel_rfl) (by kernel_rfl) (fun _ _ _ h => h) (Or.inl ⟨by rfl, ?hycr2⟩) (by assumption) ?restcr2
        case hycr2 => (intro w hSw; (try dsimp only at hSw); go_simp <;> with_reducible rfl)
        try simp only [Act.put, List.setIfInBounds_toArray, List.set_cons_zero, List.set_cons_succ]
        refine wpAnyH_take (i := 3) (oi := { dst := some 48, op := Op.call { callee := Callee.builtin Builtin.len, args := #[Operand.tmp 47], argTypes := #[31] }, type := 3, pos := "law.go:63", after := _, guard := none }) (v := ?vcr3) rfl (by kernel_rfl) (by kernel_rfl) (by kernel_rfl) (fun _ _ _ h => h) (Or.inl ⟨by rfl, ?hycr3⟩) (by assumption) ?restcr3
        case hycr3 => (intro w hSw; (try dsimp only at hSw); go_simp <;> with_reducible rfl)
        try simp only [Act.put, List.setIfInBounds_toArray, List.set_cons_zero, List.set_cons_succ]
        refine wpAnyH_take (i := 4) (oi := { dst := some 49, op := Op.binOp BinOp.geq 3 (Operand.tmp 45) (Operand.tmp 48) 3, type := 4, pos := "law.go:63", after := _, guard := none }) (v := .bool false) rfl (by kernel_rfl) (by kernel_rfl) (by kernel_rfl) (fun _ _ _ h => h) (Or.inl ⟨by rfl, ?hycr4⟩) (by assumption) ?restcr4
        case hycr4 => (intro w hSw; (try dsimp only at hSw); go_simp <;> first | done | with_reducible rfl | omega | (simp; done) | (simp; omega) | (simp [*]; done) | (simp [*]; omega) | exact decide_eq_false (by omega) | exact decide_eq_true (by omega))
        try simp only [Act.put, List.setIfInBounds_toArray, List.set_cons_zero, List.set_cons_succ]
        refine wpAnyH_take (i := 5) (oi := { dst := some 50, op := Op.move (Operand.tmp 49), type := 4, pos := "law.go:63", after := _, guard := none }) (v := ?vcr5) rfl (by kernel_rfl) (by kernel_rfl) (by kernel_rfl) (fun _ _ _ h => h) (Or.inl ⟨by rfl, ?hycr5⟩) (by assumption) ?restcr5
        case hycr5 => (intro w hSw; (try dsimp only at hSw); go_simp <;> with_reducible rfl)
        try simp only [Act.put, List.setIfInBounds_toArray, List.set_cons_zero, List.set_cons_succ]
        refine wpAnyH_take (i := 6) (oi := { dst := some 51, op := Op.move (Operand.tmp 10), type := 3, pos := "law.go:63", after := _, guard := some (5, false) }) (v := ?vcr6) rfl (by kernel_rfl) (by kernel_rfl) (by kernel_rfl) (fun _ _ _ h => h) (Or.inl ⟨by rfl, ?hycr6⟩) (by assumption) ?restcr6
        case hycr6 => (intro w hSw; (try dsimp only at hSw); go_simp <;> with_reducible rfl)
        try simp only [Act.put, List.setIfInBounds_toArray, List.set_cons_zero, List.set_cons_succ]
        refine wpAnyH_take (i := 7) (oi := { dst := some 52, op := Op.binOp BinOp.geq 3 (Operand.tmp 51) (Operand.const (Value.int IntKind.i64 0)) 3, type := 4, pos := "law.go:63", after := _, guard := some (5, false) }) (v := .bool true) rfl (by kernel_rfl) (by kernel_rfl) (by kernel_rfl) (fun _ _ _ h => h) (Or.inl ⟨by rfl, ?hycr7⟩) (by assumption) ?restcr7
        case hycr7 => (intro w hSw; (try dsimp only at hSw); go_simp <;> first | done | with_reducible rfl | omega | (simp; done) | (simp; omega) | (simp [*]; done) | (simp [*]; omega) | exact decide_eq_false (by omega) | exact decide_eq_true (by omega))
        try simp only [Act.put, List.setIfInBounds_toArray, List.set_cons_zero, List.set_cons_succ]
        refine wpAnyH_take (i := 8) (oi := { dst := some 53, op := Op.move (Operand.tmp 52), type := 4, pos := "law.go:63", after := _, guard := some (5, false) }) (v := ?vcr8) rfl (by kernel_rfl) (by kernel_rfl) (by kernel_rfl) (fun _ _ _ h => h) (Or.inl ⟨by rfl, ?hycr8⟩) (by assumption) ?restcr8
        case hycr8 => (intro w hSw; (try dsimp only at hSw); go_simp <;> with_reducible rfl)
        try simp only [Act.put, List.setIfInBounds_toArray, List.set_cons_zero, List.set_cons_succ]
        refine wpAnyH_take (i := 9) (oi := { dst := some 54, op := Op.fieldAddr 34 (Operand.tmp 7) 2, type := 0, pos := "law.go:63", after := _, guard := some (8, true) }) (v := ?vcr9) rfl (by kernel_rfl) (by kernel_rfl) (by kernel_rfl) (fun _ _ _ h => h) (Or.inl ⟨by rfl, ?hycr9⟩) (by assumption) ?restcr9
        case hycr9 => (intro w hSw; (try dsimp only at hSw); go_simp <;> with_reducible rfl)
        try simp only [Act.put, List.setIfInBounds_toArray, List.set_cons_zero, List.set_cons_succ]
        refine wpAnyH_take (i := 10) (oi := { dst := some 55, op := Op.load 31 (Operand.tmp 54), type := 31, pos := "law.go:63", after := _, guard := some (8, true) }) (v := ?vcr10) rfl (by kernel_rfl) (by kernel_rfl) (by kernel_rfl) (fun _ _ _ h => h) (Or.inl ⟨by rfl, ?hycr10⟩) (by assumption) ?restcr10
        case hycr10 => (intro w hSw; (try dsimp only at hSw); go_simp <;> with_reducible rfl)
        try simp only [Act.put, List.setIfInBounds_toArray, List.set_cons_zero, List.set_cons_succ]
        refine wpAnyH_take (i := 11) (oi := { dst := some 56, op := Op.move (Operand.tmp 10), type := 3, pos := "law.go:63", after := _, guard := some (8, true) }) (v := ?vcr11) rfl (by kernel_rfl) (by kernel_rfl) (by kernel_rfl) (fun _ _ _ h => h) (Or.inl ⟨by rfl, ?hycr11⟩) (by assumption) ?restcr11
        case hycr11 => (intro w hSw; (try dsimp only at hSw); go_simp <;> with_reducible rfl)
        try simp only [Act.put, List.setIfInBounds_toArray, List.set_cons_zero, List.set_cons_succ]
        refine wpAnyH_take (i := 12) (oi := { dst := some 57, op := Op.indexAddr 31 (Operand.tmp 55) (Operand.tmp 56), type := 0, pos := "law.go:63", after := _, guard := some (8, true) }) (v := ?vcr12) rfl (by kernel_rfl) (by kernel_rfl) (by kernel_rfl) (fun _ _ _ h => h) (Or.inl ⟨by rfl, ?hycr12⟩) (by assumption) ?restcr12
        case hycr12 => (intro w hSw; (try dsimp only at hSw); go_simp <;> with_reducible rfl)
        try simp only [Act.put, List.setIfInBounds_toArray, List.set_cons_zero, List.set_cons_succ]
        refine wpAnyH_take (i := 13) (oi := { dst := some 58, op := Op.fieldAddr 46 (Operand.tmp 57) 0, type := 0, pos := "law.go:63", after := _, guard := some (8, true) }) (v := ?vcr13) rfl (by kernel_rfl) (by kernel_rfl) (by kernel_rfl) (fun _ _ _ h => h) (Or.inl ⟨by rfl, ?hycr13⟩) (by assumption) ?restcr13
        case hycr13 => (intro w hSw; (try dsimp only at hSw); go_simp <;> with_reducible rfl)
        try simp only [Act.put, List.setIfInBounds_toArray, List.set_cons_zero, List.set_cons_succ]
        refine wpAnyH_take (i := 14) (oi := { dst := some 59, op := Op.load 3 (Operand.tmp 58), type := 3, pos := "law.go:63", after := _, guard := some (8, true) }) (v := ?vcr14) rfl (by kernel_rfl) (by kernel_rfl) (by kernel_rfl) (fun _ _ _ h => h) (Or.inl ⟨by rfl, ?hycr14⟩) (by assumption) ?restcr14
        case hycr14 => (intro w hSw; (try dsimp only at hSw); go_simp <;> with_reducible rfl)
        try simp only [Act.put, List.setIfInBounds_toArray, List.set_cons_zero, List.set_cons_succ]
        refine wpAnyH_take (i := 15) (oi := { dst := some 60, op := Op.binOp BinOp.lss 3 (Operand.tmp 59) (Operand.const (Value.int IntKind.i64 2)) 3, type := 4, pos := "law.go:63", after := _, guard := some (8, true) }) (v := .bool false) rfl (by kernel_rfl) (by kernel_rfl) (by kernel_rfl) (fun _ _ _ h => h) (Or.inl ⟨by rfl, ?hycr15⟩) (by assumption) ?restcr15
        case hycr15 => (intro w hSw; (try dsimp only at hSw); go_simp <;> first | done | with_reducible rfl | omega | (simp; done) | (simp; omega) | (simp [*]; done) | (simp [*]; omega) | exact decide_eq_false (by omega) | exact decide_eq_true (by omega))
        try simp only [Act.put, List.setIfInBounds_toArray, List.set_cons_zero, List.set_cons_succ]
        refine wpAnyH_take (i := 16) (oi := { dst := some 61, op := Op.move (Operand.tmp 60), type := 4, pos := "law.go:63", after := _, guard := some (8, true) }) (v := ?vcr16) rfl (by kernel_rfl) (by kernel_rfl) (by kernel_rfl) (fun _ _ _ h => h) (Or.inl ⟨by rfl, ?hycr16⟩) (by assumption) ?restcr16
        case hycr16 => (intro w hSw; (try dsimp only at hSw); go_simp <;> with_reducible rfl)
        try simp only [Act.put, List.setIfInBounds_toArray, List.set_cons_zero, List.set_cons_succ]
        refine wpAnyH_take (i := 17) (oi := { dst := some 62, op := Op.fieldAddr 34 (Operand.tmp 7) 2, type := 0, pos := "law.go:63", after := _, guard := some (16, false) }) (v := ?vcr17) rfl (by kernel_rfl) (by kernel_rfl) (by kernel_rfl) (fun _ _ _ h => h) (Or.inl ⟨by rfl, ?hycr17⟩) (by assumption) ?restcr17
        case hycr17 => (intro w hSw; (try dsimp only at hSw); go_simp <;> with_reducible rfl)
        try simp only [Act.put, List.setIfInBounds_toArray, List.set_cons_zero, List.set_cons_succ]
        refine wpAnyH_take (i := 18) (oi := { dst := some 63, op := Op.load 31 (Operand.tmp 62), type := 31, pos := "law.go:63", after := _, guard := some (16, false) }) (v := ?vcr18) rfl (by kernel_rfl) (by kernel_rfl) (by kernel_rfl) (fun _ _ _ h => h) (Or.inl ⟨by rfl, ?hycr18⟩) (by assumption) ?restcr18
        case hycr18 => (intro w hSw; (try dsimp only at hSw); go_simp <;> with_reducible rfl)
        try simp only [Act.put, List.setIfInBounds_toArray, List.set_cons_zero, List.set_cons_succ]
        refine wpAnyH_take (i := 19) (oi := { dst := some 64, op := Op.move (Operand.tmp 10), type := 3, pos := "law.go:63", after := _, guard := some (16, false) }) (v := ?vcr19) rfl (by kernel_rfl) (by kernel_rfl) (by kernel_rfl) (fun _ _ _ h => h) (Or.inl ⟨by rfl, ?hycr19⟩) (by assumption) ?restcr19
        case hycr19 => (intro w hSw; (try dsimp only at hSw); go_simp <;> with_reducible rfl)
        try simp only [Act.put, List.setIfInBounds_toArray, List.set_cons_zero, List.set_cons_succ]
        refine wpAnyH_take (i := 20) (oi := { dst := some 65, op := Op.indexAddr 31 (Operand.tmp 63) (Operand.tmp 64), type := 0, pos := "law.go:63", after := _, guard := some (16, false) }) (v := ?vcr20) rfl (by kernel_rfl) (by kernel_rfl) (by kernel_rfl) (fun _ _ _ h => h) (Or.inl ⟨by rfl, ?hycr20⟩) (by assumption) ?restcr20
        case hycr20 => (intro w hSw; (try dsimp only at hSw); go_simp <;> with_reducible rfl)
        try simp only [Act.put, List.setIfInBounds_toArray, List.set_cons_zero, List.set_cons_succ]
        refine wpAnyH_take (i := 21) (oi := { dst := some 66, op := Op.fieldAddr 46 (Operand.tmp 65) 1, type := 0, pos := "law.go:63", after := _, guard := some (16, false) }) (v := ?vcr21) rfl (by kernel_rfl) (by kernel_rfl) (by kernel_rfl) (fun _ _ _ h => h) (Or.inl ⟨by rfl, ?hycr21⟩) (by assumption) ?restcr21
        case hycr21 => (intro w hSw; (try dsimp only at hSw); go_simp <;> with_reducible rfl)
        try simp only [Act.put, List.setIfInBounds_toArray, List.set_cons_zero, List.set_cons_succ]
        refine wpAnyH_take (i := 22) (oi := { dst := some 67, op := Op.load 3 (Operand.tmp 66), type := 3, pos := "law.go:63", after := _, guard := some (16, false) }) (v := ?vcr22) rfl (by kernel_rfl) (by kernel_rfl) (by kernel_rfl) (fun _ _ _ h => h) (Or.inl ⟨by rfl, ?hycr22⟩) (by assumption) ?restcr22
        case hycr22 => (intro w hSw; (try dsimp only at hSw); go_simp <;> with_reducible rfl)
        try simp only [Act.put, List.setIfInBounds_toArray, List.set_cons_zero, List.set_cons_succ]
        refine wpAnyH_take (i := 23) (oi := { dst := some 68, op := Op.fieldAddr 24 (Operand.tmp 2) 2, type := 0, pos := "law.go:63", after := _, guard := some (16, false) }) (v := ?vcr23) rfl (by kernel_rfl) (by kernel_rfl) (by kernel_rfl) (fun _ _ _ h => h) (Or.inl ⟨by rfl, ?hycr23⟩) (by assumption) ?restcr23
        case hycr23 => (intro w hSw; (try dsimp only at hSw); go_simp <;> with_reducible rfl)
        try simp only [Act.put, List.setIfInBounds_toArray, List.set_cons_zero, List.set_cons_succ]
        refine wpAnyH_take (i := 24) (oi := { dst := some 69, op := Op.load 22 (Operand.tmp 68), type := 22, pos := "law.go:63", after := _, guard := some (16, false) }) (v := ?vcr24) rfl (by kernel_rfl) (by kernel_rfl) (by kernel_rfl) (fun _ _ _ h => h) (Or.inl ⟨by rfl, ?hycr24⟩) (by assumption) ?restcr24
        case hycr24 => (intro w hSw; (try dsimp only at hSw); go_simp <;> with_reducible rfl)
        try simp only [Act.put, List.setIfInBounds_toArray, List.set_cons_zero, List.set_cons_succ]
        refine wpAnyH_take (i := 25) (oi := { dst := some 70, op := Op.move (Operand.tmp 10), type := 3, pos := "law.go:63", after := _, guard := some (16, false) }) (v := ?vcr25) rfl (by kernel_rfl) (by kernel_rfl) (by kernel_rfl) (fun _ _ _ h => h) (Or.inl ⟨by rfl, ?hycr25⟩) (by assumption) ?restcr25
        case hycr25 => (intro w hSw; (try dsimp only at hSw); go_simp <;> with_reducible rfl)
        try simp only [Act.put, List.setIfInBounds_toArray, List.set_cons_zero, List.set_cons_succ]
        refine wpAnyH_take (i := 26) (oi := { dst := some 71, op := Op.indexAddr 22 (Operand.tmp 69) (Operand.tmp 70), type := 0, pos := "law.go:63", after := _, guard := some (16, false) }) (v := ?vcr26) rfl (by kernel_rfl) (by kernel_rfl) (by kernel_rfl) (fun _ _ _ h => h) (Or.inl ⟨by rfl, ?hycr26⟩) (by assumption) ?restcr26
        case hycr26 => (intro w hSw; (try dsimp only at hSw); go_simp <;> with_reducible rfl)
        try simp only [Act.put, List.setIfInBounds_toArray, List.set_cons_zero, List.set_cons_succ]
        refine wpAnyH_take (i := 27) (oi := { dst := some 72, op := Op.load 47 (Operand.tmp 71), type := 47, pos := "law.go:63", after := _, guard := some (16, false) }) (v := ?vcr27) rfl (by kernel_rfl) (by kernel_rfl) (by kernel_rfl) (fun _ _ _ h => h) (Or.inl ⟨by rfl, ?hycr27⟩) (by assumption) ?restcr27
        case hycr27 => (intro w hSw; (try dsimp only at hSw); go_simp <;> with_reducible rfl)
        try simp only [Act.put, List.setIfInBounds_toArray, List.set_cons_zero, List.set_cons_succ]
        refine wpAnyH_take (i := 28) (oi := { dst := some 73, op := Op.call { callee := Callee.builtin Builtin.len, args := #[Operand.tmp 72], argTypes := #[47] }, type := 3, pos := "law.go:63", after := _, guard := some (16, false) }) (v := ?vcr28) rfl (by kernel_rfl) (by kernel_rfl) (by kernel_rfl) (fun _ _ _ h => h) (Or.inl ⟨by rfl, ?hycr28⟩) (by assumption) ?restcr28
        case hycr28 => (intro w hSw; (try dsimp only at hSw); go_simp <;> with_reducible rfl)
        try simp only [Act.put, List.setIfInBounds_toArray, List.set_cons_zero, List.set_cons_succ]
        refine wpAnyH_take (i := 29) (oi := { dst := some 74, op := Op.binOp BinOp.geq 3 (Operand.tmp 67) (Operand.tmp 73) 3, type := 4, pos := "law.go:63", after := _, guard := some (16, false) }) (v := .bool false) rfl (by kernel_rfl) (by kernel_rfl) (by kernel_rfl) (fun _ _ _ h => h) (Or.inl ⟨by rfl, ?hycr29⟩) (by assumption) ?restcr29
        case hycr29 => (intro w hSw; (try dsimp only at hSw); go_simp <;> first | done | with_reducible rfl | omega | (simp; done) | (simp; omega) | (simp [*]; done) | (simp [*]; omega) | exact decide_eq_false (by omega) | exact decide_eq_true (by omega))
        try simp only [Act.put, List.setIfInBounds_toArray, List.set_cons_zero, List.set_cons_succ]
        refine wpAnyH_take (i := 30) (oi := { dst := some 75, op := Op.pick (Operand.tmp 61) (Operand.const (Value.bool true)) (Operand.tmp 74), type := 4, pos := "law.go:63", after := _, guard := some (8, true) }) (v := ?vcr30) rfl (by kernel_rfl) (by kernel_rfl) (by kernel_rfl) (fun _ _ _ h => h) (Or.inl ⟨by rfl, ?hycr30⟩) (by assumption) ?restcr30
        case hycr30 => (intro w hSw; (try dsimp only at hSw); go_simp <;> with_reducible rfl)
        try simp only [Act.put, List.setIfInBounds_toArray, List.set_cons_zero, List.set_cons_succ]
        refine wpAnyH_take (i := 31) (oi := { dst := some 76, op := Op.pick (Operand.tmp 53) (Operand.tmp 75) (Operand.const (Value.bool false)), type := 4, pos := "law.go:63", after := _, guard := some (5, false) }) (v := ?vcr31) rfl (by kernel_rfl) (by kernel_rfl) (by kernel_rfl) (fun _ _ _ h => h) (Or.inl ⟨by rfl, ?hycr31⟩) (by assumption) ?restcr31
        case hycr31 => (intro w hSw; (try dsimp only at hSw); go_simp <;> with_reducible rfl)
        try simp only [Act.put, List.setIfInBounds_toArray, List.set_cons_zero, List.set_cons_succ]
        refine wpAnyH_take (i := 32) (oi := { dst := some 77, op := Op.pick (Operand.tmp 50) (Operand.const (Value.bool true)) (Operand.tmp 76), type := 4, pos := "law.go:63", after := _, guard := none }) (v := ?vcr32) rfl (by kernel_rfl) (by kernel_rfl) (by kernel_rfl) (fun _ _ _ h => h) (Or.inl ⟨by rfl, ?hycr32⟩) (by assumption) ?restcr32
        case hycr32 => (intro w hSw; (try dsimp only at hSw); go_simp <;> with_reducible rfl)
        try simp only [Act.put, List.setIfInBounds_toArray, List.set_cons_zero, List.set_cons_succ]
        refine wpAnyH_done (by kernel_rfl) ?_ _
        go_wp2_with fail
        go_roundg (nl - (i + 1))
        case measure => omega
        case rel => exact ⟨i + 1, by omega, by omega, by go_num, BW.out.drew⟩
    · obtain rfl : nl = i := by omega
      go_wp2_with fail
      refine (HMY.out _ BW.out).mono ?_
      rintro e w6 ⟨rfl, hb6⟩
      have BW6 := Lib.hid (BW.out.trans (hb6.mono BW.out.size))
      clear m0 m1 m2 m3 m4 m5 m6
      obtain ⟨m0, m1, m2, m3, m4, m5, m6⟩ := HG.out _ BW6.out
      obtain ⟨p0, p1, p2⟩ := HP.out _ (HB5.out.trans (BW6.out.mono HB5.out.size))
      have q1 : ((m.W.length : Int) == words) = true := by rw [HGO.out.W, HWN.out]; simp
      have q2 : ((n : Int) == (n : Int)) = true := by simp
      have q3 : (m.time == (np : Int)) = true := by rw [HTM.out, HNP.out]; simp
      clear hb6
      go_wp2_with fail
      go_ret
      exact ⟨rfl, HB1.out.trans ((HB5.out.trans (BW6.out.mono HB5.out.size)).mono HB1.out.size)⟩
end Go.Proofs.Ytngimbfojccikaa

