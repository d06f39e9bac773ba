/- slices.symMergeCmpFunc at []api.Rec: two rising parts are merged. -/
import Derived.Test.YtmcbnpeihedcaaaSrSym2
namespace Go.Proofs.Ytmcbnpeihedcaaa
set_option linter.unusedSimpArgs false
open Go Go.RowKit
set_option linter.unusedVariables false
attribute [local go_sem ↓] Go.wp_at_zero Go.wp_at_succ

/-- A part of the sort, of a row of n, as a call. -/
def SymC (base g c n : Nat) (l : List Rx) (a m b : Nat) (w : World) : Prop :=
  ∀ (x y z : Int), x = (a : Int) → y = (m : Int) → z = (b : Int) → Calls Try.prog 65 #[.slice (some ⟨g, 0, none⟩) n c, .int .i64 x, .int .i64 y, .int .i64 z, .func (.func 31) #[] #[]] w (SortPost base g c l a b w)

set_option maxRecDepth 100000 in
set_option maxHeartbeats 16000000 in
theorem symgen_any (base g c : Nat) (l : List Rx) (a m b : Nat) (x y z : Int) (w : World) (hr : OwnR w base g c l) (hx : x = (a : Int)) (hy : y = (m : Int)) (hz : z = (b : Int)) (ham : a < m) (hmb : m < b) (hm1 : m ≠ a + 1) (hm2 : b ≠ m + 1) (hb : b ≤ l.length) (hn : l.length ≤ 100000) (hbase : base ≤ w.heap.size) (hs1 : Srt Rx.wv l a m) (hs2 : Srt Rx.wv l m b)
    (ih : ∀ (l' : List Rx) (a' m' b' : Nat) (w' : World), l'.length = l.length → OwnR w' base g c l' → a' < m' → m' < b' → b' ≤ l.length → b' - a' < b - a → base ≤ w'.heap.size → Srt Rx.wv l' a' m' → Srt Rx.wv l' m' b' → SymC base g c l.length l' a' m' b' w') :
    Calls Try.prog 65 #[.slice (some ⟨g, 0, none⟩) l.length c, .int .i64 x, .int .i64 y, .int .i64 z, .func (.func 31) #[] #[]] w (SortPost base g c l a b w) := by
  subst hx hy hz
  have eg : ∀ args w, (callFunc 31 args).run Try.prog w = .ok (.enter 31 args) w := enters_of Try.func31 (by kernel_rfl) rfl
  obtain ⟨n, hnn⟩ : ∃ n, n = l.length := ⟨_, rfl⟩
  have HL := Lib.hid hnn
  have HR := Lib.hid hr
  have HS1 := Lib.hid hs1
  have HS2 := Lib.hid hs2
  have hq : ((m : Int) - (a : Int) == 1) = false := by rw [beq_eq_false_iff_ne]; omega
  have hq2 : ((b : Int) - (m : Int) == 1) = false := by rw [beq_eq_false_iff_ne]; omega
  have cR := fun (l' : List Rx) (hc : l'.length = l.length) (a m b : Nat) (x y z : Int) (W : World) (h : OwnR W base g c l') hx hy hz h1 h2 h3 => (hc ▸ rotate_any base g c l' a m b x y z (.func (.func 31) #[] #[]) W h hx hy hz h1 h2 (hc ▸ h3) (by omega) : Calls Try.prog 78 #[.slice (some ⟨g, 0, none⟩) l.length c, .int .i64 x, .int .i64 y, .int .i64 z, .func (.func 31) #[] #[]] W (RelPost base g c l' (fun l2 => RotL l' l2 a m b) W))
  rw [← hnn] at hb hn cR ih ⊢
  have CR := Lib.hid cR
  have IH := Lib.hid ih
  clear hr hnn hs1 hs2 cR ih
  obtain ⟨mid, hmid⟩ : ∃ mid, mid = (a + b) / 2 := ⟨_, rfl⟩
  have em : ((a : Int) + (b : Int)) / 2 = (mid : Int) := by omega
  have hm3 : a < mid := by omega
  have hm4 : mid < b := by omega
  have hm5 : mid - a ≤ b - mid := by omega
  have hm6 : b - mid ≤ mid - a + 1 := by omega
  clear hmid
  go_enter Try.func65, Try.ntmps65
  go_upto_if 140 with fail
  go_cut [20, 21] (fun s20 s21 wx => ∃ lo hi : Nat, s20 = .int .i64 lo ∧ s21 = .int .i64 hi ∧ Hid ((mid < m ∧ lo + b = mid + m ∧ hi = mid) ∨ (m ≤ mid ∧ lo = a ∧ hi = m)) ∧ wx = w)
  case first =>
    as_aux_lemma =>
    by_cases hc : mid < m
    · have hc' : (mid : Int) < (m : Int) := by omega
      go_wp2
      go_meet
      exact ⟨mid + m - b, mid, by go_num, rfl, (show Hid _ from .inl ⟨hc, by omega, rfl⟩), rfl⟩
    · have hc' : ¬ (mid : Int) < (m : Int) := by omega
      go_wp2
      go_meet
      exact ⟨a, m, rfl, rfl, (show Hid _ from .inr ⟨by omega, rfl, rfl⟩), rfl⟩
  case rest =>
    obtain ⟨lo, hi, rfl, rfl, HC, ew⟩ := hcut
    replace ew := ew.symm
    subst ew
    have hbd : ∀ h, lo ≤ h → h < hi → m ≤ mid + m - 1 - h ∧ mid + m - 1 - h < b ∧ h < m ∧ a ≤ h := by rcases HC.out with ⟨c1, c2, c3⟩ | ⟨c1, c2, c3⟩ <;> (intro h h1 h2; omega)
    have hlh : lo ≤ hi := by rcases HC.out with ⟨c1, c2, c3⟩ | ⟨c1, c2, c3⟩ <;> omega
    have hhm : hi ≤ m := by rcases HC.out with ⟨c1, c2, c3⟩ | ⟨c1, c2, c3⟩ <;> omega
    have hhm2 : hi ≤ mid := by rcases HC.out with ⟨c1, c2, c3⟩ | ⟨c1, c2, c3⟩ <;> omega
    have HBD := Lib.hid hbd
    clear hbd
    go_upto_block 8 with fail
    go_cut [20] (fun s20 wx => ∃ s : Nat, lo ≤ s ∧ s ≤ hi ∧ s20 = .int .i64 s ∧ Hid ((s = lo ∨ kAt Rx.wv l (s - 1) ≤ kAt Rx.wv l (mid + m - 1 - (s - 1))) ∧ (s = hi ∨ kAt Rx.wv l (mid + m - 1 - s) < kAt Rx.wv l s) ∧ OwnR wx base g c l ∧ Below base w wx))
    case first =>
      as_aux_lemma =>
      go_wp2_with fail
      go_loopg [20, 21] (b - a) (fun gg s20 s21 wr => ∃ (s r : Nat), lo ≤ s ∧ s ≤ r ∧ r ≤ hi ∧ r - s ≤ gg ∧ s20 = .int .i64 s ∧ s21 = .int .i64 r ∧ Hid ((s = lo ∨ kAt Rx.wv l (s - 1) ≤ kAt Rx.wv l (mid + m - 1 - (s - 1))) ∧ (r = hi ∨ kAt Rx.wv l (mid + m - 1 - r) < kAt Rx.wv l r) ∧ OwnR wr base g c l ∧ Below base w wr))
      case atStart => exact ⟨lo, hi, by omega, hlh, by omega, by rcases HC.out with ⟨c1, c2, c3⟩ | ⟨c1, c2, c3⟩ <;> omega, rfl, rfl, .inl rfl, .inl rfl, HR.out, Below.refl _ _⟩
      case round =>
        obtain ⟨s, r, hls, hsr, hrh, hg, rfl, rfl, HM⟩ := hrel
        by_cases hlt : s < r
        · have hltz : (s : Int) < (r : Int) := by omega
          obtain ⟨h, hh⟩ : ∃ h, h = (s + r) / 2 := ⟨_, rfl⟩
          have hih : s ≤ h := by omega
          have hhj : h < r := by omega
          obtain ⟨b1, b2, b3, b4⟩ := HBD.out h (by omega) (by omega)
          obtain ⟨k, hk⟩ : ∃ k, k = mid + m - 1 - h := ⟨_, rfl⟩
          rw [← hk] at b1 b2
          have e1 : ((s : Int) + (r : Int)) / 2 = (h : Int) := by omega
          have e2 : (mid : Int) + (m : Int) - 1 - (h : Int) = (k : Int) := by omega
          have HK := Lib.hid hk
          obtain ⟨xh, hxh⟩ : ∃ x, l[h]? = some x := ⟨_, List.getElem?_eq_getElem (show h < l.length by have := HL.out; omega)⟩
          obtain ⟨xk, hxk⟩ : ∃ x, l[k]? = some x := ⟨_, List.getElem?_eq_getElem (show k < l.length by have := HL.out; omega)⟩
          have HH := Lib.hid hxh
          have HKK := Lib.hid hxk
          clear hxh hxk
          have r1 := HM.out.2.2.1.at_ HH.out
          have r2 := HM.out.2.2.1.at_ HKK.out
          have h0 : (0 : Int) ≤ (h : Int) := by omega
          have h1 : (h : Int) < (n : Int) := by omega
          have k0 : (0 : Int) ≤ (k : Int) := by omega
          have k1 : (k : Int) < (n : Int) := by omega
          have kw : IntKind.i64.wrap (k : Int) = (k : Int) := by rw [IntKind.wrap_i64]; omega
          obtain ⟨q, hq3⟩ : ∃ q, q = decide (Rx.wv xk < Rx.wv xh) := ⟨_, rfl⟩
          have hqq : decide (cmpI (Rx.wv xk) (Rx.wv xh) < 0) = q := by rw [cmp_neg, hq3]
          have HQ := Lib.hid hq3
          have HKH := Lib.hid (kAt_wv HH.out)
          have HKA := Lib.hid (kAt_wv HKK.out)
          clear hq3 hh hk
          go_wp2_with fail
          refine wp_region_held_drew (S := fun w' => w'.rangeAt g (h * 10) (encRx xh) ∧ w'.rangeAt g (k * 10) (encRx xk)) (by kernel_rfl) ?_ (fun hHeldbr => ?_)
          · exact ⟨r1, r2⟩
          refine tkW 0 { dst := some 158, op := Op.move (Operand.tmp 4), type := 74, pos := "zsortanyfunc.go:441", after := _, guard := none } (v := ?vbr0) rfl (Or.inl ⟨by rfl, ?hybr0⟩) ?restbr0
          case hybr0 => (intro w hSw; (try dsimp only at hSw); go_simp <;> with_reducible rfl)
          try simp only [putW, setZ, setS]
          refine tkW 1 { dst := some 159, op := Op.move (Operand.tmp 0), type := 22, pos := "zsortanyfunc.go:441", after := _, guard := none } (v := ?vbr1) rfl (Or.inl ⟨by rfl, ?hybr1⟩) ?restbr1
          case hybr1 => (intro w hSw; (try dsimp only at hSw); go_simp <;> with_reducible rfl)
          try simp only [putW, setZ, setS]
          refine tkW 2 { dst := some 160, op := Op.move (Operand.tmp 22), type := 3, pos := "zsortanyfunc.go:441", after := _, guard := none } (v := ?vbr2) rfl (Or.inl ⟨by rfl, ?hybr2⟩) ?restbr2
          case hybr2 => (intro w hSw; (try dsimp only at hSw); go_simp <;> with_reducible rfl)
          try simp only [putW, setZ, setS]
          refine tkW 3 { dst := some 161, op := Op.move (Operand.tmp 23), type := 3, pos := "zsortanyfunc.go:441", after := _, guard := none } (v := ?vbr3) rfl (Or.inl ⟨by rfl, ?hybr3⟩) ?restbr3
          case hybr3 => (intro w hSw; (try dsimp only at hSw); go_simp <;> with_reducible rfl)
          try simp only [putW, setZ, setS]
          refine tkW 4 { dst := some 162, op := Op.binOp BinOp.sub 3 (Operand.tmp 160) (Operand.tmp 161) 3, type := 3, pos := "zsortanyfunc.go:441", after := _, guard := none } (v := ?vbr4) rfl (Or.inl ⟨by rfl, ?hybr4⟩) ?restbr4
          case hybr4 => (intro w hSw; (try dsimp only at hSw); go_simp <;> with_reducible rfl)
          try simp only [putW, setZ, setS]
          refine tkW 5 { dst := some 163, op := Op.indexAddr 22 (Operand.tmp 159) (Operand.tmp 162), type := 0, pos := "zsortanyfunc.go:441", after := _, guard := none } (v := ?vbr5) rfl (Or.inl ⟨by rfl, ?hybr5⟩) ?restbr5
          case hybr5 => (intro w hSw; (try dsimp only at hSw); go_simp <;> with_reducible rfl)
          try simp only [putW, setZ, setS]
          refine tkW 6 { dst := some 164, op := Op.load 27 (Operand.tmp 163), type := 27, pos := "zsortanyfunc.go:441", after := _, guard := none } (v := .agg (encRx xk).toArray) rfl (Or.inl ⟨by rfl, ?hybr6⟩) ?restbr6
          case hybr6 => (intro w hSw; (try dsimp only at hSw); exact exec_load_mid rfl rfl hSw.2 Try.underlying27 rfl rec_size)
          try simp only [putW, setZ, setS]
          refine tkW 7 { dst := some 165, op := Op.move (Operand.tmp 0), type := 22, pos := "zsortanyfunc.go:441", after := _, guard := none } (v := ?vbr7) rfl (Or.inl ⟨by rfl, ?hybr7⟩) ?restbr7
          case hybr7 => (intro w hSw; (try dsimp only at hSw); go_simp <;> with_reducible rfl)
          try simp only [putW, setZ, setS]
          refine tkW 8 { dst := some 166, op := Op.move (Operand.tmp 23), type := 3, pos := "zsortanyfunc.go:441", after := _, guard := none } (v := ?vbr8) rfl (Or.inl ⟨by rfl, ?hybr8⟩) ?restbr8
          case hybr8 => (intro w hSw; (try dsimp only at hSw); go_simp <;> with_reducible rfl)
          try simp only [putW, setZ, setS]
          refine tkW 9 { dst := some 167, op := Op.indexAddr 22 (Operand.tmp 165) (Operand.tmp 166), type := 0, pos := "zsortanyfunc.go:441", after := _, guard := none } (v := ?vbr9) rfl (Or.inl ⟨by rfl, ?hybr9⟩) ?restbr9
          case hybr9 => (intro w hSw; (try dsimp only at hSw); go_simp <;> with_reducible rfl)
          try simp only [putW, setZ, setS]
          refine tkW 10 { dst := some 168, op := Op.load 27 (Operand.tmp 167), type := 27, pos := "zsortanyfunc.go:441", after := _, guard := none } (v := .agg (encRx xh).toArray) rfl (Or.inl ⟨by rfl, ?hybr10⟩) ?restbr10
          case hybr10 => (intro w hSw; (try dsimp only at hSw); exact exec_load_mid rfl rfl hSw.1 Try.underlying27 rfl rec_size)
          try simp only [putW, setZ, setS]
          refine wpAnyH_ready (rs := [11]) (by kernel_rfl) (by simp) ?_
          refine AllReadyH.cons (o := { dst := some 169, op := Op.call { callee := Callee.value (Operand.tmp 158), args := #[Operand.tmp 164, Operand.tmp 168], argTypes := #[27, 27] }, type := 3, pos := "zsortanyfunc.go:441", after := _, guard := none }) rfl (fun K hK => ?_) AllReadyH.nil
          go_simp
          refine (wr2_any xk xh _).mono ?_
          rintro e w3 ⟨rfl, hb3⟩
          have HO3 := Lib.hid (HM.out.2.2.1.drew.keep hb3)
          have r3 := HO3.out.at_ HH.out
          have r4 := HO3.out.at_ HKK.out
          have HB3 := Lib.hid (show Below base w w3 from HM.out.2.2.2.drew.trans (hb3.mono (by have := HM.out.2.2.2.size; simp; omega)))
          clear hb3
          try go_wp2_with fail
          refine hK.out _ _ ?_ (fun hHeldbr11 => ?_)
          · exact ⟨r3, r4⟩
          clear hK K hHeldbr
          try simp only [Act.put, List.setIfInBounds_toArray, List.set_cons_zero, List.set_cons_succ]
          refine tkW 12 { dst := some 170, op := Op.binOp BinOp.lss 3 (Operand.tmp 169) (Operand.const (Value.int IntKind.i64 0)) 3, type := 4, pos := "zsortanyfunc.go:441", after := _, guard := none } (v := ?vbr12) rfl (Or.inl ⟨by rfl, ?hybr12⟩) ?restbr12
          case hybr12 => (intro w hSw; (try dsimp only at hSw); go_simp <;> with_reducible rfl)
          try simp only [putW, setZ, setS]
          refine tkW 13 { dst := some 171, op := Op.unOp UnOp.not 4 (Operand.tmp 170), type := 4, pos := "zsortanyfunc.go:441", after := _, guard := none } (v := ?vbr13) rfl (Or.inl ⟨by rfl, ?hybr13⟩) ?restbr13
          case hybr13 => (intro w hSw; (try dsimp only at hSw); go_simp <;> with_reducible rfl)
          try simp only [putW, setZ, setS]
          refine wpAnyH_done (by kernel_rfl) ?_ _
          cases q with
          | false =>
            go_wp2
            go_roundg (r - (h + 1))
            case measure => omega
            case rel => exact ⟨h + 1, r, by omega, by omega, hrh, by omega, by go_num, rfl, (show Hid _ from ⟨.inr (by rw [show h + 1 - 1 = h from by omega, ← HK.out, HKH.out, HKA.out]; have := HQ.out; simpa using this.symm), HM.out.2.1, HO3.out, HB3.out⟩)⟩
          | true =>
            go_wp2
            go_roundg (h - s)
            case measure => omega
            case rel => exact ⟨s, h, hls, hih, by omega, by omega, rfl, rfl, (show Hid _ from ⟨HM.out.1, .inr (by rw [← HK.out, HKH.out, HKA.out]; have := HQ.out; simpa using this.symm), HO3.out, HB3.out⟩)⟩
        · obtain rfl : s = r := by omega
          go_wp2
          go_meet
          exact ⟨s, hls, hrh, rfl, HM.out⟩
    case rest =>
      obtain ⟨s, hls, hsh, rfl, HI⟩ := hcut
      obtain ⟨e, he⟩ : ∃ e, e = mid + m - s := ⟨_, rfl⟩
      have HCU := Lib.hid (show Cutp Rx.wv l a m b mid s e from by
        have h1 := HI.out.1
        have h2 := HI.out.2.1
        rcases HC.out with ⟨c1, c2, c3⟩ | ⟨c1, c2, c3⟩
        · refine ⟨by omega, by omega, by omega, by omega, by omega, by omega, by omega, ?_, ?_⟩
          · rcases h1 with h1 | h1
            · exact .inr (.inl (by omega))
            · by_cases e0 : s = lo
              · exact .inr (.inl (by omega))
              · rw [show mid + m - 1 - (s - 1) = e from by omega] at h1; exact .inr (.inr h1)
          · rcases h2 with h2 | h2
            · exact .inr (.inl (by omega))
            · rw [show mid + m - 1 - s = e - 1 from by omega] at h2; exact .inr (.inr h2)
        · refine ⟨by omega, by omega, by omega, by omega, by omega, by omega, by omega, ?_, ?_⟩
          · rcases h1 with h1 | h1
            · exact .inl (by omega)
            · by_cases e0 : s = lo
              · exact .inl (by omega)
              · rw [show mid + m - 1 - (s - 1) = e from by omega] at h1; exact .inr (.inr h1)
          · rcases h2 with h2 | h2
            · exact .inl (by omega)
            · rw [show mid + m - 1 - s = e - 1 from by omega] at h2; exact .inr (.inr h2))
      have e1 : (mid : Int) + (m : Int) - (s : Int) = (e : Int) := by omega
      have hse : s ≤ m := HCU.out.sm
      have hme : m ≤ e := HCU.out.me
      have heb : e ≤ b := HCU.out.eb
      have has : a ≤ s := HCU.out.as
      have hsm2 : s ≤ mid := HCU.out.smid
      have hme2 : mid ≤ e := HCU.out.mide
      clear he
      have HB := Lib.hid (show OwnR wc base g c l ∧ Below base w wc from HI.out.2.2)
      obtain ⟨w2, rfl⟩ : ∃ x : World, x = wc := ⟨_, rfl⟩
      go_upto_region 39 with fail
      go_cut [185] (fun s185 wx => s185 = .bool (decide (s < m ∧ m < e)) ∧ wx = w2)
      case first =>
        as_aux_lemma =>
        by_cases c1 : s < m
        · have c1' : (s : Int) < (m : Int) := by omega
          by_cases c2 : m < e
          · have c2' : (m : Int) < (e : Int) := by omega
            go_wp2
            go_meet
            exact ⟨by simp [c1, c2], rfl⟩
          · have c2' : ¬ (m : Int) < (e : Int) := by omega
            go_wp2
            go_meet
            exact ⟨by simp [c1, c2], rfl⟩
        · have c1' : ¬ (s : Int) < (m : Int) := by omega
          go_wp2
          go_meet
          exact ⟨by simp [c1], rfl⟩
      case rest =>
        obtain ⟨rfl, ew⟩ := hcut
        replace ew := ew.symm
        subst ew
        go_upto_if 185 with fail
        go_cut [191] (fun s191 wx => Hid (∃ l1, RotL l l1 s m e ∧ OwnR wx base g c l1 ∧ Below base w wx))
        case first =>
          as_aux_lemma =>
          by_cases hrot : s < m ∧ m < e
          · have hd : decide (s < m ∧ m < e) = true := decide_eq_true hrot
            go_wp2_with fail
            refine (CR.out l HL.out.symm s m e _ _ _ _ HB.out.1 rfl rfl rfl hrot.1 hrot.2 (by have := HL.out; omega)).mono ?_
            rintro e1 w3 ⟨rfl, l', hl', hS, hO, hB⟩
            have HX := Lib.hid (show ∃ l1, RotL l l1 s m e ∧ OwnR w3 base g c l1 ∧ Below base w w3 from ⟨l', hS, hO, HB.out.2.trans hB⟩)
            clear hS hO hB hl'
            go_wp2_with fail
            go_meet
            exact HX.out
          · have hd : decide (s < m ∧ m < e) = false := decide_eq_false hrot
            go_wp2
            go_meet
            exact ⟨l, RotL.none l (by omega) hse hme, HB.out.1, HB.out.2⟩
        case rest =>
          obtain ⟨l1, hR, hO, hB1⟩ := hcut.out
          have HO := Lib.hid hO
          have HB1 := Lib.hid hB1
          have hll : l1.length = l.length := hR.1
          obtain ⟨g1, g2, g3, g4, g5, g6, g7⟩ := HCU.out.halves (by have := HL.out; omega) HS1.out HS2.out hR
          have HH := Lib.hid (And.intro hll (And.intro g1 (And.intro g2 (And.intro g3 (And.intro g4 (And.intro g5 (And.intro g6 g7)))))))
          clear hcut hR hO hB1 hll g1 g2 g3 g4 g5 g6 g7 HB
          obtain ⟨w4, rfl⟩ : ∃ x : World, x = wc := ⟨_, rfl⟩
          go_upto_region 41 with fail
          go_cut [199] (fun s199 wx => s199 = .bool (decide (a < s ∧ s < mid)) ∧ wx = w4)
          case first =>
            as_aux_lemma =>
            by_cases c1 : a < s
            · have c1' : (a : Int) < (s : Int) := by omega
              by_cases c2 : s < mid
              · have c2' : (s : Int) < (mid : Int) := by omega
                go_wp2
                go_meet
                exact ⟨by simp [c1, c2], rfl⟩
              · have c2' : ¬ (s : Int) < (mid : Int) := by omega
                go_wp2
                go_meet
                exact ⟨by simp [c1, c2], rfl⟩
            · have c1' : ¬ (a : Int) < (s : Int) := by omega
              go_wp2
              go_meet
              exact ⟨by simp [c1], rfl⟩
          case rest =>
            obtain ⟨rfl, ew⟩ := hcut
            replace ew := ew.symm
            subst ew
            go_upto_if 199 with fail
            go_cut [205] (fun s205 wx => Hid (∃ l2, Srt Rx.wv l2 a mid ∧ Out l1 l2 a mid ∧ Stab Rx.wv l1 l2 ∧ OwnR wx base g c l2 ∧ Below base w wx))
            case first =>
              as_aux_lemma =>
              by_cases hrec : a < s ∧ s < mid
              · have hd : decide (a < s ∧ s < mid) = true := decide_eq_true hrec
                go_wp2_with fail
                refine (IH.out l1 a s mid _ (by have := HH.out.1; have := HL.out; omega) HO.out hrec.1 hrec.2 (by omega) (by omega) (by have := HB1.out.size; omega) HH.out.2.1 HH.out.2.2.1 _ _ _ rfl rfl rfl).mono ?_
                rintro e1 w5 ⟨rfl, l', hl', hO5, hS5, hU5, hT5, hB5⟩
                have HX := Lib.hid (show ∃ l2, Srt Rx.wv l2 a mid ∧ Out l1 l2 a mid ∧ Stab Rx.wv l1 l2 ∧ OwnR w5 base g c l2 ∧ Below base w w5 from ⟨l', hS5, hU5, hT5, hO5, HB1.out.trans hB5⟩)
                clear hO5 hS5 hU5 hT5 hB5 hl'
                go_wp2_with fail
                go_meet
                exact HX.out
              · have hd : decide (a < s ∧ s < mid) = false := decide_eq_false hrec
                go_wp2
                go_meet
                refine ⟨l1, ?_, Out.refl _ _ _, Stab.refl _, HO.out, HB1.out⟩
                by_cases e1 : s = a
                · have := HH.out.2.2.1; rwa [e1] at this
                · have := HH.out.2.1; rwa [show s = mid from by omega] at this
            case rest =>
              obtain ⟨l2, j1, j2, j3, j4, j5⟩ := hcut.out
              have HJ := Lib.hid (And.intro j1 (And.intro j2 j3))
              have HO2 := Lib.hid j4
              have HB2 := Lib.hid j5
              clear hcut j1 j2 j3 j4 j5 HO HB1
              obtain ⟨w6, rfl⟩ : ∃ x : World, x = wc := ⟨_, rfl⟩
              go_upto_region 43 with fail
              go_cut [213] (fun s213 wx => s213 = .bool (decide (mid < e ∧ e < b)) ∧ wx = w6)
              case first =>
                as_aux_lemma =>
                by_cases c1 : mid < e
                · have c1' : (mid : Int) < (e : Int) := by omega
                  by_cases c2 : e < b
                  · have c2' : (e : Int) < (b : Int) := by omega
                    go_wp2
                    go_meet
                    exact ⟨by simp [c1, c2], rfl⟩
                  · have c2' : ¬ (e : Int) < (b : Int) := by omega
                    go_wp2
                    go_meet
                    exact ⟨by simp [c1, c2], rfl⟩
                · have c1' : ¬ (mid : Int) < (e : Int) := by omega
                  go_wp2
                  go_meet
                  exact ⟨by simp [c1], rfl⟩
              case rest =>
                obtain ⟨rfl, ew⟩ := hcut
                replace ew := ew.symm
                subst ew
                have hlen : l2.length = l.length := by have h1 := HJ.out.2.2.len; have h2 := HH.out.1; omega
                have HLEN := Lib.hid hlen
                have hmove : Srt Rx.wv l2 mid e ∧ Srt Rx.wv l2 e b := by
                  have hx : ∀ p, mid ≤ p → l2[p]? = l1[p]? := fun p hp => HJ.out.2.1 p (.inr hp)
                  refine ⟨fun p q x y c1 c2 c3 c4 c5 => ?_, fun p q x y c1 c2 c3 c4 c5 => ?_⟩
                  · rw [hx p (by omega)] at c4
                    rw [hx q (by omega)] at c5
                    exact HH.out.2.2.2.1 p q x y c1 c2 c3 c4 c5
                  · rw [hx p (by omega)] at c4
                    rw [hx q (by omega)] at c5
                    exact HH.out.2.2.2.2.1 p q x y c1 c2 c3 c4 c5
                have HMV := Lib.hid hmove
                have HFIN := Lib.hid (fun (l3 : List Rx) (k1 : Srt Rx.wv l3 mid b) (k2 : Out l2 l3 mid b) (k3 : Stab Rx.wv l2 l3) => (show Srt Rx.wv l3 a b ∧ Out l l3 a b ∧ Stab Rx.wv l l3 from
                  ⟨merge_end (by have h1 := HH.out.1; have h2 := HL.out; omega) (by omega) (by omega) HH.out.2.2.2.2.2.1 HJ.out.1 HJ.out.2.1 HJ.out.2.2 k1 k2 k3,
                    (HH.out.2.2.2.2.2.2.1.trans (HJ.out.2.1.mono (Nat.le_refl _) (by omega))).trans (k2.mono (by omega) (Nat.le_refl _)), (HH.out.2.2.2.2.2.2.2.trans HJ.out.2.2).trans k3⟩))
                clear hlen hmove HJ HH
                by_cases hrec : mid < e ∧ e < b
                · have hd : decide (mid < e ∧ e < b) = true := decide_eq_true hrec
                  go_wp2_with fail
                  refine (IH.out l2 mid e b _ (by have := HLEN.out; have := HL.out; omega) HO2.out hrec.1 hrec.2 (by omega) (by omega) (by have := HB2.out.size; omega) HMV.out.1 HMV.out.2 _ _ _ rfl rfl rfl).mono ?_
                  rintro e1 w7 ⟨rfl, l', hl', hO5, hS5, hU5, hT5, hB5⟩
                  have HX := Lib.hid (And.intro hl' (And.intro hO5 (And.intro (HFIN.out l' hS5 hU5 hT5) (HB2.out.trans hB5))))
                  clear hO5 hS5 hU5 hT5 hB5 hl'
                  go_wp2
                  go_end0
                  exact ⟨rfl, l', HX.out.1.trans HLEN.out, HX.out.2.1, HX.out.2.2.1.1, HX.out.2.2.1.2.1, HX.out.2.2.1.2.2, HX.out.2.2.2⟩
                · have hd : decide (mid < e ∧ e < b) = false := decide_eq_false hrec
                  have HX := Lib.hid (HFIN.out l2 (by
                    by_cases e1 : e = mid
                    · have := HMV.out.2; rwa [e1] at this
                    · have := HMV.out.1; rwa [show e = b from by omega] at this) (Out.refl _ _ _) (Stab.refl _))
                  go_wp2
                  go_end0
                  exact ⟨rfl, l2, HLEN.out, HO2.out, HX.out.1, HX.out.2.1, HX.out.2.2, HB2.out⟩
end Go.Proofs.Ytmcbnpeihedcaaa
