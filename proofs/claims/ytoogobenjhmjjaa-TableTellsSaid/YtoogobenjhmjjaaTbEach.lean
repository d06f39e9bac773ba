/- (*table.heap).each, with page.Share and page.Free. -/
import Derived.Test.YtoogobenjhmjjaaTbRead
import Derived.Test.YtoogobenjhmjjaaTbOwn
import Derived.Test.YtoogobenjhmjjaaQWrite
import Derived.Test.YtoogobenjhmjjaaRfRegion
import Derived.Deep.DrawnRows
namespace Go.Proofs.Ytoogobenjhmjjaa
open Go Go.RowKit Go.Shelf
set_option linter.unusedVariables false
attribute [local go_sem] Oper.semAt_some

theorem TbO.belowHi {w w' : World} {base hi : Nat} {tv : Value} {tvs : List Value} {ts : List (List Int)} (h : TbO w base hi tv tvs ts) (hb : Below hi w w') : TbO w' base hi tv tvs ts := by
  have kept : ∀ {e : TypeId} {k n : Nat} {v : Value} {xs : List Value}, w.ownsRow base e k v n xs → (∀ g, v.ownBlock = some g → g < hi) → w'.ownsRow base e k v n xs := by
    intro e k n v xs hr hg
    refine ⟨hr.1, ?_⟩
    rcases hr.2 with h | ⟨g, cap, cur, rfl, h1, h2, h3⟩
    · exact .inl h
    · refine .inr ⟨g, cap, cur, rfl, h1, ?_, h3⟩
      exact (hb.block g (hg g rfl)).trans h2
  exact ⟨kept h.1 h.2.1, h.2.1, h.2.2.1, fun i v t h1 h2 => ⟨kept (h.2.2.2.1 i v t h1 h2).1 (h.2.2.2.1 i v t h1 h2).2, (h.2.2.2.1 i v t h1 h2).2⟩, h.2.2.2.2⟩
/-- A table of one's own, below hi. -/
theorem TbO.table {w : World} {base hi : Nat} {tv : Value} {tvs : List Value} {ts : List (List Int)} (h : TbO w base hi tv tvs ts) {k : Nat} (hk : k < ts.length) :
    ∃ gT cT A c, tv = .slice (some ⟨gT, 0, none⟩) ts.length cT ∧ gT < hi ∧ tvs[k]? = some (.slice A ts[k].length c) ∧ w.cell? ⟨gT, k, none⟩ = some (.slice A ts[k].length c) ∧ IntsB hi w (.slice A ts[k].length c) ts[k] := by
  obtain ⟨h1, h2, h3, h4, h5⟩ := h
  obtain ⟨g, cap, cur, rfl, _, _, _, _, _, _⟩ := own_form h1 (by omega)
  have hk' : k < tvs.length := by omega
  obtain ⟨ho, hlt⟩ := h4 k tvs[k] ts[k] (List.getElem?_eq_getElem hk') (List.getElem?_eq_getElem hk)
  obtain ⟨A, c, e, _, _⟩ := (Sl.of_own ho).form
  refine ⟨g, cap, A, c, rfl, h2 g rfl, by rw [List.getElem?_eq_getElem hk', e], ?_, e ▸ Sl.of_own ho, ?_⟩
  · have := h1.cells (g := g) rfl k _ (List.getElem?_eq_getElem hk')
    rw [add_none, Nat.zero_add] at this
    rw [this, e]
  · intro a n c' e' h0
    rw [e] at ho hlt
    rw [e'] at ho hlt
    rcases ho.2 with ⟨he, _⟩ | ⟨g', cap', cur', he, _⟩
    · cases he
    · injection he with he _ _
      injection he with he
      subst he
      exact hlt g' rfl

theorem shareL_len (cap : Int) (ps : List Pg) (p : Int) : (shareL cap ps p).2.length = ps.length := by
  unfold shareL; split
  · split
    · rfl
    · simp
  · rfl
theorem freeX_len (cap : Int) (ps : List Pg) (p : Int) : (freeX cap ps p).2.length = ps.length := by
  unfold freeX; split
  · unfold freeL; split <;> simp
  · rfl
/-- What becomes of the pages. -/
def each_shareL (cap : Int) (ps : List Pg) (xs : List Int) : List Pg := xs.foldl (fun ps p => (shareL cap ps p).2) ps
theorem each_shareL_snoc (cap : Int) (ps : List Pg) (xs : List Int) (p : Int) : each_shareL cap ps (xs ++ [p]) = (shareL cap (each_shareL cap ps xs) p).2 := by simp [each_shareL]

theorem each_shareL_len (cap : Int) : ∀ (xs : List Int) (ps : List Pg), (each_shareL cap ps xs).length = ps.length
  | [], ps => rfl
  | x :: xs, ps => by
    show (each_shareL cap (shareL cap ps x).2 xs).length = _
    rw [each_shareL_len cap xs, shareL_len]

/-- What holds between two rounds. -/
def each_shareJ (w w0 : World) (b Bp base : Nat) (cap : Int) (tv : Value) (ps : List Pg) (pre : List (Nat × Int)) (W : World) : Prop :=
  (Blk W Bp 61 #[.pointer (some ⟨b, 0, none⟩)] ∧ Blk W (Bp + 1) 77 #[.func (.func 67) #[] #[]] ∧
    ∃ pv, Blk W b 64 #[.int .i64 cap, pv, tv] ∧ W.ownsRow base 54 5 pv (each_shareL cap ps (pre.map (·.2))).length ((each_shareL cap ps (pre.map (·.2))).flatMap encP)) ∧ Below b w W ∧ Bp + 2 < W.heap.size

theorem each_shareJ_own {w w0 : World} {b Bp base B : Nat} {cap : Int} {tv : Value} {ps : List Pg} (h1 : b ≤ B) (h2 : b < w.heap.size) : OwnFrom B (each_shareJ w w0 b Bp base cap tv ps) :=
  OwnFrom.and (OwnFrom.and ((blk_own (fun _ => Bp) (fun _ => _) (fun _ => _)).from B) (OwnFrom.and ((blk_own (fun _ => Bp + 1) (fun _ => _) (fun _ => _)).from B)
    (Own.from (fun s W W' row hs hg hr => by
      obtain ⟨pv, k1, k2⟩ := hs
      refine ⟨pv, blk_own (β := Unit) (fun _ => b) (fun _ => _) (fun _ => _) () W W' row k1 hg hr, k2.kept hg ?_⟩
      rcases k2.2 with ⟨rfl, _⟩ | ⟨g, cap', cur, rfl, _, hh, _⟩
      · exact .inl rfl
      · refine .inr fun e => ?_
        subst e
        obtain ⟨o, ho, hc⟩ := hr g rfl
        rw [hh] at ho
        injection ho with ho
        subst ho
        simp [Obj.isCells] at hc) B)))
    (OwnFrom.and (ownFrom_below (Nat.le_of_lt h2) h1) (fun s W W' row hs hg _ => Nat.lt_of_lt_of_le hs hg.size))

def each_sharePost (w : World) (base b : Nat) (cap : Int) (ps : List Pg) (ts : List (List Int)) (t : List Int) (e : Ending) (w' : World) : Prop :=
  e = .returned (.tuple #[]) ∧ OwnHp w' base b cap (each_shareL cap ps ((prs t).map (·.2))) ts ∧ Below b w w'

set_option maxRecDepth 100000 in
set_option maxHeartbeats 1000000 in
theorem each_share (base b k : Nat) (cap : Int) (ps : List Pg) (ts : List (List Int)) (t : List Int) (w : World) (hs : OwnHp w base b cap ps ts) (hk : k < ts.length) (ht : ts[k] = t) (hl : t.length ≤ 1000) (hn : ps.length ≤ 1000) :
    Calls Try.prog 66 #[.pointer (some ⟨b, 0, none⟩), .int .i64 (k : Int), .func (.func 67) #[] #[]] w (each_sharePost w base b cap ps ts t) := by
  obtain ⟨pv, tv, tvs, hbase, hB, hP, hT⟩ := hs
  obtain ⟨gT, cT, A, c, rfl, hgT, htk, hcell, hI⟩ := hT.table hk
  rw [ht] at hcell hI
  have hblt := hB.lt
  have p2 : w.cell? ⟨b, 2, none⟩ = some (.slice (some ⟨gT, 0, none⟩) ts.length cT) := by rw [hB.cell]; rfl
  have hk0 : (0 : Int) ≤ (k : Int) := by omega
  have hk1 : (k : Int) < (ts.length : Int) := by omega
  have eg : ∀ args w, (callFunc 67 args).run Try.prog w = .ok (.enter 67 args) w := enters_of Try.func67 (by kernel_rfl) rfl
  have hlT : gT < w.heap.size := by omega
  have HB := Lib.hid hB
  have HP := Lib.hid hP
  have HT := Lib.hid hT
  have HI := Lib.hid hI
  clear hB hP hT hI htk ht
  refine (callsIn_wide (n := 6)).1 ?_
  refine callsIn_of_wp_marks Try.func66 rfl trivial ?_ rfl
  simp only [Try.ntmps66, List.size_toArray, List.length_cons, List.length_nil, Nat.reduceAdd, Nat.reduceSub, Array.replicate_succ, Array.replicate_zero, List.push_toArray, List.append_toArray, List.nil_append, List.cons_append]
  gi_wp2_with (refine ⟨trivial, ?_⟩; gi_at_call 30; refine (callsIn_wide.2 (pages_any _ _ _ _)).mono ?_; rintro e w' ⟨rfl, rfl⟩)
  have hbl : Below w.heap.size w (((w.alloc (.cells #[.pointer (some ⟨b, 0, none⟩)] 61)).alloc (.cells #[.func (.func 67) #[] #[]] 77)).alloc (.cells #[.slice A t.length c] 47)) := (((Below.refl _ w).alloc (Nat.le_refl _) _).alloc (by simp) _).alloc (by simp; omega) _
  refine' wpIn_rangeFunc_ownG rfl (by omega) (gf := 55) (lb := #[.pointer (some ⟨w.heap.size + 1 + 1, 0, none⟩)]) rfl trivial (enters_of Try.func55 (by kernel_rfl) rfl)
    (pages_stops Fence.wide 5 trivial rfl (by omega) (w.heap.size + 1 + 1) b (.slice A t.length c) t hl (((w.alloc (.cells #[.pointer (some ⟨b, 0, none⟩)] 61)).alloc (.cells #[.func (.func 67) #[] #[]] 77)).alloc (.cells #[.slice A t.length c] 47)) (by simp) (by simp; omega) (show _ = _ from (Blk.new_ _ _ _ _ (by simp)).cell 0) (HI.out.below (hbl.mono (by omega)))) belowK_t (belowK_b (by simp; omega)) (Below.refl _ _) (fun _ => rfl)
    (each_shareJ w w b w.heap.size base cap (.slice (some ⟨gT, 0, none⟩) ts.length cT) ps) (fun _ _ _ => False) ?hI ?hIx ?h0 _ ?assign ?body ?done ?stop
  case assign =>
    intro l x W2 K2 hK2
    gi_wp2
    exact hK2
  case hI => exact each_shareJ_own (by simp; omega) hblt
  case hIx => exact fun _ _ _ _ _ hs _ _ => hs
  case h0 =>
    refine ⟨⟨?_, ?_, pv, HB.out.keep hbl, own_below HP.out hbl⟩, hbl.mono (by omega), by simp⟩
    · exact ((Blk.new_ w _ _ _ rfl).alloc _).alloc _
    · exact (Blk.new_ _ _ _ _ (by simp)).alloc _
  case body =>
    rintro l pre ⟨z1, y⟩ W2 ⟨⟨j0, j1, pv2, j2, j3⟩, jB, jz⟩ hlen
    have hmx : Try.prog.follows .mixedOrders = true := by kernel_rfl
    have f0 : W2.cell? ⟨w.heap.size, 0, none⟩ = some (.pointer (some ⟨b, 0, none⟩)) := by rw [j0.cell]; rfl
    have f1 : W2.cell? ⟨w.heap.size + 1, 0, none⟩ = some (.func (.func 67) #[] #[]) := by rw [j1.cell]; rfl
    have b0 : W2.cell? ⟨b, 0, none⟩ = some (.int .i64 cap) := by rw [j2.cell]; rfl
    have b1 : W2.cell? ⟨b, 1, none⟩ = some pv2 := by rw [j2.cell]; rfl
    have b1' : b < W2.heap.size := j2.lt
    have f0' : w.heap.size < W2.heap.size := j0.lt
    have f1' : w.heap.size + 1 < W2.heap.size := j1.lt
    have bf0 : W2.frozen? ⟨b, 0, none⟩ = false := j2.free 0
    have bf1 : W2.frozen? ⟨b, 1, none⟩ = false := j2.free 1
    have HJ := Lib.hid (And.intro j0 (And.intro j1 (And.intro j2 j3)))
    have hlen2 := each_shareL_len cap (pre.map (·.2)) ps
    obtain ⟨L, hL⟩ : ∃ L, each_shareL cap ps (pre.map (·.2)) = L := ⟨_, rfl⟩
    rw [hL] at hlen2 j3 HJ
    have HL := Lib.hid hL
    have hL4 : L.length ≤ 1000 := by omega
    obtain ⟨A3, c3, rfl, _, _⟩ := (Sl.of_own j3).form
    have hst : ∀ W', Below W2.heap.size W2 W' → StV W' (.agg #[.int .i64 cap, .slice A3 L.length c3]) cap L := fun W' h => ⟨_, rfl, (Sl.of_own j3).below h⟩
    have HST := Lib.hid hst
    have BW := (Below.refl W2.heap.size W2).drew
    clear j0 j1 j2 j3 hst hlen2 hL
    gi_wp2
    refine wpIn_region_held_round (S := fun w' => w'.cell? ⟨w.heap.size, 0, none⟩ = some (.pointer (some ⟨b, 0, none⟩)) ∧ w'.cell? ⟨w.heap.size + 1, 0, none⟩ = some (.func (.func 67) #[] #[])) (by kernel_rfl) (by kernel_rfl) ?_ (fun hHeldbr => ?_)
    · exact ⟨f0, f1⟩
    refine wpAnyH_take (i := 0) (oi := { dst := some 20, op := Op.load 61 (Operand.tmp 3), type := 61, pos := "table.go:118", after := _, guard := none }) (v := ?vbr0) rfl (by kernel_rfl) (by kernel_rfl) (by kernel_rfl) (fun _ _ _ h => h) (Or.inl ⟨by rfl, ?hybr0⟩) (by assumption) ?restbr0
    case hybr0 => (intro w hSw; (try dsimp only at hSw); go_simp <;> with_reducible rfl)
    try simp only [Act.put, List.setIfInBounds_toArray, List.set_cons_zero, List.set_cons_succ]
    refine wpAnyH_take (i := 1) (oi := { dst := some 21, op := Op.load 77 (Operand.tmp 5), type := 77, pos := "table.go:118", after := _, guard := none }) (v := ?vbr1) rfl (by kernel_rfl) (by kernel_rfl) (by kernel_rfl) (fun _ _ _ h => h) (Or.inl ⟨by rfl, ?hybr1⟩) (by assumption) ?restbr1
    case hybr1 => (intro w hSw; (try dsimp only at hSw); go_simp <;> with_reducible rfl)
    try simp only [Act.put, List.setIfInBounds_toArray, List.set_cons_zero, List.set_cons_succ]
    refine wpAnyH_take (i := 2) (oi := { dst := some 22, op := Op.load 61 (Operand.tmp 3), type := 61, pos := "table.go:118", after := _, guard := none }) (v := ?vbr2) rfl (by kernel_rfl) (by kernel_rfl) (by kernel_rfl) (fun _ _ _ h => h) (Or.inl ⟨by rfl, ?hybr2⟩) (by assumption) ?restbr2
    case hybr2 => (intro w hSw; (try dsimp only at hSw); go_simp <;> with_reducible rfl)
    try simp only [Act.put, List.setIfInBounds_toArray, List.set_cons_zero, List.set_cons_succ]
    refine wpAnyH_take (i := 3) (oi := { dst := some 23, op := Op.nilCheck (Operand.tmp 22), type := 0, pos := "table.go:118", after := _, guard := none }) (v := ?vbr3) rfl (by kernel_rfl) (by kernel_rfl) (by kernel_rfl) (fun _ _ _ h => h) (Or.inl ⟨by rfl, ?hybr3⟩) (by assumption) ?restbr3
    case hybr3 => (intro w hSw; (try dsimp only at hSw); go_simp <;> with_reducible rfl)
    try simp only [Act.put, List.setIfInBounds_toArray, List.set_cons_zero, List.set_cons_succ]
    refine wpAnyH_take (i := 4) (oi := { dst := some 24, op := Op.fieldAddr 64 (Operand.tmp 23) 0, type := 0, pos := "table.go:118", after := _, guard := none }) (v := ?vbr4) rfl (by kernel_rfl) (by kernel_rfl) (by kernel_rfl) (fun _ _ _ h => h) (Or.inl ⟨by rfl, ?hybr4⟩) (by assumption) ?restbr4
    case hybr4 => (intro w hSw; (try dsimp only at hSw); go_simp <;> with_reducible rfl)
    try simp only [Act.put, List.setIfInBounds_toArray, List.set_cons_zero, List.set_cons_succ]
    refine wpAnyH_take (i := 5) (oi := { dst := some 25, op := Op.fieldAddr 28 (Operand.tmp 24) 0, type := 0, pos := "table.go:118", after := _, guard := none }) (v := ?vbr5) rfl (by kernel_rfl) (by kernel_rfl) (by kernel_rfl) (fun _ _ _ h => h) (Or.inl ⟨by rfl, ?hybr5⟩) (by assumption) ?restbr5
    case hybr5 => (intro w hSw; (try dsimp only at hSw); go_simp <;> with_reducible rfl)
    try simp only [Act.put, List.setIfInBounds_toArray, List.set_cons_zero, List.set_cons_succ]
    refine wpAnyH_take (i := 7) (oi := { dst := some 27, op := Op.move (Operand.tmp 7), type := 3, pos := "table.go:118", after := _, guard := none }) (v := ?vbr7) rfl (by kernel_rfl) (by kernel_rfl) (by kernel_rfl) (fun _ _ _ h => h) (Or.inl ⟨by rfl, ?hybr7⟩) (by assumption) ?restbr7
    case hybr7 => (intro w hSw; (try dsimp only at hSw); go_simp <;> with_reducible rfl)
    try simp only [Act.put, List.setIfInBounds_toArray, List.set_cons_zero, List.set_cons_succ]
    refine wpAnyH_ready (rs := [6]) (by kernel_rfl) (by simp) ?_
    refine AllReadyH.cons (o := { dst := some 26, op := Op.load 25 (Operand.tmp 25), type := 25, pos := "table.go:118", after := _, guard := none }) rfl (fun K hK => ?_) AllReadyH.nil
    go_simp
    skip
    refine hK.out _ _ ?_ (fun hHeldbr6 => ?_)
    · exact ⟨f0, f1⟩
    clear hK K hHeldbr
    try simp only [Act.put, List.setIfInBounds_toArray, List.set_cons_zero, List.set_cons_succ]
    refine wpAnyH_ready (rs := [8]) (by kernel_rfl) (by simp) ?_
    refine AllReadyH.cons (o := { dst := some 28, op := Op.call { callee := Callee.value (Operand.tmp 21), args := #[Operand.tmp 26, Operand.tmp 27], argTypes := #[25, 3] }, type := 76, pos := "table.go:118", after := _, guard := none }) rfl (fun K hK => ?_) AllReadyH.nil
    go_simp
    refine (Share_own _ cap L y _ (HST.out _ BW) hL4).mono ?_
    rintro e w' ⟨v', rfl, hst', hb'⟩
    have hX := BW.trans (hb'.mono BW.size)
    obtain ⟨sv, rfl, hown⟩ := hst'
    obtain ⟨A4, c4, rfl, _, _⟩ := (Sl.of_own hown).form
    have x0 := (hX.cell (p := ⟨b, 0, none⟩) b1').trans b0
    have x1 := (hX.cell (p := ⟨b, 1, none⟩) b1').trans b1
    have xf0 := (hX.frozen (p := ⟨b, 0, none⟩) b1').trans bf0
    have xf1 := (hX.frozen (p := ⟨b, 1, none⟩) b1').trans bf1
    have xp := (hX.cell (p := ⟨w.heap.size, 0, none⟩) f0').trans f0
    have xq := (hX.cell (p := ⟨w.heap.size + 1, 0, none⟩) f1').trans f1
    have HX := Lib.hid hX
    have HO := Lib.hid hown
    clear hX hown hb'
    try go_wp2_with fail
    refine hK.out _ _ ?_ (fun hHeldbr8 => ?_)
    · exact ⟨xp, xq⟩
    clear hK K hHeldbr6
    try simp only [Act.put, List.setIfInBounds_toArray, List.set_cons_zero, List.set_cons_succ]
    refine wpAnyH_take (i := 9) (oi := { dst := some 19, op := Op.move (Operand.tmp 28), type := 76, pos := "table.go:118", after := _, guard := none }) (v := ?vbr9) rfl (by kernel_rfl) (by kernel_rfl) (by kernel_rfl) (fun _ _ _ h => h) (Or.inl ⟨by rfl, ?hybr9⟩) (by assumption) ?restbr9
    case hybr9 => (intro w hSw; (try dsimp only at hSw); go_simp <;> with_reducible rfl)
    try simp only [Act.put, List.setIfInBounds_toArray, List.set_cons_zero, List.set_cons_succ]
    refine wpAnyH_take (i := 10) (oi := { dst := some 29, op := Op.extract (Operand.tmp 19) 0, type := 25, pos := "table.go:118", after := _, guard := none }) (v := ?vbr10) rfl (by kernel_rfl) (by kernel_rfl) (by kernel_rfl) (fun _ _ _ h => h) (Or.inl ⟨by rfl, ?hybr10⟩) (by assumption) ?restbr10
    case hybr10 => (intro w hSw; (try dsimp only at hSw); go_simp <;> with_reducible rfl)
    try simp only [Act.put, List.setIfInBounds_toArray, List.set_cons_zero, List.set_cons_succ]
    refine wpAnyH_take (i := 11) (oi := { dst := some 30, op := Op.extract (Operand.tmp 19) 1, type := 31, pos := "table.go:118", after := _, guard := none }) (v := ?vbr11) rfl (by kernel_rfl) (by kernel_rfl) (by kernel_rfl) (fun _ _ _ h => h) (Or.inl ⟨by rfl, ?hybr11⟩) (by assumption) ?restbr11
    case hybr11 => (intro w hSw; (try dsimp only at hSw); go_simp <;> with_reducible rfl)
    try simp only [Act.put, List.setIfInBounds_toArray, List.set_cons_zero, List.set_cons_succ]
    refine wpAnyH_take (i := 12) (oi := { dst := some 31, op := Op.nilCheck (Operand.tmp 20), type := 0, pos := "table.go:118", after := _, guard := none }) (v := ?vbr12) rfl (by kernel_rfl) (by kernel_rfl) (by kernel_rfl) (fun _ _ _ h => h) (Or.inl ⟨by rfl, ?hybr12⟩) (by assumption) ?restbr12
    case hybr12 => (intro w hSw; (try dsimp only at hSw); go_simp <;> with_reducible rfl)
    try simp only [Act.put, List.setIfInBounds_toArray, List.set_cons_zero, List.set_cons_succ]
    refine wpAnyH_take (i := 13) (oi := { dst := some 32, op := Op.fieldAddr 64 (Operand.tmp 31) 0, type := 0, pos := "table.go:118", after := _, guard := none }) (v := ?vbr13) rfl (by kernel_rfl) (by kernel_rfl) (by kernel_rfl) (fun _ _ _ h => h) (Or.inl ⟨by rfl, ?hybr13⟩) (by assumption) ?restbr13
    case hybr13 => (intro w hSw; (try dsimp only at hSw); go_simp <;> with_reducible rfl)
    try simp only [Act.put, List.setIfInBounds_toArray, List.set_cons_zero, List.set_cons_succ]
    refine wpAnyH_take (i := 14) (oi := { dst := some 33, op := Op.fieldAddr 28 (Operand.tmp 32) 0, type := 0, pos := "table.go:118", after := _, guard := none }) (v := ?vbr14) rfl (by kernel_rfl) (by kernel_rfl) (by kernel_rfl) (fun _ _ _ h => h) (Or.inl ⟨by rfl, ?hybr14⟩) (by assumption) ?restbr14
    case hybr14 => (intro w hSw; (try dsimp only at hSw); go_simp <;> with_reducible rfl)
    try simp only [Act.put, List.setIfInBounds_toArray, List.set_cons_zero, List.set_cons_succ]
    refine wpAnyH_ready (rs := [15]) (by kernel_rfl) (by simp) ?_
    refine AllReadyH.cons (o := { dst := none, op := Op.store 25 (Operand.tmp 33) (Operand.tmp 29), type := 0, pos := "table.go:118", after := _, guard := none }) rfl (fun K hK => ?_) AllReadyH.nil
    go_simp
    skip
    refine hK.out _ _ ?_ (fun hHeldbr15 => ?_)
    · (refine ⟨?_, ?_⟩ <;> (rw [World.cell?_setCell_far _ _ _ _ (by simp; omega), World.cell?_setCell_far _ _ _ _ (by simp; omega)]; assumption))
    clear hK K hHeldbr8
    try simp only [Act.put, List.setIfInBounds_toArray, List.set_cons_zero, List.set_cons_succ]
    refine wpAnyH_done (by kernel_rfl) ?_ _
    obtain ⟨j0, j1, j2, j3⟩ := HJ.out
    have j2' := ((j2.keep HX.out).set_ 0 (.int .i64 cap)).set_ 1 (.slice A4 (shareL cap L y).2.length c4)
    have hY : Below b W2 ((w'.setCell ⟨b, 0, none⟩ (.int .i64 cap)).setCell ⟨b, 1, none⟩ (.slice A4 (shareL cap L y).2.length c4)) := ((HX.out.mono (show b ≤ W2.heap.size by omega)).setCell (Nat.le_refl _) _).setCell (Nat.le_refl _) _
    show KeepsFrom _ _ _ ∧ Below _ _ _ ∧ _
    refine ⟨?_, hY, ⟨((j0.keep HX.out).far (by simp; omega) _).far (by simp; omega) _, ((j1.keep HX.out).far (by simp; omega) _).far (by simp; omega) _, _, j2', ?_⟩, jB.trans hY, Nat.lt_of_lt_of_le jz hY.size⟩
    · exact ((keeps_below (by simp; omega) HX.out).trans (keeps_setCell _ _ _ _)).trans (keeps_setCell _ _ _ _)
    · simp only [List.map_append, List.map_cons, List.map_nil]
      rw [each_shareL_snoc, HL.out]
      have hne : ∀ o : Nat, (Value.slice A4 (shareL cap L y).2.length c4).ownBlock ≠ some (⟨b, o, none⟩ : Addr).block := fun o e => by
        have h1 : W2.heap.size ≤ b := (own_block_ge HO.out e).1
        omega
      exact own_far (own_far (ownsRow_mono HO.out (show base ≤ W2.heap.size by omega)) (hne 0) _) (hne 1) _
  case done =>
    rintro D ys W2 hD rfl ⟨⟨j0, j1, pv2, j2, j3⟩, jB, jz⟩ hK
    have HJ := Lib.hid (And.intro j2 j3)
    clear j0 j1 j2 j3
    gi_wp2
    show LeavesInM _ _ _ _ _ _ ([D].map markD) _ _
    refine leaves_marks (B := b) [D] _ (by simp) (fun D' hD' => by rw [List.mem_singleton] at hD'; subst hD'; exact ⟨by simp at hD; omega, hK⟩) fun W' hq => ⟨.tuple #[], results_none rfl _ _ _, rfl, ⟨_, _, tvs, hbase, hq.1 _ _ _ HJ.out.1, hq.own HJ.out.2, HT.out.belowHi (jB.trans hq.2)⟩, jB.trans hq.2⟩
  case stop =>
    rintro D c2 pre W2 _ _ h _
    exact h.elim
/-- What becomes of the pages. -/
def each_freeL (cap : Int) (ps : List Pg) (xs : List Int) : List Pg := xs.foldl (fun ps p => (freeX cap ps p).2) ps
theorem each_freeL_snoc (cap : Int) (ps : List Pg) (xs : List Int) (p : Int) : each_freeL cap ps (xs ++ [p]) = (freeX cap (each_freeL cap ps xs) p).2 := by simp [each_freeL]

theorem each_freeL_len (cap : Int) : ∀ (xs : List Int) (ps : List Pg), (each_freeL cap ps xs).length = ps.length
  | [], ps => rfl
  | x :: xs, ps => by
    show (each_freeL cap (freeX cap ps x).2 xs).length = _
    rw [each_freeL_len cap xs, freeX_len]

/-- What holds between two rounds. -/
def each_freeJ (w w0 : World) (b Bp base : Nat) (cap : Int) (tv : Value) (ps : List Pg) (pre : List (Nat × Int)) (W : World) : Prop :=
  (Blk W Bp 61 #[.pointer (some ⟨b, 0, none⟩)] ∧ Blk W (Bp + 1) 77 #[.func (.func 68) #[] #[]] ∧
    ∃ pv, Blk W b 64 #[.int .i64 cap, pv, tv] ∧ W.ownsRow base 54 5 pv (each_freeL cap ps (pre.map (·.2))).length ((each_freeL cap ps (pre.map (·.2))).flatMap encP)) ∧ Below b w W ∧ Bp + 2 < W.heap.size

theorem each_freeJ_own {w w0 : World} {b Bp base B : Nat} {cap : Int} {tv : Value} {ps : List Pg} (h1 : b ≤ B) (h2 : b < w.heap.size) : OwnFrom B (each_freeJ w w0 b Bp base cap tv ps) :=
  OwnFrom.and (OwnFrom.and ((blk_own (fun _ => Bp) (fun _ => _) (fun _ => _)).from B) (OwnFrom.and ((blk_own (fun _ => Bp + 1) (fun _ => _) (fun _ => _)).from B)
    (Own.from (fun s W W' row hs hg hr => by
      obtain ⟨pv, k1, k2⟩ := hs
      refine ⟨pv, blk_own (β := Unit) (fun _ => b) (fun _ => _) (fun _ => _) () W W' row k1 hg hr, k2.kept hg ?_⟩
      rcases k2.2 with ⟨rfl, _⟩ | ⟨g, cap', cur, rfl, _, hh, _⟩
      · exact .inl rfl
      · refine .inr fun e => ?_
        subst e
        obtain ⟨o, ho, hc⟩ := hr g rfl
        rw [hh] at ho
        injection ho with ho
        subst ho
        simp [Obj.isCells] at hc) B)))
    (OwnFrom.and (ownFrom_below (Nat.le_of_lt h2) h1) (fun s W W' row hs hg _ => Nat.lt_of_lt_of_le hs hg.size))

def each_freePost (w : World) (base b : Nat) (cap : Int) (ps : List Pg) (ts : List (List Int)) (t : List Int) (e : Ending) (w' : World) : Prop :=
  e = .returned (.tuple #[]) ∧ OwnHp w' base b cap (each_freeL cap ps ((prs t).map (·.2))) ts ∧ Below b w w'

set_option maxRecDepth 100000 in
set_option maxHeartbeats 1000000 in
theorem each_free (base b k : Nat) (cap : Int) (ps : List Pg) (ts : List (List Int)) (t : List Int) (w : World) (hs : OwnHp w base b cap ps ts) (hk : k < ts.length) (ht : ts[k] = t) (hl : t.length ≤ 1000) (hn : ps.length ≤ 1000) :
    Calls Try.prog 66 #[.pointer (some ⟨b, 0, none⟩), .int .i64 (k : Int), .func (.func 68) #[] #[]] w (each_freePost w base b cap ps ts t) := by
  obtain ⟨pv, tv, tvs, hbase, hB, hP, hT⟩ := hs
  obtain ⟨gT, cT, A, c, rfl, hgT, htk, hcell, hI⟩ := hT.table hk
  rw [ht] at hcell hI
  have hblt := hB.lt
  have p2 : w.cell? ⟨b, 2, none⟩ = some (.slice (some ⟨gT, 0, none⟩) ts.length cT) := by rw [hB.cell]; rfl
  have hk0 : (0 : Int) ≤ (k : Int) := by omega
  have hk1 : (k : Int) < (ts.length : Int) := by omega
  have eg : ∀ args w, (callFunc 68 args).run Try.prog w = .ok (.enter 68 args) w := enters_of Try.func68 (by kernel_rfl) rfl
  have hlT : gT < w.heap.size := by omega
  have HB := Lib.hid hB
  have HP := Lib.hid hP
  have HT := Lib.hid hT
  have HI := Lib.hid hI
  clear hB hP hT hI htk ht
  refine (callsIn_wide (n := 6)).1 ?_
  refine callsIn_of_wp_marks Try.func66 rfl trivial ?_ rfl
  simp only [Try.ntmps66, List.size_toArray, List.length_cons, List.length_nil, Nat.reduceAdd, Nat.reduceSub, Array.replicate_succ, Array.replicate_zero, List.push_toArray, List.append_toArray, List.nil_append, List.cons_append]
  gi_wp2_with (refine ⟨trivial, ?_⟩; gi_at_call 30; refine (callsIn_wide.2 (pages_any _ _ _ _)).mono ?_; rintro e w' ⟨rfl, rfl⟩)
  have hbl : Below w.heap.size w (((w.alloc (.cells #[.pointer (some ⟨b, 0, none⟩)] 61)).alloc (.cells #[.func (.func 68) #[] #[]] 77)).alloc (.cells #[.slice A t.length c] 47)) := (((Below.refl _ w).alloc (Nat.le_refl _) _).alloc (by simp) _).alloc (by simp; omega) _
  refine' wpIn_rangeFunc_ownG rfl (by omega) (gf := 55) (lb := #[.pointer (some ⟨w.heap.size + 1 + 1, 0, none⟩)]) rfl trivial (enters_of Try.func55 (by kernel_rfl) rfl)
    (pages_stops Fence.wide 5 trivial rfl (by omega) (w.heap.size + 1 + 1) b (.slice A t.length c) t hl (((w.alloc (.cells #[.pointer (some ⟨b, 0, none⟩)] 61)).alloc (.cells #[.func (.func 68) #[] #[]] 77)).alloc (.cells #[.slice A t.length c] 47)) (by simp) (by simp; omega) (show _ = _ from (Blk.new_ _ _ _ _ (by simp)).cell 0) (HI.out.below (hbl.mono (by omega)))) belowK_t (belowK_b (by simp; omega)) (Below.refl _ _) (fun _ => rfl)
    (each_freeJ w w b w.heap.size base cap (.slice (some ⟨gT, 0, none⟩) ts.length cT) ps) (fun _ _ _ => False) ?hI ?hIx ?h0 _ ?assign ?body ?done ?stop
  case assign =>
    intro l x W2 K2 hK2
    gi_wp2
    exact hK2
  case hI => exact each_freeJ_own (by simp; omega) hblt
  case hIx => exact fun _ _ _ _ _ hs _ _ => hs
  case h0 =>
    refine ⟨⟨?_, ?_, pv, HB.out.keep hbl, own_below HP.out hbl⟩, hbl.mono (by omega), by simp⟩
    · exact ((Blk.new_ w _ _ _ rfl).alloc _).alloc _
    · exact (Blk.new_ _ _ _ _ (by simp)).alloc _
  case body =>
    rintro l pre ⟨z1, y⟩ W2 ⟨⟨j0, j1, pv2, j2, j3⟩, jB, jz⟩ hlen
    have hmx : Try.prog.follows .mixedOrders = true := by kernel_rfl
    have f0 : W2.cell? ⟨w.heap.size, 0, none⟩ = some (.pointer (some ⟨b, 0, none⟩)) := by rw [j0.cell]; rfl
    have f1 : W2.cell? ⟨w.heap.size + 1, 0, none⟩ = some (.func (.func 68) #[] #[]) := by rw [j1.cell]; rfl
    have b0 : W2.cell? ⟨b, 0, none⟩ = some (.int .i64 cap) := by rw [j2.cell]; rfl
    have b1 : W2.cell? ⟨b, 1, none⟩ = some pv2 := by rw [j2.cell]; rfl
    have b1' : b < W2.heap.size := j2.lt
    have f0' : w.heap.size < W2.heap.size := j0.lt
    have f1' : w.heap.size + 1 < W2.heap.size := j1.lt
    have bf0 : W2.frozen? ⟨b, 0, none⟩ = false := j2.free 0
    have bf1 : W2.frozen? ⟨b, 1, none⟩ = false := j2.free 1
    have HJ := Lib.hid (And.intro j0 (And.intro j1 (And.intro j2 j3)))
    have hlen2 := each_freeL_len cap (pre.map (·.2)) ps
    obtain ⟨L, hL⟩ : ∃ L, each_freeL cap ps (pre.map (·.2)) = L := ⟨_, rfl⟩
    rw [hL] at hlen2 j3 HJ
    have HL := Lib.hid hL
    have hL4 : L.length ≤ 1000 := by omega
    obtain ⟨A3, c3, rfl, _, _⟩ := (Sl.of_own j3).form
    have hst : ∀ W', Below W2.heap.size W2 W' → StV W' (.agg #[.int .i64 cap, .slice A3 L.length c3]) cap L := fun W' h => ⟨_, rfl, (Sl.of_own j3).below h⟩
    have HST := Lib.hid hst
    have BW := (Below.refl W2.heap.size W2).drew
    clear j0 j1 j2 j3 hst hlen2 hL
    gi_wp2
    refine wpIn_region_held_round (S := fun w' => w'.cell? ⟨w.heap.size, 0, none⟩ = some (.pointer (some ⟨b, 0, none⟩)) ∧ w'.cell? ⟨w.heap.size + 1, 0, none⟩ = some (.func (.func 68) #[] #[])) (by kernel_rfl) (by kernel_rfl) ?_ (fun hHeldcr => ?_)
    · exact ⟨f0, f1⟩
    refine wpAnyH_take (i := 0) (oi := { dst := some 20, op := Op.load 61 (Operand.tmp 3), type := 61, pos := "table.go:118", after := _, guard := none }) (v := ?vcr0) rfl (by kernel_rfl) (by kernel_rfl) (by kernel_rfl) (fun _ _ _ h => h) (Or.inl ⟨by rfl, ?hycr0⟩) (by assumption) ?restcr0
    case hycr0 => (intro w hSw; (try dsimp only at hSw); go_simp <;> with_reducible rfl)
    try simp only [Act.put, List.setIfInBounds_toArray, List.set_cons_zero, List.set_cons_succ]
    refine wpAnyH_take (i := 1) (oi := { dst := some 21, op := Op.load 77 (Operand.tmp 5), type := 77, pos := "table.go:118", after := _, guard := none }) (v := ?vcr1) rfl (by kernel_rfl) (by kernel_rfl) (by kernel_rfl) (fun _ _ _ h => h) (Or.inl ⟨by rfl, ?hycr1⟩) (by assumption) ?restcr1
    case hycr1 => (intro w hSw; (try dsimp only at hSw); go_simp <;> with_reducible rfl)
    try simp only [Act.put, List.setIfInBounds_toArray, List.set_cons_zero, List.set_cons_succ]
    refine wpAnyH_take (i := 2) (oi := { dst := some 22, op := Op.load 61 (Operand.tmp 3), type := 61, pos := "table.go:118", after := _, guard := none }) (v := ?vcr2) rfl (by kernel_rfl) (by kernel_rfl) (by kernel_rfl) (fun _ _ _ h => h) (Or.inl ⟨by rfl, ?hycr2⟩) (by assumption) ?restcr2
    case hycr2 => (intro w hSw; (try dsimp only at hSw); go_simp <;> with_reducible rfl)
    try simp only [Act.put, List.setIfInBounds_toArray, List.set_cons_zero, List.set_cons_succ]
    refine wpAnyH_take (i := 3) (oi := { dst := some 23, op := Op.nilCheck (Operand.tmp 22), type := 0, pos := "table.go:118", after := _, guard := none }) (v := ?vcr3) rfl (by kernel_rfl) (by kernel_rfl) (by kernel_rfl) (fun _ _ _ h => h) (Or.inl ⟨by rfl, ?hycr3⟩) (by assumption) ?restcr3
    case hycr3 => (intro w hSw; (try dsimp only at hSw); go_simp <;> with_reducible rfl)
    try simp only [Act.put, List.setIfInBounds_toArray, List.set_cons_zero, List.set_cons_succ]
    refine wpAnyH_take (i := 4) (oi := { dst := some 24, op := Op.fieldAddr 64 (Operand.tmp 23) 0, type := 0, pos := "table.go:118", after := _, guard := none }) (v := ?vcr4) rfl (by kernel_rfl) (by kernel_rfl) (by kernel_rfl) (fun _ _ _ h => h) (Or.inl ⟨by rfl, ?hycr4⟩) (by assumption) ?restcr4
    case hycr4 => (intro w hSw; (try dsimp only at hSw); go_simp <;> with_reducible rfl)
    try simp only [Act.put, List.setIfInBounds_toArray, List.set_cons_zero, List.set_cons_succ]
    refine wpAnyH_take (i := 5) (oi := { dst := some 25, op := Op.fieldAddr 28 (Operand.tmp 24) 0, type := 0, pos := "table.go:118", after := _, guard := none }) (v := ?vcr5) rfl (by kernel_rfl) (by kernel_rfl) (by kernel_rfl) (fun _ _ _ h => h) (Or.inl ⟨by rfl, ?hycr5⟩) (by assumption) ?restcr5
    case hycr5 => (intro w hSw; (try dsimp only at hSw); go_simp <;> with_reducible rfl)
    try simp only [Act.put, List.setIfInBounds_toArray, List.set_cons_zero, List.set_cons_succ]
    refine wpAnyH_take (i := 7) (oi := { dst := some 27, op := Op.move (Operand.tmp 7), type := 3, pos := "table.go:118", after := _, guard := none }) (v := ?vcr7) rfl (by kernel_rfl) (by kernel_rfl) (by kernel_rfl) (fun _ _ _ h => h) (Or.inl ⟨by rfl, ?hycr7⟩) (by assumption) ?restcr7
    case hycr7 => (intro w hSw; (try dsimp only at hSw); go_simp <;> with_reducible rfl)
    try simp only [Act.put, List.setIfInBounds_toArray, List.set_cons_zero, List.set_cons_succ]
    refine wpAnyH_ready (rs := [6]) (by kernel_rfl) (by simp) ?_
    refine AllReadyH.cons (o := { dst := some 26, op := Op.load 25 (Operand.tmp 25), type := 25, pos := "table.go:118", after := _, guard := none }) rfl (fun K hK => ?_) AllReadyH.nil
    go_simp
    skip
    refine hK.out _ _ ?_ (fun hHeldcr6 => ?_)
    · exact ⟨f0, f1⟩
    clear hK K hHeldcr
    try simp only [Act.put, List.setIfInBounds_toArray, List.set_cons_zero, List.set_cons_succ]
    refine wpAnyH_ready (rs := [8]) (by kernel_rfl) (by simp) ?_
    refine AllReadyH.cons (o := { dst := some 28, op := Op.call { callee := Callee.value (Operand.tmp 21), args := #[Operand.tmp 26, Operand.tmp 27], argTypes := #[25, 3] }, type := 76, pos := "table.go:118", after := _, guard := none }) rfl (fun K hK => ?_) AllReadyH.nil
    go_simp
    refine (Free_own _ cap L y _ (HST.out _ BW) hL4).mono ?_
    rintro e w' ⟨v', rfl, hst', hb'⟩
    have hX := BW.trans (hb'.mono BW.size)
    obtain ⟨sv, rfl, hown⟩ := hst'
    obtain ⟨A4, c4, rfl, _, _⟩ := (Sl.of_own hown).form
    have x0 := (hX.cell (p := ⟨b, 0, none⟩) b1').trans b0
    have x1 := (hX.cell (p := ⟨b, 1, none⟩) b1').trans b1
    have xf0 := (hX.frozen (p := ⟨b, 0, none⟩) b1').trans bf0
    have xf1 := (hX.frozen (p := ⟨b, 1, none⟩) b1').trans bf1
    have xp := (hX.cell (p := ⟨w.heap.size, 0, none⟩) f0').trans f0
    have xq := (hX.cell (p := ⟨w.heap.size + 1, 0, none⟩) f1').trans f1
    have HX := Lib.hid hX
    have HO := Lib.hid hown
    clear hX hown hb'
    try go_wp2_with fail
    refine hK.out _ _ ?_ (fun hHeldcr8 => ?_)
    · exact ⟨xp, xq⟩
    clear hK K hHeldcr6
    try simp only [Act.put, List.setIfInBounds_toArray, List.set_cons_zero, List.set_cons_succ]
    refine wpAnyH_take (i := 9) (oi := { dst := some 19, op := Op.move (Operand.tmp 28), type := 76, pos := "table.go:118", after := _, guard := none }) (v := ?vcr9) rfl (by kernel_rfl) (by kernel_rfl) (by kernel_rfl) (fun _ _ _ h => h) (Or.inl ⟨by rfl, ?hycr9⟩) (by assumption) ?restcr9
    case hycr9 => (intro w hSw; (try dsimp only at hSw); go_simp <;> with_reducible rfl)
    try simp only [Act.put, List.setIfInBounds_toArray, List.set_cons_zero, List.set_cons_succ]
    refine wpAnyH_take (i := 10) (oi := { dst := some 29, op := Op.extract (Operand.tmp 19) 0, type := 25, pos := "table.go:118", after := _, guard := none }) (v := ?vcr10) rfl (by kernel_rfl) (by kernel_rfl) (by kernel_rfl) (fun _ _ _ h => h) (Or.inl ⟨by rfl, ?hycr10⟩) (by assumption) ?restcr10
    case hycr10 => (intro w hSw; (try dsimp only at hSw); go_simp <;> with_reducible rfl)
    try simp only [Act.put, List.setIfInBounds_toArray, List.set_cons_zero, List.set_cons_succ]
    refine wpAnyH_take (i := 11) (oi := { dst := some 30, op := Op.extract (Operand.tmp 19) 1, type := 31, pos := "table.go:118", after := _, guard := none }) (v := ?vcr11) rfl (by kernel_rfl) (by kernel_rfl) (by kernel_rfl) (fun _ _ _ h => h) (Or.inl ⟨by rfl, ?hycr11⟩) (by assumption) ?restcr11
    case hycr11 => (intro w hSw; (try dsimp only at hSw); go_simp <;> with_reducible rfl)
    try simp only [Act.put, List.setIfInBounds_toArray, List.set_cons_zero, List.set_cons_succ]
    refine wpAnyH_take (i := 12) (oi := { dst := some 31, op := Op.nilCheck (Operand.tmp 20), type := 0, pos := "table.go:118", after := _, guard := none }) (v := ?vcr12) rfl (by kernel_rfl) (by kernel_rfl) (by kernel_rfl) (fun _ _ _ h => h) (Or.inl ⟨by rfl, ?hycr12⟩) (by assumption) ?restcr12
    case hycr12 => (intro w hSw; (try dsimp only at hSw); go_simp <;> with_reducible rfl)
    try simp only [Act.put, List.setIfInBounds_toArray, List.set_cons_zero, List.set_cons_succ]
    refine wpAnyH_take (i := 13) (oi := { dst := some 32, op := Op.fieldAddr 64 (Operand.tmp 31) 0, type := 0, pos := "table.go:118", after := _, guard := none }) (v := ?vcr13) rfl (by kernel_rfl) (by kernel_rfl) (by kernel_rfl) (fun _ _ _ h => h) (Or.inl ⟨by rfl, ?hycr13⟩) (by assumption) ?restcr13
    case hycr13 => (intro w hSw; (try dsimp only at hSw); go_simp <;> with_reducible rfl)
    try simp only [Act.put, List.setIfInBounds_toArray, List.set_cons_zero, List.set_cons_succ]
    refine wpAnyH_take (i := 14) (oi := { dst := some 33, op := Op.fieldAddr 28 (Operand.tmp 32) 0, type := 0, pos := "table.go:118", after := _, guard := none }) (v := ?vcr14) rfl (by kernel_rfl) (by kernel_rfl) (by kernel_rfl) (fun _ _ _ h => h) (Or.inl ⟨by rfl, ?hycr14⟩) (by assumption) ?restcr14
    case hycr14 => (intro w hSw; (try dsimp only at hSw); go_simp <;> with_reducible rfl)
    try simp only [Act.put, List.setIfInBounds_toArray, List.set_cons_zero, List.set_cons_succ]
    refine wpAnyH_ready (rs := [15]) (by kernel_rfl) (by simp) ?_
    refine AllReadyH.cons (o := { dst := none, op := Op.store 25 (Operand.tmp 33) (Operand.tmp 29), type := 0, pos := "table.go:118", after := _, guard := none }) rfl (fun K hK => ?_) AllReadyH.nil
    go_simp
    skip
    refine hK.out _ _ ?_ (fun hHeldcr15 => ?_)
    · (refine ⟨?_, ?_⟩ <;> (rw [World.cell?_setCell_far _ _ _ _ (by simp; omega), World.cell?_setCell_far _ _ _ _ (by simp; omega)]; assumption))
    clear hK K hHeldcr8
    try simp only [Act.put, List.setIfInBounds_toArray, List.set_cons_zero, List.set_cons_succ]
    refine wpAnyH_done (by kernel_rfl) ?_ _
    obtain ⟨j0, j1, j2, j3⟩ := HJ.out
    have j2' := ((j2.keep HX.out).set_ 0 (.int .i64 cap)).set_ 1 (.slice A4 (freeX cap L y).2.length c4)
    have hY : Below b W2 ((w'.setCell ⟨b, 0, none⟩ (.int .i64 cap)).setCell ⟨b, 1, none⟩ (.slice A4 (freeX cap L y).2.length c4)) := ((HX.out.mono (show b ≤ W2.heap.size by omega)).setCell (Nat.le_refl _) _).setCell (Nat.le_refl _) _
    show KeepsFrom _ _ _ ∧ Below _ _ _ ∧ _
    refine ⟨?_, hY, ⟨((j0.keep HX.out).far (by simp; omega) _).far (by simp; omega) _, ((j1.keep HX.out).far (by simp; omega) _).far (by simp; omega) _, _, j2', ?_⟩, jB.trans hY, Nat.lt_of_lt_of_le jz hY.size⟩
    · exact ((keeps_below (by simp; omega) HX.out).trans (keeps_setCell _ _ _ _)).trans (keeps_setCell _ _ _ _)
    · simp only [List.map_append, List.map_cons, List.map_nil]
      rw [each_freeL_snoc, HL.out]
      have hne : ∀ o : Nat, (Value.slice A4 (freeX cap L y).2.length c4).ownBlock ≠ some (⟨b, o, none⟩ : Addr).block := fun o e => by
        have h1 : W2.heap.size ≤ b := (own_block_ge HO.out e).1
        omega
      exact own_far (own_far (ownsRow_mono HO.out (show base ≤ W2.heap.size by omega)) (hne 0) _) (hne 1) _
  case done =>
    rintro D ys W2 hD rfl ⟨⟨j0, j1, pv2, j2, j3⟩, jB, jz⟩ hK
    have HJ := Lib.hid (And.intro j2 j3)
    clear j0 j1 j2 j3
    gi_wp2
    show LeavesInM _ _ _ _ _ _ ([D].map markD) _ _
    refine leaves_marks (B := b) [D] _ (by simp) (fun D' hD' => by rw [List.mem_singleton] at hD'; subst hD'; exact ⟨by simp at hD; omega, hK⟩) fun W' hq => ⟨.tuple #[], results_none rfl _ _ _, rfl, ⟨_, _, tvs, hbase, hq.1 _ _ _ HJ.out.1, hq.own HJ.out.2, HT.out.belowHi (jB.trans hq.2)⟩, jB.trans hq.2⟩
  case stop =>
    rintro D c2 pre W2 _ _ h _
    exact h.elim
end Go.Proofs.Ytoogobenjhmjjaa
