/- table.Write. -/
import Derived.Test.YtoogobenjhmjjaaTbSet
import Derived.Deep.RegionHeld3
import Derived.Deep.DrawnRows
namespace Go.Proofs.Ytoogobenjhmjjaa
open Go Go.RowKit
set_option linter.unusedVariables false
attribute [local go_sem ↓] Go.wp_at_zero Go.wp_at_succ

/-- The page that is written: made, if there is none. -/
def firstH (cap : Int) (ps : List Pg) (p : Int) : Int × Int × List Pg := if p = -1 then allocX cap ps else (p, 0, ps)
/-- What Write comes to: the error, the pages, the tables. -/
def writeH (cap : Int) (ps : List Pg) (ts : List (List Int)) (t a v : Int) : Int × List Pg × List (List Int) :=
  if whyH cap ps ts t a = 0 then
    (if (firstH cap ps (plAt ts t a)).2.1 = 0 then
      (if (writeL cap (firstH cap ps (plAt ts t a)).2.2 (firstH cap ps (plAt ts t a)).1 (a % 4) v).2.1 = 0 then
        (0, (writeL cap (firstH cap ps (plAt ts t a)).2.2 (firstH cap ps (plAt ts t a)).1 (a % 4) v).2.2, ts.set t.toNat ((tabAt ts t).set (a.toNat / 4) (writeL cap (firstH cap ps (plAt ts t a)).2.2 (firstH cap ps (plAt ts t a)).1 (a % 4) v).1))
       else ((writeL cap (firstH cap ps (plAt ts t a)).2.2 (firstH cap ps (plAt ts t a)).1 (a % 4) v).2.1, ps, ts))
     else ((firstH cap ps (plAt ts t a)).2.1, ps, ts))
  else (whyH cap ps ts t a, ps, ts)

section
variable {w : World} {base b : Nat} {cap : Int} {pv tv : Value} {tvs : List Value} {ps : List Pg} {ts : List (List Int)}
theorem OwnHx.cells (h : OwnHx w base b cap pv tv tvs ps ts) : w.cell? ⟨b, 0, none⟩ = some (.int .i64 cap) ∧ w.cell? ⟨b, 1, none⟩ = some pv ∧ w.cell? ⟨b, 2, none⟩ = some tv ∧ w.frozen? ⟨b, 0, none⟩ = false ∧ w.frozen? ⟨b, 1, none⟩ = false :=
  ⟨by rw [h.2.1.cell]; rfl, by rw [h.2.1.cell]; rfl, by rw [h.2.1.cell]; rfl, h.2.1.free 0, h.2.1.free 1⟩
end

set_option maxRecDepth 100000 in
set_option maxHeartbeats 4000000 in
theorem wr_ok (A A2 : Option Addr) (c c2 : Nat) (cap : Int) (ps : List Pg) (ts : List (List Int)) (k n : Nat) (u : Int) (w : World) (hv : HpV w (.agg #[.int .i64 cap, .slice A ps.length c, .slice A2 ts.length c2]) cap ps ts) (hn : ps.length ≤ 900) (hm : ts.length ≤ 1000) (hl : ∀ t ∈ ts, t.length ≤ 1000)
    (he : whyH cap ps ts (k : Int) (n : Int) = 0) (hk : k < ts.length) (h4 : ts[k].length = 4) (hn16 : n < 16) (p : Nat) (at2 : Int) (ps2 : List Pg) (hpl : ts[k][n / 4]'(by omega) = (p : Int)) (hwr : writeL cap ps (p : Int) ((n : Int) % 4) u = (at2, 0, ps2)) :
    Calls Try.prog 15 #[(.agg #[.int .i64 cap, .slice A ps.length c, .slice A2 ts.length c2]), .int .i64 (k : Int), .int .i64 (n : Int), .int .i64 u] w (HeapRes2 cap 0 ps2 (ts.set k (ts[k].set (n / 4) at2)) w) := by
  have cO := fun W h => town_any (.agg #[.int .i64 cap, .slice A ps.length c, .slice A2 ts.length c2]) cap ps ts W h (by omega) hm hl
  have cW := fun W h => twhy_any (.agg #[.int .i64 cap, .slice A ps.length c, .slice A2 ts.length c2]) cap ps ts (k : Int) (n : Int) W h (by omega)
  rw [he] at cW
  have HV := Lib.hid hv
  have hj : n / 4 < ts[k].length := by omega
  have hk0 : (0 : Int) ≤ (k : Int) := by omega
  have hk1 : (k : Int) < (ts.length : Int) := by omega
  have hd0 : (0 : Int) ≤ (n : Int) / 4 := by omega
  have hd1 : (n : Int) / 4 < 4 := by omega
  clear he hl hv
  go_enter Try.func15, Try.ntmps15
  have hA0 := ((Below.refl w.heap.size w).alloc (Nat.le_refl _) (.cells #[.int .i64 cap, .slice A ps.length c, .slice A2 ts.length c2] 28)).alloc (by simp) (.cells #[.int .i64 0, .slice none 0 0, .slice none 0 0] 28)
  go_wp2_with fail
  refine (cO _ (HV.out.keep hA0)).mono ?_
  rintro e w1 ⟨b, rfl, hs1, hb1⟩
  have hY1 := hA0.trans (hb1.mono (by simp; omega))
  have k0 : Blk w1 w.heap.size 28 #[.int .i64 cap, .slice A ps.length c, .slice A2 ts.length c2] := ((Blk.new_ w _ _ _ rfl).alloc _).keep hb1
  have k1 : Blk w1 (w.heap.size + 1) 28 #[.int .i64 0, .slice none 0 0, .slice none 0 0] := (Blk.new_ _ _ _ _ (by simp)).keep hb1
  have p0 : w1.cell? ⟨w.heap.size, 0, none⟩ = some (.int .i64 cap) := (by rw [k0.cell]; rfl)
  have p1 : w1.cell? ⟨w.heap.size, 1, none⟩ = some (.slice A ps.length c) := (by rw [k0.cell]; rfl)
  have p2 : w1.cell? ⟨w.heap.size, 2, none⟩ = some (.slice A2 ts.length c2) := (by rw [k0.cell]; rfl)
  go_wp2_with fail
  refine (cW _ (HV.out.keep hY1)).mono ?_
  rintro e w2 ⟨rfl, hb2⟩
  have hY2 := hY1.trans (hb2.mono hY1.size)
  replace k0 := k0.keep hb2
  replace k1 := k1.keep hb2
  obtain ⟨pv, tv, tvs, hx⟩ := hs1.keep hb2
  have hx : OwnHx w2 _ b cap pv tv tvs ps ts := hx
  obtain ⟨gT, cT, gk, ck, rfl, htk, hgT, hgk, hbgk, hblt, z0, z1, zf⟩ := hx.place hk hj
  obtain ⟨A3, c3, rfl, hst⟩ := hx.store
  obtain ⟨r0, r1, r2, rf0, rf1⟩ := hx.cells
  have hbase : w.heap.size + 2 ≤ b := by have := hx.1; simp at this; omega
  simp at hbgk
  have HX2 := Lib.hid hx
  have HK0 := Lib.hid k0
  have HK1 := Lib.hid k1
  have HTK := Lib.hid htk
  have HST := Lib.hid hst
  have gTl : gT < w2.heap.size := by omega
  have gkl : gk < w2.heap.size := by omega
  rw [h4] at z0
  rw [hpl] at z1
  clear k0 k1 hs1 hx hst htk p0 p1 p2 hb1 hb2 cW
  have hp0 : (((p : Nat) : Int) == -1) = false := by rw [beq_eq_false_iff_ne]; omega
  have cWr := fun W h (hn : ps.length ≤ 1000) => Write_own (.agg #[.int .i64 cap, .slice A3 ps.length c3]) cap ps (p : Int) ((n : Int) % 4) u W h hn
  rw [hwr] at cWr
  have HSTR := Lib.hid HST.out
  have BW := (Below.refl w2.heap.size w2).drew
  have gbl : b < w2.heap.size := hblt
  go_wp2_with fail
  refine wp_region_held_drew (S := fun _ => True) (by kernel_rfl) ?_ (fun hHeldbr => ?_)
  · trivial
  refine wpAnyH_take (i := 0) (oi := { dst := some 61, op := Op.move (Operand.tmp 10), type := 61, pos := "table.go:107", after := _, guard := none }) (v := ?vbr0b1) rfl (by kernel_rfl) (by kernel_rfl) (by kernel_rfl) (fun _ _ _ h => h) (Or.inl ⟨by rfl, ?hybr0b1⟩) (by assumption) ?restbr0b1
  case hybr0b1 => (intro w hSw; (try dsimp only at hSw); go_simp <;> with_reducible rfl)
  try simp only [Act.put, List.setIfInBounds_toArray, List.set_cons_zero, List.set_cons_succ]
  refine wpAnyH_take (i := 1) (oi := { dst := some 62, op := Op.move (Operand.tmp 12), type := 65, pos := "table.go:107", after := _, guard := none }) (v := ?vbr1b2) rfl (by kernel_rfl) (by kernel_rfl) (by kernel_rfl) (fun _ _ _ h => h) (Or.inl ⟨by rfl, ?hybr1b2⟩) (by assumption) ?restbr1b2
  case hybr1b2 => (intro w hSw; (try dsimp only at hSw); go_simp <;> with_reducible rfl)
  try simp only [Act.put, List.setIfInBounds_toArray, List.set_cons_zero, List.set_cons_succ]
  refine wpAnyH_take (i := 2) (oi := { dst := some 63, op := Op.move (Operand.tmp 10), type := 61, pos := "table.go:107", after := _, guard := none }) (v := ?vbr2b3) rfl (by kernel_rfl) (by kernel_rfl) (by kernel_rfl) (fun _ _ _ h => h) (Or.inl ⟨by rfl, ?hybr2b3⟩) (by assumption) ?restbr2b3
  case hybr2b3 => (intro w hSw; (try dsimp only at hSw); go_simp <;> with_reducible rfl)
  try simp only [Act.put, List.setIfInBounds_toArray, List.set_cons_zero, List.set_cons_succ]
  refine wpAnyH_take (i := 3) (oi := { dst := some 64, op := Op.nilCheck (Operand.tmp 63), type := 0, pos := "table.go:107", after := _, guard := none }) (v := ?vbr3b4) rfl (by kernel_rfl) (by kernel_rfl) (by kernel_rfl) (fun _ _ _ h => h) (Or.inl ⟨by rfl, ?hybr3b4⟩) (by assumption) ?restbr3b4
  case hybr3b4 => (intro w hSw; (try dsimp only at hSw); go_simp <;> with_reducible rfl)
  try simp only [Act.put, List.setIfInBounds_toArray, List.set_cons_zero, List.set_cons_succ]
  refine wpAnyH_take (i := 4) (oi := { dst := some 65, op := Op.fieldAddr 64 (Operand.tmp 64) 0, type := 0, pos := "table.go:107", after := _, guard := none }) (v := ?vbr4b5) rfl (by kernel_rfl) (by kernel_rfl) (by kernel_rfl) (fun _ _ _ h => h) (Or.inl ⟨by rfl, ?hybr4b5⟩) (by assumption) ?restbr4b5
  case hybr4b5 => (intro w hSw; (try dsimp only at hSw); go_simp <;> with_reducible rfl)
  try simp only [Act.put, List.setIfInBounds_toArray, List.set_cons_zero, List.set_cons_succ]
  refine wpAnyH_take (i := 5) (oi := { dst := some 66, op := Op.fieldAddr 28 (Operand.tmp 65) 0, type := 0, pos := "table.go:107", after := _, guard := none }) (v := ?vbr5b6) rfl (by kernel_rfl) (by kernel_rfl) (by kernel_rfl) (fun _ _ _ h => h) (Or.inl ⟨by rfl, ?hybr5b6⟩) (by assumption) ?restbr5b6
  case hybr5b6 => (intro w hSw; (try dsimp only at hSw); go_simp <;> with_reducible rfl)
  try simp only [Act.put, List.setIfInBounds_toArray, List.set_cons_zero, List.set_cons_succ]
  refine wpAnyH_take (i := 7) (oi := { dst := some 68, op := Op.move (Operand.tmp 12), type := 65, pos := "table.go:107", after := _, guard := none }) (v := ?vbr7b7) rfl (by kernel_rfl) (by kernel_rfl) (by kernel_rfl) (fun _ _ _ h => h) (Or.inl ⟨by rfl, ?hybr7b7⟩) (by assumption) ?restbr7b7
  case hybr7b7 => (intro w hSw; (try dsimp only at hSw); go_simp <;> with_reducible rfl)
  try simp only [Act.put, List.setIfInBounds_toArray, List.set_cons_zero, List.set_cons_succ]
  refine wpAnyH_take (i := 8) (oi := { dst := some 69, op := Op.nilCheck (Operand.tmp 68), type := 0, pos := "table.go:107", after := _, guard := none }) (v := ?vbr8b8) rfl (by kernel_rfl) (by kernel_rfl) (by kernel_rfl) (fun _ _ _ h => h) (Or.inl ⟨by rfl, ?hybr8b8⟩) (by assumption) ?restbr8b8
  case hybr8b8 => (intro w hSw; (try dsimp only at hSw); go_simp <;> with_reducible rfl)
  try simp only [Act.put, List.setIfInBounds_toArray, List.set_cons_zero, List.set_cons_succ]
  refine wpAnyH_take (i := 10) (oi := { dst := some 71, op := Op.move (Operand.tmp 2), type := 3, pos := "table.go:107", after := _, guard := none }) (v := ?vbr10b9) rfl (by kernel_rfl) (by kernel_rfl) (by kernel_rfl) (fun _ _ _ h => h) (Or.inl ⟨by rfl, ?hybr10b9⟩) (by assumption) ?restbr10b9
  case hybr10b9 => (intro w hSw; (try dsimp only at hSw); go_simp <;> with_reducible rfl)
  try simp only [Act.put, List.setIfInBounds_toArray, List.set_cons_zero, List.set_cons_succ]
  refine wpAnyH_take (i := 11) (oi := { dst := some 72, op := Op.binOp BinOp.rem 3 (Operand.tmp 71) (Operand.const (Value.int IntKind.i64 4)) 3, type := 3, pos := "table.go:107", after := _, guard := none }) (v := ?vbr11b10) rfl (by kernel_rfl) (by kernel_rfl) (by kernel_rfl) (fun _ _ _ h => h) (Or.inl ⟨by rfl, ?hybr11b10⟩) (by assumption) ?restbr11b10
  case hybr11b10 => (intro w hSw; (try dsimp only at hSw); go_simp <;> with_reducible rfl)
  try simp only [Act.put, List.setIfInBounds_toArray, List.set_cons_zero, List.set_cons_succ]
  refine wpAnyH_take (i := 12) (oi := { dst := some 73, op := Op.move (Operand.tmp 3), type := 3, pos := "table.go:107", after := _, guard := none }) (v := ?vbr12b11) rfl (by kernel_rfl) (by kernel_rfl) (by kernel_rfl) (fun _ _ _ h => h) (Or.inl ⟨by rfl, ?hybr12b11⟩) (by assumption) ?restbr12b11
  case hybr12b11 => (intro w hSw; (try dsimp only at hSw); go_simp <;> with_reducible rfl)
  try simp only [Act.put, List.setIfInBounds_toArray, List.set_cons_zero, List.set_cons_succ]
  refine wpAnyH_ready (rs := [6, 9]) (by kernel_rfl) (by simp) ?_
  refine AllReadyH.cons (o := { dst := some 67, op := Op.load 25 (Operand.tmp 66), type := 25, pos := "table.go:107", after := _, guard := none }) rfl (fun K hK => ?_) ?_
  · go_simp
    skip
    refine hK.out _ _ ?_ (fun hHeldbr6b12 => ?_)
    · trivial
    clear hK K hHeldbr
    try simp only [Act.put, List.setIfInBounds_toArray, List.set_cons_zero, List.set_cons_succ]
    refine wpAnyH_ready (rs := [9]) (by kernel_rfl) (by simp) ?_
    refine AllReadyH.cons (o := { dst := some 70, op := Op.load 3 (Operand.tmp 69), type := 3, pos := "table.go:107", after := _, guard := none }) rfl (fun K hK => ?_) AllReadyH.nil
    go_simp
    skip
    refine hK.out _ _ ?_ (fun hHeldbr9b13 => ?_)
    · trivial
    clear hK K hHeldbr6b12
    try simp only [Act.put, List.setIfInBounds_toArray, List.set_cons_zero, List.set_cons_succ]
    refine wpAnyH_ready (rs := [13]) (by kernel_rfl) (by simp) ?_
    refine AllReadyH.cons (o := { dst := some 74, op := Op.call { callee := Callee.value (Operand.func 35), args := #[Operand.tmp 67, Operand.tmp 70, Operand.tmp 72, Operand.tmp 73], argTypes := #[25, 3, 3, 3] }, type := 66, pos := "table.go:107", after := _, guard := none }) rfl (fun K hK => ?_) AllReadyH.nil
    go_simp
    refine (cWr _ (HSTR.out.below BW) (by omega)).mono ?_
    rintro e w5 ⟨v5, rfl, ⟨sv5, rfl, hr5⟩, hb5⟩
    have hX := BW.trans (hb5.mono BW.size)
    obtain ⟨A7, c7, rfl, _, _⟩ := (Sl.of_own hr5).form
    have y0 := (hX.cell (p := ⟨b, 0, none⟩) gbl).trans r0
    have y1 := (hX.cell (p := ⟨b, 1, none⟩) gbl).trans r1
    have yf0 := (hX.frozen (p := ⟨b, 0, none⟩) gbl).trans rf0
    have yf1 := (hX.frozen (p := ⟨b, 1, none⟩) gbl).trans rf1
    have y3 := (hX.cell (p := ⟨gk, n / 4, none⟩) gkl).trans z1
    have yf3 := (hX.frozen (p := ⟨gk, n / 4, none⟩) gkl).trans zf
    have HX5 := Lib.hid hX
    have HR5 := Lib.hid hr5
    clear hX hr5 hb5
    try go_wp2_with fail
    refine hK.out _ _ ?_ (fun hHeldbr13b14 => ?_)
    · trivial
    clear hK K hHeldbr9b13
    try simp only [Act.put, List.setIfInBounds_toArray, List.set_cons_zero, List.set_cons_succ]
    refine wpAnyH_take (i := 14) (oi := { dst := some 60, op := Op.move (Operand.tmp 74), type := 66, pos := "table.go:107", after := _, guard := none }) (v := ?vbr14b15) rfl (by kernel_rfl) (by kernel_rfl) (by kernel_rfl) (fun _ _ _ h => h) (Or.inl ⟨by rfl, ?hybr14b15⟩) (by assumption) ?restbr14b15
    case hybr14b15 => (intro w hSw; (try dsimp only at hSw); go_simp <;> with_reducible rfl)
    try simp only [Act.put, List.setIfInBounds_toArray, List.set_cons_zero, List.set_cons_succ]
    refine wpAnyH_take (i := 15) (oi := { dst := some 75, op := Op.extract (Operand.tmp 60) 0, type := 25, pos := "table.go:107", after := _, guard := none }) (v := ?vbr15b16) rfl (by kernel_rfl) (by kernel_rfl) (by kernel_rfl) (fun _ _ _ h => h) (Or.inl ⟨by rfl, ?hybr15b16⟩) (by assumption) ?restbr15b16
    case hybr15b16 => (intro w hSw; (try dsimp only at hSw); go_simp <;> with_reducible rfl)
    try simp only [Act.put, List.setIfInBounds_toArray, List.set_cons_zero, List.set_cons_succ]
    refine wpAnyH_take (i := 16) (oi := { dst := some 76, op := Op.extract (Operand.tmp 60) 1, type := 3, pos := "table.go:107", after := _, guard := none }) (v := ?vbr16b17) rfl (by kernel_rfl) (by kernel_rfl) (by kernel_rfl) (fun _ _ _ h => h) (Or.inl ⟨by rfl, ?hybr16b17⟩) (by assumption) ?restbr16b17
    case hybr16b17 => (intro w hSw; (try dsimp only at hSw); go_simp <;> with_reducible rfl)
    try simp only [Act.put, List.setIfInBounds_toArray, List.set_cons_zero, List.set_cons_succ]
    refine wpAnyH_take (i := 17) (oi := { dst := some 77, op := Op.extract (Operand.tmp 60) 2, type := 31, pos := "table.go:107", after := _, guard := none }) (v := ?vbr17b18) rfl (by kernel_rfl) (by kernel_rfl) (by kernel_rfl) (fun _ _ _ h => h) (Or.inl ⟨by rfl, ?hybr17b18⟩) (by assumption) ?restbr17b18
    case hybr17b18 => (intro w hSw; (try dsimp only at hSw); go_simp <;> with_reducible rfl)
    try simp only [Act.put, List.setIfInBounds_toArray, List.set_cons_zero, List.set_cons_succ]
    refine wpAnyH_take (i := 18) (oi := { dst := some 78, op := Op.nilCheck (Operand.tmp 61), type := 0, pos := "table.go:107", after := _, guard := none }) (v := ?vbr18b19) rfl (by kernel_rfl) (by kernel_rfl) (by kernel_rfl) (fun _ _ _ h => h) (Or.inl ⟨by rfl, ?hybr18b19⟩) (by assumption) ?restbr18b19
    case hybr18b19 => (intro w hSw; (try dsimp only at hSw); go_simp <;> with_reducible rfl)
    try simp only [Act.put, List.setIfInBounds_toArray, List.set_cons_zero, List.set_cons_succ]
    refine wpAnyH_take (i := 19) (oi := { dst := some 79, op := Op.fieldAddr 64 (Operand.tmp 78) 0, type := 0, pos := "table.go:107", after := _, guard := none }) (v := ?vbr19b20) rfl (by kernel_rfl) (by kernel_rfl) (by kernel_rfl) (fun _ _ _ h => h) (Or.inl ⟨by rfl, ?hybr19b20⟩) (by assumption) ?restbr19b20
    case hybr19b20 => (intro w hSw; (try dsimp only at hSw); go_simp <;> with_reducible rfl)
    try simp only [Act.put, List.setIfInBounds_toArray, List.set_cons_zero, List.set_cons_succ]
    refine wpAnyH_take (i := 20) (oi := { dst := some 80, op := Op.fieldAddr 28 (Operand.tmp 79) 0, type := 0, pos := "table.go:107", after := _, guard := none }) (v := ?vbr20b21) rfl (by kernel_rfl) (by kernel_rfl) (by kernel_rfl) (fun _ _ _ h => h) (Or.inl ⟨by rfl, ?hybr20b21⟩) (by assumption) ?restbr20b21
    case hybr20b21 => (intro w hSw; (try dsimp only at hSw); go_simp <;> with_reducible rfl)
    try simp only [Act.put, List.setIfInBounds_toArray, List.set_cons_zero, List.set_cons_succ]
    refine wpAnyH_ready (rs := [21]) (by kernel_rfl) (by simp) ?_
    refine AllReadyH.cons (o := { dst := none, op := Op.store 25 (Operand.tmp 80) (Operand.tmp 75), type := 0, pos := "table.go:107", after := _, guard := none }) rfl (fun K hK => ?_) AllReadyH.nil
    go_simp
    skip
    refine hK.out _ _ ?_ (fun hHeldbr21b22 => ?_)
    · trivial
    clear hK K hHeldbr13b14
    try simp only [Act.put, List.setIfInBounds_toArray, List.set_cons_zero, List.set_cons_succ]
    refine wpAnyH_take (i := 22) (oi := { dst := some 81, op := Op.nilCheck (Operand.tmp 62), type := 0, pos := "table.go:107", after := _, guard := none }) (v := ?vbr22b23) rfl (by kernel_rfl) (by kernel_rfl) (by kernel_rfl) (fun _ _ _ h => h) (Or.inl ⟨by rfl, ?hybr22b23⟩) (by assumption) ?restbr22b23
    case hybr22b23 => (intro w hSw; (try dsimp only at hSw); go_simp <;> with_reducible rfl)
    try simp only [Act.put, List.setIfInBounds_toArray, List.set_cons_zero, List.set_cons_succ]
    refine wpAnyH_ready (rs := [23]) (by kernel_rfl) (by simp) ?_
    refine AllReadyH.cons (o := { dst := none, op := Op.store 3 (Operand.tmp 81) (Operand.tmp 76), type := 0, pos := "table.go:107", after := _, guard := none }) rfl (fun K hK => ?_) AllReadyH.nil
    go_simp
    skip
    refine hK.out _ _ ?_ (fun hHeldbr23b24 => ?_)
    · trivial
    clear hK K hHeldbr21b22
    try simp only [Act.put, List.setIfInBounds_toArray, List.set_cons_zero, List.set_cons_succ]
    refine wpAnyH_ready (rs := [24]) (by kernel_rfl) (by simp) ?_
    refine AllReadyH.cons (o := { dst := some 13, op := Op.assign (Operand.tmp 77), type := 31, pos := "table.go:107", after := _, guard := none }) rfl (fun K hK => ?_) AllReadyH.nil
    go_simp
    skip
    refine hK.out _ _ ?_ (fun hHeldbr24b25 => ?_)
    · trivial
    clear hK K hHeldbr23b24
    try simp only [Act.put, List.setIfInBounds_toArray, List.set_cons_zero, List.set_cons_succ]
    refine wpAnyH_done (by kernel_rfl) ?_ _
    have hx6 := (HX2.out.pages HX5.out HR5.out).setPl (j := n / 4) (k := k) (by simpa using hk) (by simpa using hj) (ck := ck) (by simpa using HTK.out) hgk at2
    try simp only [List.getElem_set_self, List.set_set] at hx6
    have hY6 := (((hY2.trans (HX5.out.mono (hY2).size)).setCell (show w.heap.size ≤ b by omega) (p := ⟨b, 0, none⟩) (.int .i64 cap)).setCell (show w.heap.size ≤ b by omega) (p := ⟨b, 1, none⟩) (.slice A7 ps2.length c7)).setCell (show w.heap.size ≤ gk by omega) (p := ⟨gk, n / 4, none⟩) (.int .i64 at2)
    have k06 := ((((HK0.out).keep HX5.out).far (show w.heap.size ≠ b by omega) (p := ⟨b, 0, none⟩) (.int .i64 cap)).far (show w.heap.size ≠ b by omega) (p := ⟨b, 1, none⟩) (.slice A7 ps2.length c7)).far (show w.heap.size ≠ gk by omega) (p := ⟨gk, n / 4, none⟩) (.int .i64 at2)
    have k16 := ((((HK1.out).keep HX5.out).far (show w.heap.size + 1 ≠ b by omega) (p := ⟨b, 0, none⟩) (.int .i64 cap)).far (show w.heap.size + 1 ≠ b by omega) (p := ⟨b, 1, none⟩) (.slice A7 ps2.length c7)).far (show w.heap.size + 1 ≠ gk by omega) (p := ⟨gk, n / 4, none⟩) (.int .i64 at2)
    obtain ⟨w6, hw6⟩ : ∃ x, ((w5.setCell ⟨b, 0, none⟩ (.int .i64 cap)).setCell ⟨b, 1, none⟩ (.slice A7 ps2.length c7)).setCell ⟨gk, n / 4, none⟩ (.int .i64 at2) = x := ⟨_, rfl⟩
    rw [hw6] at hx6 hY6 k06 k16 ⊢
    clear hw6 y0 y1 yf0 yf1 y3 yf3 HX5 HR5
    obtain ⟨q3, q4, q5, -, -⟩ := hx6.cells
    have q0 : w6.cell? ⟨w.heap.size + 1, 0, none⟩ = some (.int .i64 0) := (by rw [k16.cell]; rfl)
    have qf0 : w6.frozen? ⟨w.heap.size + 1, 0, none⟩ = false := k16.free 0
    have q1 : w6.cell? ⟨w.heap.size + 1, 1, none⟩ = some (.slice none 0 0) := (by rw [k16.cell]; rfl)
    have qf1 : w6.frozen? ⟨w.heap.size + 1, 1, none⟩ = false := k16.free 1
    have q2 : w6.cell? ⟨w.heap.size + 1, 2, none⟩ = some (.slice none 0 0) := (by rw [k16.cell]; rfl)
    have qf2 : w6.frozen? ⟨w.heap.size + 1, 2, none⟩ = false := k16.free 2
    have hq6 : HpQ w6 _ (.agg #[.int .i64 cap, .slice A7 ps2.length c7, .slice (some ⟨gT, 0, none⟩) ts.length cT]) cap ps2 _ := ⟨_, _, rfl, hx6.2.2.1, hx6.2.2.2.toQ⟩
    have HQ6 := Lib.hid hq6
    have HB16 := Lib.hid k16
    have HY6 := Lib.hid hY6
    clear hq6 k16 hY6 hx6 k06 cO
    go_wp2
    refine bodyPost_ret (v := .tuple #[.agg #[.int .i64 cap, .slice A7 ps2.length c7, .slice (some ⟨gT, 0, none⟩) ts.length cT], .int .i64 0]) (by simp [results, Try.results15, go_sem, q0, q1, q2]) rfl ⟨_, rfl, ?_, ?_⟩
    · exact (((HQ6.out.boxed HB16.out 0 _).boxed (HB16.out.set_ 0 _) 1 _).boxed ((HB16.out.set_ 0 _).set_ 1 _) 2 _).mono (by simp; omega)
    · exact ((HY6.out.setCell (by simp) _).setCell (by simp) _).setCell (by simp) _
  refine AllReadyH.cons (o := { dst := some 70, op := Op.load 3 (Operand.tmp 69), type := 3, pos := "table.go:107", after := _, guard := none }) rfl (fun K hK => ?_) ?_
  · go_simp
    skip
    refine hK.out _ _ ?_ (fun hHeldbr9b26 => ?_)
    · trivial
    clear hK K hHeldbr
    try simp only [Act.put, List.setIfInBounds_toArray, List.set_cons_zero, List.set_cons_succ]
    refine wpAnyH_ready (rs := [6]) (by kernel_rfl) (by simp) ?_
    refine AllReadyH.cons (o := { dst := some 67, op := Op.load 25 (Operand.tmp 66), type := 25, pos := "table.go:107", after := _, guard := none }) rfl (fun K hK => ?_) AllReadyH.nil
    go_simp
    skip
    refine hK.out _ _ ?_ (fun hHeldbr6b27 => ?_)
    · trivial
    clear hK K hHeldbr9b26
    try simp only [Act.put, List.setIfInBounds_toArray, List.set_cons_zero, List.set_cons_succ]
    refine wpAnyH_ready (rs := [13]) (by kernel_rfl) (by simp) ?_
    refine AllReadyH.cons (o := { dst := some 74, op := Op.call { callee := Callee.value (Operand.func 35), args := #[Operand.tmp 67, Operand.tmp 70, Operand.tmp 72, Operand.tmp 73], argTypes := #[25, 3, 3, 3] }, type := 66, pos := "table.go:107", after := _, guard := none }) rfl (fun K hK => ?_) AllReadyH.nil
    go_simp
    refine (cWr _ (HSTR.out.below BW) (by omega)).mono ?_
    rintro e w5 ⟨v5, rfl, ⟨sv5, rfl, hr5⟩, hb5⟩
    have hX := BW.trans (hb5.mono BW.size)
    obtain ⟨A7, c7, rfl, _, _⟩ := (Sl.of_own hr5).form
    have y0 := (hX.cell (p := ⟨b, 0, none⟩) gbl).trans r0
    have y1 := (hX.cell (p := ⟨b, 1, none⟩) gbl).trans r1
    have yf0 := (hX.frozen (p := ⟨b, 0, none⟩) gbl).trans rf0
    have yf1 := (hX.frozen (p := ⟨b, 1, none⟩) gbl).trans rf1
    have y3 := (hX.cell (p := ⟨gk, n / 4, none⟩) gkl).trans z1
    have yf3 := (hX.frozen (p := ⟨gk, n / 4, none⟩) gkl).trans zf
    have HX5 := Lib.hid hX
    have HR5 := Lib.hid hr5
    clear hX hr5 hb5
    try go_wp2_with fail
    refine hK.out _ _ ?_ (fun hHeldbr13b28 => ?_)
    · trivial
    clear hK K hHeldbr6b27
    try simp only [Act.put, List.setIfInBounds_toArray, List.set_cons_zero, List.set_cons_succ]
    refine wpAnyH_take (i := 14) (oi := { dst := some 60, op := Op.move (Operand.tmp 74), type := 66, pos := "table.go:107", after := _, guard := none }) (v := ?vbr14b29) rfl (by kernel_rfl) (by kernel_rfl) (by kernel_rfl) (fun _ _ _ h => h) (Or.inl ⟨by rfl, ?hybr14b29⟩) (by assumption) ?restbr14b29
    case hybr14b29 => (intro w hSw; (try dsimp only at hSw); go_simp <;> with_reducible rfl)
    try simp only [Act.put, List.setIfInBounds_toArray, List.set_cons_zero, List.set_cons_succ]
    refine wpAnyH_take (i := 15) (oi := { dst := some 75, op := Op.extract (Operand.tmp 60) 0, type := 25, pos := "table.go:107", after := _, guard := none }) (v := ?vbr15b30) rfl (by kernel_rfl) (by kernel_rfl) (by kernel_rfl) (fun _ _ _ h => h) (Or.inl ⟨by rfl, ?hybr15b30⟩) (by assumption) ?restbr15b30
    case hybr15b30 => (intro w hSw; (try dsimp only at hSw); go_simp <;> with_reducible rfl)
    try simp only [Act.put, List.setIfInBounds_toArray, List.set_cons_zero, List.set_cons_succ]
    refine wpAnyH_take (i := 16) (oi := { dst := some 76, op := Op.extract (Operand.tmp 60) 1, type := 3, pos := "table.go:107", after := _, guard := none }) (v := ?vbr16b31) rfl (by kernel_rfl) (by kernel_rfl) (by kernel_rfl) (fun _ _ _ h => h) (Or.inl ⟨by rfl, ?hybr16b31⟩) (by assumption) ?restbr16b31
    case hybr16b31 => (intro w hSw; (try dsimp only at hSw); go_simp <;> with_reducible rfl)
    try simp only [Act.put, List.setIfInBounds_toArray, List.set_cons_zero, List.set_cons_succ]
    refine wpAnyH_take (i := 17) (oi := { dst := some 77, op := Op.extract (Operand.tmp 60) 2, type := 31, pos := "table.go:107", after := _, guard := none }) (v := ?vbr17b32) rfl (by kernel_rfl) (by kernel_rfl) (by kernel_rfl) (fun _ _ _ h => h) (Or.inl ⟨by rfl, ?hybr17b32⟩) (by assumption) ?restbr17b32
    case hybr17b32 => (intro w hSw; (try dsimp only at hSw); go_simp <;> with_reducible rfl)
    try simp only [Act.put, List.setIfInBounds_toArray, List.set_cons_zero, List.set_cons_succ]
    refine wpAnyH_take (i := 18) (oi := { dst := some 78, op := Op.nilCheck (Operand.tmp 61), type := 0, pos := "table.go:107", after := _, guard := none }) (v := ?vbr18b33) rfl (by kernel_rfl) (by kernel_rfl) (by kernel_rfl) (fun _ _ _ h => h) (Or.inl ⟨by rfl, ?hybr18b33⟩) (by assumption) ?restbr18b33
    case hybr18b33 => (intro w hSw; (try dsimp only at hSw); go_simp <;> with_reducible rfl)
    try simp only [Act.put, List.setIfInBounds_toArray, List.set_cons_zero, List.set_cons_succ]
    refine wpAnyH_take (i := 19) (oi := { dst := some 79, op := Op.fieldAddr 64 (Operand.tmp 78) 0, type := 0, pos := "table.go:107", after := _, guard := none }) (v := ?vbr19b34) rfl (by kernel_rfl) (by kernel_rfl) (by kernel_rfl) (fun _ _ _ h => h) (Or.inl ⟨by rfl, ?hybr19b34⟩) (by assumption) ?restbr19b34
    case hybr19b34 => (intro w hSw; (try dsimp only at hSw); go_simp <;> with_reducible rfl)
    try simp only [Act.put, List.setIfInBounds_toArray, List.set_cons_zero, List.set_cons_succ]
    refine wpAnyH_take (i := 20) (oi := { dst := some 80, op := Op.fieldAddr 28 (Operand.tmp 79) 0, type := 0, pos := "table.go:107", after := _, guard := none }) (v := ?vbr20b35) rfl (by kernel_rfl) (by kernel_rfl) (by kernel_rfl) (fun _ _ _ h => h) (Or.inl ⟨by rfl, ?hybr20b35⟩) (by assumption) ?restbr20b35
    case hybr20b35 => (intro w hSw; (try dsimp only at hSw); go_simp <;> with_reducible rfl)
    try simp only [Act.put, List.setIfInBounds_toArray, List.set_cons_zero, List.set_cons_succ]
    refine wpAnyH_ready (rs := [21]) (by kernel_rfl) (by simp) ?_
    refine AllReadyH.cons (o := { dst := none, op := Op.store 25 (Operand.tmp 80) (Operand.tmp 75), type := 0, pos := "table.go:107", after := _, guard := none }) rfl (fun K hK => ?_) AllReadyH.nil
    go_simp
    skip
    refine hK.out _ _ ?_ (fun hHeldbr21b36 => ?_)
    · trivial
    clear hK K hHeldbr13b28
    try simp only [Act.put, List.setIfInBounds_toArray, List.set_cons_zero, List.set_cons_succ]
    refine wpAnyH_take (i := 22) (oi := { dst := some 81, op := Op.nilCheck (Operand.tmp 62), type := 0, pos := "table.go:107", after := _, guard := none }) (v := ?vbr22b37) rfl (by kernel_rfl) (by kernel_rfl) (by kernel_rfl) (fun _ _ _ h => h) (Or.inl ⟨by rfl, ?hybr22b37⟩) (by assumption) ?restbr22b37
    case hybr22b37 => (intro w hSw; (try dsimp only at hSw); go_simp <;> with_reducible rfl)
    try simp only [Act.put, List.setIfInBounds_toArray, List.set_cons_zero, List.set_cons_succ]
    refine wpAnyH_ready (rs := [23]) (by kernel_rfl) (by simp) ?_
    refine AllReadyH.cons (o := { dst := none, op := Op.store 3 (Operand.tmp 81) (Operand.tmp 76), type := 0, pos := "table.go:107", after := _, guard := none }) rfl (fun K hK => ?_) AllReadyH.nil
    go_simp
    skip
    refine hK.out _ _ ?_ (fun hHeldbr23b38 => ?_)
    · trivial
    clear hK K hHeldbr21b36
    try simp only [Act.put, List.setIfInBounds_toArray, List.set_cons_zero, List.set_cons_succ]
    refine wpAnyH_ready (rs := [24]) (by kernel_rfl) (by simp) ?_
    refine AllReadyH.cons (o := { dst := some 13, op := Op.assign (Operand.tmp 77), type := 31, pos := "table.go:107", after := _, guard := none }) rfl (fun K hK => ?_) AllReadyH.nil
    go_simp
    skip
    refine hK.out _ _ ?_ (fun hHeldbr24b39 => ?_)
    · trivial
    clear hK K hHeldbr23b38
    try simp only [Act.put, List.setIfInBounds_toArray, List.set_cons_zero, List.set_cons_succ]
    refine wpAnyH_done (by kernel_rfl) ?_ _
    have hx6 := (HX2.out.pages HX5.out HR5.out).setPl (j := n / 4) (k := k) (by simpa using hk) (by simpa using hj) (ck := ck) (by simpa using HTK.out) hgk at2
    try simp only [List.getElem_set_self, List.set_set] at hx6
    have hY6 := (((hY2.trans (HX5.out.mono (hY2).size)).setCell (show w.heap.size ≤ b by omega) (p := ⟨b, 0, none⟩) (.int .i64 cap)).setCell (show w.heap.size ≤ b by omega) (p := ⟨b, 1, none⟩) (.slice A7 ps2.length c7)).setCell (show w.heap.size ≤ gk by omega) (p := ⟨gk, n / 4, none⟩) (.int .i64 at2)
    have k06 := ((((HK0.out).keep HX5.out).far (show w.heap.size ≠ b by omega) (p := ⟨b, 0, none⟩) (.int .i64 cap)).far (show w.heap.size ≠ b by omega) (p := ⟨b, 1, none⟩) (.slice A7 ps2.length c7)).far (show w.heap.size ≠ gk by omega) (p := ⟨gk, n / 4, none⟩) (.int .i64 at2)
    have k16 := ((((HK1.out).keep HX5.out).far (show w.heap.size + 1 ≠ b by omega) (p := ⟨b, 0, none⟩) (.int .i64 cap)).far (show w.heap.size + 1 ≠ b by omega) (p := ⟨b, 1, none⟩) (.slice A7 ps2.length c7)).far (show w.heap.size + 1 ≠ gk by omega) (p := ⟨gk, n / 4, none⟩) (.int .i64 at2)
    obtain ⟨w6, hw6⟩ : ∃ x, ((w5.setCell ⟨b, 0, none⟩ (.int .i64 cap)).setCell ⟨b, 1, none⟩ (.slice A7 ps2.length c7)).setCell ⟨gk, n / 4, none⟩ (.int .i64 at2) = x := ⟨_, rfl⟩
    rw [hw6] at hx6 hY6 k06 k16 ⊢
    clear hw6 y0 y1 yf0 yf1 y3 yf3 HX5 HR5
    obtain ⟨q3, q4, q5, -, -⟩ := hx6.cells
    have q0 : w6.cell? ⟨w.heap.size + 1, 0, none⟩ = some (.int .i64 0) := (by rw [k16.cell]; rfl)
    have qf0 : w6.frozen? ⟨w.heap.size + 1, 0, none⟩ = false := k16.free 0
    have q1 : w6.cell? ⟨w.heap.size + 1, 1, none⟩ = some (.slice none 0 0) := (by rw [k16.cell]; rfl)
    have qf1 : w6.frozen? ⟨w.heap.size + 1, 1, none⟩ = false := k16.free 1
    have q2 : w6.cell? ⟨w.heap.size + 1, 2, none⟩ = some (.slice none 0 0) := (by rw [k16.cell]; rfl)
    have qf2 : w6.frozen? ⟨w.heap.size + 1, 2, none⟩ = false := k16.free 2
    have hq6 : HpQ w6 _ (.agg #[.int .i64 cap, .slice A7 ps2.length c7, .slice (some ⟨gT, 0, none⟩) ts.length cT]) cap ps2 _ := ⟨_, _, rfl, hx6.2.2.1, hx6.2.2.2.toQ⟩
    have HQ6 := Lib.hid hq6
    have HB16 := Lib.hid k16
    have HY6 := Lib.hid hY6
    clear hq6 k16 hY6 hx6 k06 cO
    go_wp2
    refine bodyPost_ret (v := .tuple #[.agg #[.int .i64 cap, .slice A7 ps2.length c7, .slice (some ⟨gT, 0, none⟩) ts.length cT], .int .i64 0]) (by simp [results, Try.results15, go_sem, q0, q1, q2]) rfl ⟨_, rfl, ?_, ?_⟩
    · exact (((HQ6.out.boxed HB16.out 0 _).boxed (HB16.out.set_ 0 _) 1 _).boxed ((HB16.out.set_ 0 _).set_ 1 _) 2 _).mono (by simp; omega)
    · exact ((HY6.out.setCell (by simp) _).setCell (by simp) _).setCell (by simp) _
  exact AllReadyH.nil

set_option maxRecDepth 100000 in
set_option maxHeartbeats 4000000 in
theorem wr_err (A A2 : Option Addr) (c c2 : Nat) (cap : Int) (ps : List Pg) (ts : List (List Int)) (k n : Nat) (u : Int) (w : World) (hv : HpV w (.agg #[.int .i64 cap, .slice A ps.length c, .slice A2 ts.length c2]) cap ps ts) (hn : ps.length ≤ 900) (hm : ts.length ≤ 1000) (hl : ∀ t ∈ ts, t.length ≤ 1000)
    (he : whyH cap ps ts (k : Int) (n : Int) = 0) (hk : k < ts.length) (h4 : ts[k].length = 4) (hn16 : n < 16) (p : Nat) (at2 er : Int) (ps2 : List Pg) (her : (er != 0) = true) (hpl : ts[k][n / 4]'(by omega) = (p : Int)) (hwr : writeL cap ps (p : Int) ((n : Int) % 4) u = (at2, er, ps2)) :
    Calls Try.prog 15 #[(.agg #[.int .i64 cap, .slice A ps.length c, .slice A2 ts.length c2]), .int .i64 (k : Int), .int .i64 (n : Int), .int .i64 u] w (HeapRes2 cap er ps ts w) := by
  have cO := fun W h => town_any (.agg #[.int .i64 cap, .slice A ps.length c, .slice A2 ts.length c2]) cap ps ts W h (by omega) hm hl
  have cW := fun W h => twhy_any (.agg #[.int .i64 cap, .slice A ps.length c, .slice A2 ts.length c2]) cap ps ts (k : Int) (n : Int) W h (by omega)
  rw [he] at cW
  have HV := Lib.hid hv
  have hj : n / 4 < ts[k].length := by omega
  have hk0 : (0 : Int) ≤ (k : Int) := by omega
  have hk1 : (k : Int) < (ts.length : Int) := by omega
  have hd0 : (0 : Int) ≤ (n : Int) / 4 := by omega
  have hd1 : (n : Int) / 4 < 4 := by omega
  clear he hl hv
  go_enter Try.func15, Try.ntmps15
  have hA0 := ((Below.refl w.heap.size w).alloc (Nat.le_refl _) (.cells #[.int .i64 cap, .slice A ps.length c, .slice A2 ts.length c2] 28)).alloc (by simp) (.cells #[.int .i64 0, .slice none 0 0, .slice none 0 0] 28)
  go_wp2_with fail
  refine (cO _ (HV.out.keep hA0)).mono ?_
  rintro e w1 ⟨b, rfl, hs1, hb1⟩
  have hY1 := hA0.trans (hb1.mono (by simp; omega))
  have k0 : Blk w1 w.heap.size 28 #[.int .i64 cap, .slice A ps.length c, .slice A2 ts.length c2] := ((Blk.new_ w _ _ _ rfl).alloc _).keep hb1
  have k1 : Blk w1 (w.heap.size + 1) 28 #[.int .i64 0, .slice none 0 0, .slice none 0 0] := (Blk.new_ _ _ _ _ (by simp)).keep hb1
  have p0 : w1.cell? ⟨w.heap.size, 0, none⟩ = some (.int .i64 cap) := (by rw [k0.cell]; rfl)
  have p1 : w1.cell? ⟨w.heap.size, 1, none⟩ = some (.slice A ps.length c) := (by rw [k0.cell]; rfl)
  have p2 : w1.cell? ⟨w.heap.size, 2, none⟩ = some (.slice A2 ts.length c2) := (by rw [k0.cell]; rfl)
  go_wp2_with fail
  refine (cW _ (HV.out.keep hY1)).mono ?_
  rintro e w2 ⟨rfl, hb2⟩
  have hY2 := hY1.trans (hb2.mono hY1.size)
  replace k0 := k0.keep hb2
  replace k1 := k1.keep hb2
  obtain ⟨pv, tv, tvs, hx⟩ := hs1.keep hb2
  have hx : OwnHx w2 _ b cap pv tv tvs ps ts := hx
  obtain ⟨gT, cT, gk, ck, rfl, htk, hgT, hgk, hbgk, hblt, z0, z1, zf⟩ := hx.place hk hj
  obtain ⟨A3, c3, rfl, hst⟩ := hx.store
  obtain ⟨r0, r1, r2, rf0, rf1⟩ := hx.cells
  have hbase : w.heap.size + 2 ≤ b := by have := hx.1; simp at this; omega
  simp at hbgk
  have HX2 := Lib.hid hx
  have HK0 := Lib.hid k0
  have HK1 := Lib.hid k1
  have HTK := Lib.hid htk
  have HST := Lib.hid hst
  have gTl : gT < w2.heap.size := by omega
  have gkl : gk < w2.heap.size := by omega
  rw [h4] at z0
  rw [hpl] at z1
  clear k0 k1 hs1 hx hst htk p0 p1 p2 hb1 hb2 cW
  have her' : (er == 0) = false := by simpa using her
  have hp0 : (((p : Nat) : Int) == -1) = false := by rw [beq_eq_false_iff_ne]; omega
  have cWr := fun W h (hn : ps.length ≤ 1000) => Write_own (.agg #[.int .i64 cap, .slice A3 ps.length c3]) cap ps (p : Int) ((n : Int) % 4) u W h hn
  rw [hwr] at cWr
  have HSTR := Lib.hid HST.out
  have BW := (Below.refl w2.heap.size w2).drew
  have gbl : b < w2.heap.size := hblt
  go_wp2_with fail
  refine wp_region_held_drew (S := fun _ => True) (by kernel_rfl) ?_ (fun hHeldcr => ?_)
  · trivial
  refine wpAnyH_take (i := 0) (oi := { dst := some 61, op := Op.move (Operand.tmp 10), type := 61, pos := "table.go:107", after := _, guard := none }) (v := ?vcr0b1) rfl (by kernel_rfl) (by kernel_rfl) (by kernel_rfl) (fun _ _ _ h => h) (Or.inl ⟨by rfl, ?hycr0b1⟩) (by assumption) ?restcr0b1
  case hycr0b1 => (intro w hSw; (try dsimp only at hSw); go_simp <;> with_reducible rfl)
  try simp only [Act.put, List.setIfInBounds_toArray, List.set_cons_zero, List.set_cons_succ]
  refine wpAnyH_take (i := 1) (oi := { dst := some 62, op := Op.move (Operand.tmp 12), type := 65, pos := "table.go:107", after := _, guard := none }) (v := ?vcr1b2) rfl (by kernel_rfl) (by kernel_rfl) (by kernel_rfl) (fun _ _ _ h => h) (Or.inl ⟨by rfl, ?hycr1b2⟩) (by assumption) ?restcr1b2
  case hycr1b2 => (intro w hSw; (try dsimp only at hSw); go_simp <;> with_reducible rfl)
  try simp only [Act.put, List.setIfInBounds_toArray, List.set_cons_zero, List.set_cons_succ]
  refine wpAnyH_take (i := 2) (oi := { dst := some 63, op := Op.move (Operand.tmp 10), type := 61, pos := "table.go:107", after := _, guard := none }) (v := ?vcr2b3) rfl (by kernel_rfl) (by kernel_rfl) (by kernel_rfl) (fun _ _ _ h => h) (Or.inl ⟨by rfl, ?hycr2b3⟩) (by assumption) ?restcr2b3
  case hycr2b3 => (intro w hSw; (try dsimp only at hSw); go_simp <;> with_reducible rfl)
  try simp only [Act.put, List.setIfInBounds_toArray, List.set_cons_zero, List.set_cons_succ]
  refine wpAnyH_take (i := 3) (oi := { dst := some 64, op := Op.nilCheck (Operand.tmp 63), type := 0, pos := "table.go:107", after := _, guard := none }) (v := ?vcr3b4) rfl (by kernel_rfl) (by kernel_rfl) (by kernel_rfl) (fun _ _ _ h => h) (Or.inl ⟨by rfl, ?hycr3b4⟩) (by assumption) ?restcr3b4
  case hycr3b4 => (intro w hSw; (try dsimp only at hSw); go_simp <;> with_reducible rfl)
  try simp only [Act.put, List.setIfInBounds_toArray, List.set_cons_zero, List.set_cons_succ]
  refine wpAnyH_take (i := 4) (oi := { dst := some 65, op := Op.fieldAddr 64 (Operand.tmp 64) 0, type := 0, pos := "table.go:107", after := _, guard := none }) (v := ?vcr4b5) rfl (by kernel_rfl) (by kernel_rfl) (by kernel_rfl) (fun _ _ _ h => h) (Or.inl ⟨by rfl, ?hycr4b5⟩) (by assumption) ?restcr4b5
  case hycr4b5 => (intro w hSw; (try dsimp only at hSw); go_simp <;> with_reducible rfl)
  try simp only [Act.put, List.setIfInBounds_toArray, List.set_cons_zero, List.set_cons_succ]
  refine wpAnyH_take (i := 5) (oi := { dst := some 66, op := Op.fieldAddr 28 (Operand.tmp 65) 0, type := 0, pos := "table.go:107", after := _, guard := none }) (v := ?vcr5b6) rfl (by kernel_rfl) (by kernel_rfl) (by kernel_rfl) (fun _ _ _ h => h) (Or.inl ⟨by rfl, ?hycr5b6⟩) (by assumption) ?restcr5b6
  case hycr5b6 => (intro w hSw; (try dsimp only at hSw); go_simp <;> with_reducible rfl)
  try simp only [Act.put, List.setIfInBounds_toArray, List.set_cons_zero, List.set_cons_succ]
  refine wpAnyH_take (i := 7) (oi := { dst := some 68, op := Op.move (Operand.tmp 12), type := 65, pos := "table.go:107", after := _, guard := none }) (v := ?vcr7b7) rfl (by kernel_rfl) (by kernel_rfl) (by kernel_rfl) (fun _ _ _ h => h) (Or.inl ⟨by rfl, ?hycr7b7⟩) (by assumption) ?restcr7b7
  case hycr7b7 => (intro w hSw; (try dsimp only at hSw); go_simp <;> with_reducible rfl)
  try simp only [Act.put, List.setIfInBounds_toArray, List.set_cons_zero, List.set_cons_succ]
  refine wpAnyH_take (i := 8) (oi := { dst := some 69, op := Op.nilCheck (Operand.tmp 68), type := 0, pos := "table.go:107", after := _, guard := none }) (v := ?vcr8b8) rfl (by kernel_rfl) (by kernel_rfl) (by kernel_rfl) (fun _ _ _ h => h) (Or.inl ⟨by rfl, ?hycr8b8⟩) (by assumption) ?restcr8b8
  case hycr8b8 => (intro w hSw; (try dsimp only at hSw); go_simp <;> with_reducible rfl)
  try simp only [Act.put, List.setIfInBounds_toArray, List.set_cons_zero, List.set_cons_succ]
  refine wpAnyH_take (i := 10) (oi := { dst := some 71, op := Op.move (Operand.tmp 2), type := 3, pos := "table.go:107", after := _, guard := none }) (v := ?vcr10b9) rfl (by kernel_rfl) (by kernel_rfl) (by kernel_rfl) (fun _ _ _ h => h) (Or.inl ⟨by rfl, ?hycr10b9⟩) (by assumption) ?restcr10b9
  case hycr10b9 => (intro w hSw; (try dsimp only at hSw); go_simp <;> with_reducible rfl)
  try simp only [Act.put, List.setIfInBounds_toArray, List.set_cons_zero, List.set_cons_succ]
  refine wpAnyH_take (i := 11) (oi := { dst := some 72, op := Op.binOp BinOp.rem 3 (Operand.tmp 71) (Operand.const (Value.int IntKind.i64 4)) 3, type := 3, pos := "table.go:107", after := _, guard := none }) (v := ?vcr11b10) rfl (by kernel_rfl) (by kernel_rfl) (by kernel_rfl) (fun _ _ _ h => h) (Or.inl ⟨by rfl, ?hycr11b10⟩) (by assumption) ?restcr11b10
  case hycr11b10 => (intro w hSw; (try dsimp only at hSw); go_simp <;> with_reducible rfl)
  try simp only [Act.put, List.setIfInBounds_toArray, List.set_cons_zero, List.set_cons_succ]
  refine wpAnyH_take (i := 12) (oi := { dst := some 73, op := Op.move (Operand.tmp 3), type := 3, pos := "table.go:107", after := _, guard := none }) (v := ?vcr12b11) rfl (by kernel_rfl) (by kernel_rfl) (by kernel_rfl) (fun _ _ _ h => h) (Or.inl ⟨by rfl, ?hycr12b11⟩) (by assumption) ?restcr12b11
  case hycr12b11 => (intro w hSw; (try dsimp only at hSw); go_simp <;> with_reducible rfl)
  try simp only [Act.put, List.setIfInBounds_toArray, List.set_cons_zero, List.set_cons_succ]
  refine wpAnyH_ready (rs := [6, 9]) (by kernel_rfl) (by simp) ?_
  refine AllReadyH.cons (o := { dst := some 67, op := Op.load 25 (Operand.tmp 66), type := 25, pos := "table.go:107", after := _, guard := none }) rfl (fun K hK => ?_) ?_
  · go_simp
    skip
    refine hK.out _ _ ?_ (fun hHeldcr6b12 => ?_)
    · trivial
    clear hK K hHeldcr
    try simp only [Act.put, List.setIfInBounds_toArray, List.set_cons_zero, List.set_cons_succ]
    refine wpAnyH_ready (rs := [9]) (by kernel_rfl) (by simp) ?_
    refine AllReadyH.cons (o := { dst := some 70, op := Op.load 3 (Operand.tmp 69), type := 3, pos := "table.go:107", after := _, guard := none }) rfl (fun K hK => ?_) AllReadyH.nil
    go_simp
    skip
    refine hK.out _ _ ?_ (fun hHeldcr9b13 => ?_)
    · trivial
    clear hK K hHeldcr6b12
    try simp only [Act.put, List.setIfInBounds_toArray, List.set_cons_zero, List.set_cons_succ]
    refine wpAnyH_ready (rs := [13]) (by kernel_rfl) (by simp) ?_
    refine AllReadyH.cons (o := { dst := some 74, op := Op.call { callee := Callee.value (Operand.func 35), args := #[Operand.tmp 67, Operand.tmp 70, Operand.tmp 72, Operand.tmp 73], argTypes := #[25, 3, 3, 3] }, type := 66, pos := "table.go:107", after := _, guard := none }) rfl (fun K hK => ?_) AllReadyH.nil
    go_simp
    refine (cWr _ (HSTR.out.below BW) (by omega)).mono ?_
    rintro e w5 ⟨v5, rfl, ⟨sv5, rfl, hr5⟩, hb5⟩
    have hX := BW.trans (hb5.mono BW.size)
    obtain ⟨A7, c7, rfl, _, _⟩ := (Sl.of_own hr5).form
    have y0 := (hX.cell (p := ⟨b, 0, none⟩) gbl).trans r0
    have y1 := (hX.cell (p := ⟨b, 1, none⟩) gbl).trans r1
    have yf0 := (hX.frozen (p := ⟨b, 0, none⟩) gbl).trans rf0
    have yf1 := (hX.frozen (p := ⟨b, 1, none⟩) gbl).trans rf1
    have y3 := (hX.cell (p := ⟨gk, n / 4, none⟩) gkl).trans z1
    have yf3 := (hX.frozen (p := ⟨gk, n / 4, none⟩) gkl).trans zf
    have HX5 := Lib.hid hX
    have HR5 := Lib.hid hr5
    clear hX hr5 hb5
    try go_wp2_with fail
    refine hK.out _ _ ?_ (fun hHeldcr13b14 => ?_)
    · trivial
    clear hK K hHeldcr9b13
    try simp only [Act.put, List.setIfInBounds_toArray, List.set_cons_zero, List.set_cons_succ]
    refine wpAnyH_take (i := 14) (oi := { dst := some 60, op := Op.move (Operand.tmp 74), type := 66, pos := "table.go:107", after := _, guard := none }) (v := ?vcr14b15) rfl (by kernel_rfl) (by kernel_rfl) (by kernel_rfl) (fun _ _ _ h => h) (Or.inl ⟨by rfl, ?hycr14b15⟩) (by assumption) ?restcr14b15
    case hycr14b15 => (intro w hSw; (try dsimp only at hSw); go_simp <;> with_reducible rfl)
    try simp only [Act.put, List.setIfInBounds_toArray, List.set_cons_zero, List.set_cons_succ]
    refine wpAnyH_take (i := 15) (oi := { dst := some 75, op := Op.extract (Operand.tmp 60) 0, type := 25, pos := "table.go:107", after := _, guard := none }) (v := ?vcr15b16) rfl (by kernel_rfl) (by kernel_rfl) (by kernel_rfl) (fun _ _ _ h => h) (Or.inl ⟨by rfl, ?hycr15b16⟩) (by assumption) ?restcr15b16
    case hycr15b16 => (intro w hSw; (try dsimp only at hSw); go_simp <;> with_reducible rfl)
    try simp only [Act.put, List.setIfInBounds_toArray, List.set_cons_zero, List.set_cons_succ]
    refine wpAnyH_take (i := 16) (oi := { dst := some 76, op := Op.extract (Operand.tmp 60) 1, type := 3, pos := "table.go:107", after := _, guard := none }) (v := ?vcr16b17) rfl (by kernel_rfl) (by kernel_rfl) (by kernel_rfl) (fun _ _ _ h => h) (Or.inl ⟨by rfl, ?hycr16b17⟩) (by assumption) ?restcr16b17
    case hycr16b17 => (intro w hSw; (try dsimp only at hSw); go_simp <;> with_reducible rfl)
    try simp only [Act.put, List.setIfInBounds_toArray, List.set_cons_zero, List.set_cons_succ]
    refine wpAnyH_take (i := 17) (oi := { dst := some 77, op := Op.extract (Operand.tmp 60) 2, type := 31, pos := "table.go:107", after := _, guard := none }) (v := ?vcr17b18) rfl (by kernel_rfl) (by kernel_rfl) (by kernel_rfl) (fun _ _ _ h => h) (Or.inl ⟨by rfl, ?hycr17b18⟩) (by assumption) ?restcr17b18
    case hycr17b18 => (intro w hSw; (try dsimp only at hSw); go_simp <;> with_reducible rfl)
    try simp only [Act.put, List.setIfInBounds_toArray, List.set_cons_zero, List.set_cons_succ]
    refine wpAnyH_take (i := 18) (oi := { dst := some 78, op := Op.nilCheck (Operand.tmp 61), type := 0, pos := "table.go:107", after := _, guard := none }) (v := ?vcr18b19) rfl (by kernel_rfl) (by kernel_rfl) (by kernel_rfl) (fun _ _ _ h => h) (Or.inl ⟨by rfl, ?hycr18b19⟩) (by assumption) ?restcr18b19
    case hycr18b19 => (intro w hSw; (try dsimp only at hSw); go_simp <;> with_reducible rfl)
    try simp only [Act.put, List.setIfInBounds_toArray, List.set_cons_zero, List.set_cons_succ]
    refine wpAnyH_take (i := 19) (oi := { dst := some 79, op := Op.fieldAddr 64 (Operand.tmp 78) 0, type := 0, pos := "table.go:107", after := _, guard := none }) (v := ?vcr19b20) rfl (by kernel_rfl) (by kernel_rfl) (by kernel_rfl) (fun _ _ _ h => h) (Or.inl ⟨by rfl, ?hycr19b20⟩) (by assumption) ?restcr19b20
    case hycr19b20 => (intro w hSw; (try dsimp only at hSw); go_simp <;> with_reducible rfl)
    try simp only [Act.put, List.setIfInBounds_toArray, List.set_cons_zero, List.set_cons_succ]
    refine wpAnyH_take (i := 20) (oi := { dst := some 80, op := Op.fieldAddr 28 (Operand.tmp 79) 0, type := 0, pos := "table.go:107", after := _, guard := none }) (v := ?vcr20b21) rfl (by kernel_rfl) (by kernel_rfl) (by kernel_rfl) (fun _ _ _ h => h) (Or.inl ⟨by rfl, ?hycr20b21⟩) (by assumption) ?restcr20b21
    case hycr20b21 => (intro w hSw; (try dsimp only at hSw); go_simp <;> with_reducible rfl)
    try simp only [Act.put, List.setIfInBounds_toArray, List.set_cons_zero, List.set_cons_succ]
    refine wpAnyH_ready (rs := [21]) (by kernel_rfl) (by simp) ?_
    refine AllReadyH.cons (o := { dst := none, op := Op.store 25 (Operand.tmp 80) (Operand.tmp 75), type := 0, pos := "table.go:107", after := _, guard := none }) rfl (fun K hK => ?_) AllReadyH.nil
    go_simp
    skip
    refine hK.out _ _ ?_ (fun hHeldcr21b22 => ?_)
    · trivial
    clear hK K hHeldcr13b14
    try simp only [Act.put, List.setIfInBounds_toArray, List.set_cons_zero, List.set_cons_succ]
    refine wpAnyH_take (i := 22) (oi := { dst := some 81, op := Op.nilCheck (Operand.tmp 62), type := 0, pos := "table.go:107", after := _, guard := none }) (v := ?vcr22b23) rfl (by kernel_rfl) (by kernel_rfl) (by kernel_rfl) (fun _ _ _ h => h) (Or.inl ⟨by rfl, ?hycr22b23⟩) (by assumption) ?restcr22b23
    case hycr22b23 => (intro w hSw; (try dsimp only at hSw); go_simp <;> with_reducible rfl)
    try simp only [Act.put, List.setIfInBounds_toArray, List.set_cons_zero, List.set_cons_succ]
    refine wpAnyH_ready (rs := [23]) (by kernel_rfl) (by simp) ?_
    refine AllReadyH.cons (o := { dst := none, op := Op.store 3 (Operand.tmp 81) (Operand.tmp 76), type := 0, pos := "table.go:107", after := _, guard := none }) rfl (fun K hK => ?_) AllReadyH.nil
    go_simp
    skip
    refine hK.out _ _ ?_ (fun hHeldcr23b24 => ?_)
    · trivial
    clear hK K hHeldcr21b22
    try simp only [Act.put, List.setIfInBounds_toArray, List.set_cons_zero, List.set_cons_succ]
    refine wpAnyH_ready (rs := [24]) (by kernel_rfl) (by simp) ?_
    refine AllReadyH.cons (o := { dst := some 13, op := Op.assign (Operand.tmp 77), type := 31, pos := "table.go:107", after := _, guard := none }) rfl (fun K hK => ?_) AllReadyH.nil
    go_simp
    skip
    refine hK.out _ _ ?_ (fun hHeldcr24b25 => ?_)
    · trivial
    clear hK K hHeldcr23b24
    try simp only [Act.put, List.setIfInBounds_toArray, List.set_cons_zero, List.set_cons_succ]
    refine wpAnyH_done (by kernel_rfl) ?_ _
    have hx6 := (HX2.out.pages HX5.out HR5.out).setPl (j := n / 4) (k := k) (by simpa using hk) (by simpa using hj) (ck := ck) (by simpa using HTK.out) hgk at2
    try simp only [List.getElem_set_self, List.set_set] at hx6
    have hY6 := (((hY2.trans (HX5.out.mono (hY2).size)).setCell (show w.heap.size ≤ b by omega) (p := ⟨b, 0, none⟩) (.int .i64 cap)).setCell (show w.heap.size ≤ b by omega) (p := ⟨b, 1, none⟩) (.slice A7 ps2.length c7)).setCell (show w.heap.size ≤ gk by omega) (p := ⟨gk, n / 4, none⟩) (.int .i64 at2)
    have k06 := ((((HK0.out).keep HX5.out).far (show w.heap.size ≠ b by omega) (p := ⟨b, 0, none⟩) (.int .i64 cap)).far (show w.heap.size ≠ b by omega) (p := ⟨b, 1, none⟩) (.slice A7 ps2.length c7)).far (show w.heap.size ≠ gk by omega) (p := ⟨gk, n / 4, none⟩) (.int .i64 at2)
    have k16 := ((((HK1.out).keep HX5.out).far (show w.heap.size + 1 ≠ b by omega) (p := ⟨b, 0, none⟩) (.int .i64 cap)).far (show w.heap.size + 1 ≠ b by omega) (p := ⟨b, 1, none⟩) (.slice A7 ps2.length c7)).far (show w.heap.size + 1 ≠ gk by omega) (p := ⟨gk, n / 4, none⟩) (.int .i64 at2)
    obtain ⟨w6, hw6⟩ : ∃ x, ((w5.setCell ⟨b, 0, none⟩ (.int .i64 cap)).setCell ⟨b, 1, none⟩ (.slice A7 ps2.length c7)).setCell ⟨gk, n / 4, none⟩ (.int .i64 at2) = x := ⟨_, rfl⟩
    rw [hw6] at hx6 hY6 k06 k16 ⊢
    clear hw6 y0 y1 yf0 yf1 y3 yf3 HX5 HR5
    have p0 : w6.cell? ⟨w.heap.size, 0, none⟩ = some (.int .i64 cap) := (by rw [k06.cell]; rfl)
    have p1 : w6.cell? ⟨w.heap.size, 1, none⟩ = some (.slice A ps.length c) := (by rw [k06.cell]; rfl)
    have p2 : w6.cell? ⟨w.heap.size, 2, none⟩ = some (.slice A2 ts.length c2) := (by rw [k06.cell]; rfl)
    have HB16 := Lib.hid k16
    have HY6 := Lib.hid hY6
    clear k16 hY6 hx6 k06
    go_wp2_with fail
    refine (cO _ (HV.out.keep HY6.out)).mono ?_
    rintro e w8 ⟨b8, rfl, hs8, hb8⟩
    have hY8 := (HY6.out).trans (hb8.mono (HY6.out).size)
    have k8 := (HB16.out).keep hb8
    obtain ⟨A8, c8, A9, c9, hb8', hlt8, u0, u1, u2, hq8⟩ := hs8.toW.read
    have q0 : w8.cell? ⟨w.heap.size + 1, 0, none⟩ = some (.int .i64 0) := (by rw [k8.cell]; rfl)
    have qf0 : w8.frozen? ⟨w.heap.size + 1, 0, none⟩ = false := k8.free 0
    have q1 : w8.cell? ⟨w.heap.size + 1, 1, none⟩ = some (.slice none 0 0) := (by rw [k8.cell]; rfl)
    have qf1 : w8.frozen? ⟨w.heap.size + 1, 1, none⟩ = false := k8.free 1
    have q2 : w8.cell? ⟨w.heap.size + 1, 2, none⟩ = some (.slice none 0 0) := (by rw [k8.cell]; rfl)
    have qf2 : w8.frozen? ⟨w.heap.size + 1, 2, none⟩ = false := k8.free 2
    have HQ8 := Lib.hid hq8
    have HK8 := Lib.hid k8
    clear hs8 hq8 k8 hb8
    have hz8 : w.heap.size ≤ w6.heap.size := (HY6.out).size
    go_wp2
    refine bodyPost_ret (v := .tuple #[.agg #[.int .i64 cap, .slice A8 ps.length c8, .slice A9 ts.length c9], .int .i64 er]) (by simp [results, Try.results15, go_sem, q0, q1, q2]) rfl ⟨_, rfl, ?_, ?_⟩
    · exact (((HQ8.out.boxed HK8.out 0 _).boxed (HK8.out.set_ 0 _) 1 _).boxed ((HK8.out.set_ 0 _).set_ 1 _) 2 _).mono hz8
    · exact ((hY8.setCell (by simp) _).setCell (by simp) _).setCell (by simp) _
  refine AllReadyH.cons (o := { dst := some 70, op := Op.load 3 (Operand.tmp 69), type := 3, pos := "table.go:107", after := _, guard := none }) rfl (fun K hK => ?_) ?_
  · go_simp
    skip
    refine hK.out _ _ ?_ (fun hHeldcr9b26 => ?_)
    · trivial
    clear hK K hHeldcr
    try simp only [Act.put, List.setIfInBounds_toArray, List.set_cons_zero, List.set_cons_succ]
    refine wpAnyH_ready (rs := [6]) (by kernel_rfl) (by simp) ?_
    refine AllReadyH.cons (o := { dst := some 67, op := Op.load 25 (Operand.tmp 66), type := 25, pos := "table.go:107", after := _, guard := none }) rfl (fun K hK => ?_) AllReadyH.nil
    go_simp
    skip
    refine hK.out _ _ ?_ (fun hHeldcr6b27 => ?_)
    · trivial
    clear hK K hHeldcr9b26
    try simp only [Act.put, List.setIfInBounds_toArray, List.set_cons_zero, List.set_cons_succ]
    refine wpAnyH_ready (rs := [13]) (by kernel_rfl) (by simp) ?_
    refine AllReadyH.cons (o := { dst := some 74, op := Op.call { callee := Callee.value (Operand.func 35), args := #[Operand.tmp 67, Operand.tmp 70, Operand.tmp 72, Operand.tmp 73], argTypes := #[25, 3, 3, 3] }, type := 66, pos := "table.go:107", after := _, guard := none }) rfl (fun K hK => ?_) AllReadyH.nil
    go_simp
    refine (cWr _ (HSTR.out.below BW) (by omega)).mono ?_
    rintro e w5 ⟨v5, rfl, ⟨sv5, rfl, hr5⟩, hb5⟩
    have hX := BW.trans (hb5.mono BW.size)
    obtain ⟨A7, c7, rfl, _, _⟩ := (Sl.of_own hr5).form
    have y0 := (hX.cell (p := ⟨b, 0, none⟩) gbl).trans r0
    have y1 := (hX.cell (p := ⟨b, 1, none⟩) gbl).trans r1
    have yf0 := (hX.frozen (p := ⟨b, 0, none⟩) gbl).trans rf0
    have yf1 := (hX.frozen (p := ⟨b, 1, none⟩) gbl).trans rf1
    have y3 := (hX.cell (p := ⟨gk, n / 4, none⟩) gkl).trans z1
    have yf3 := (hX.frozen (p := ⟨gk, n / 4, none⟩) gkl).trans zf
    have HX5 := Lib.hid hX
    have HR5 := Lib.hid hr5
    clear hX hr5 hb5
    try go_wp2_with fail
    refine hK.out _ _ ?_ (fun hHeldcr13b28 => ?_)
    · trivial
    clear hK K hHeldcr6b27
    try simp only [Act.put, List.setIfInBounds_toArray, List.set_cons_zero, List.set_cons_succ]
    refine wpAnyH_take (i := 14) (oi := { dst := some 60, op := Op.move (Operand.tmp 74), type := 66, pos := "table.go:107", after := _, guard := none }) (v := ?vcr14b29) rfl (by kernel_rfl) (by kernel_rfl) (by kernel_rfl) (fun _ _ _ h => h) (Or.inl ⟨by rfl, ?hycr14b29⟩) (by assumption) ?restcr14b29
    case hycr14b29 => (intro w hSw; (try dsimp only at hSw); go_simp <;> with_reducible rfl)
    try simp only [Act.put, List.setIfInBounds_toArray, List.set_cons_zero, List.set_cons_succ]
    refine wpAnyH_take (i := 15) (oi := { dst := some 75, op := Op.extract (Operand.tmp 60) 0, type := 25, pos := "table.go:107", after := _, guard := none }) (v := ?vcr15b30) rfl (by kernel_rfl) (by kernel_rfl) (by kernel_rfl) (fun _ _ _ h => h) (Or.inl ⟨by rfl, ?hycr15b30⟩) (by assumption) ?restcr15b30
    case hycr15b30 => (intro w hSw; (try dsimp only at hSw); go_simp <;> with_reducible rfl)
    try simp only [Act.put, List.setIfInBounds_toArray, List.set_cons_zero, List.set_cons_succ]
    refine wpAnyH_take (i := 16) (oi := { dst := some 76, op := Op.extract (Operand.tmp 60) 1, type := 3, pos := "table.go:107", after := _, guard := none }) (v := ?vcr16b31) rfl (by kernel_rfl) (by kernel_rfl) (by kernel_rfl) (fun _ _ _ h => h) (Or.inl ⟨by rfl, ?hycr16b31⟩) (by assumption) ?restcr16b31
    case hycr16b31 => (intro w hSw; (try dsimp only at hSw); go_simp <;> with_reducible rfl)
    try simp only [Act.put, List.setIfInBounds_toArray, List.set_cons_zero, List.set_cons_succ]
    refine wpAnyH_take (i := 17) (oi := { dst := some 77, op := Op.extract (Operand.tmp 60) 2, type := 31, pos := "table.go:107", after := _, guard := none }) (v := ?vcr17b32) rfl (by kernel_rfl) (by kernel_rfl) (by kernel_rfl) (fun _ _ _ h => h) (Or.inl ⟨by rfl, ?hycr17b32⟩) (by assumption) ?restcr17b32
    case hycr17b32 => (intro w hSw; (try dsimp only at hSw); go_simp <;> with_reducible rfl)
    try simp only [Act.put, List.setIfInBounds_toArray, List.set_cons_zero, List.set_cons_succ]
    refine wpAnyH_take (i := 18) (oi := { dst := some 78, op := Op.nilCheck (Operand.tmp 61), type := 0, pos := "table.go:107", after := _, guard := none }) (v := ?vcr18b33) rfl (by kernel_rfl) (by kernel_rfl) (by kernel_rfl) (fun _ _ _ h => h) (Or.inl ⟨by rfl, ?hycr18b33⟩) (by assumption) ?restcr18b33
    case hycr18b33 => (intro w hSw; (try dsimp only at hSw); go_simp <;> with_reducible rfl)
    try simp only [Act.put, List.setIfInBounds_toArray, List.set_cons_zero, List.set_cons_succ]
    refine wpAnyH_take (i := 19) (oi := { dst := some 79, op := Op.fieldAddr 64 (Operand.tmp 78) 0, type := 0, pos := "table.go:107", after := _, guard := none }) (v := ?vcr19b34) rfl (by kernel_rfl) (by kernel_rfl) (by kernel_rfl) (fun _ _ _ h => h) (Or.inl ⟨by rfl, ?hycr19b34⟩) (by assumption) ?restcr19b34
    case hycr19b34 => (intro w hSw; (try dsimp only at hSw); go_simp <;> with_reducible rfl)
    try simp only [Act.put, List.setIfInBounds_toArray, List.set_cons_zero, List.set_cons_succ]
    refine wpAnyH_take (i := 20) (oi := { dst := some 80, op := Op.fieldAddr 28 (Operand.tmp 79) 0, type := 0, pos := "table.go:107", after := _, guard := none }) (v := ?vcr20b35) rfl (by kernel_rfl) (by kernel_rfl) (by kernel_rfl) (fun _ _ _ h => h) (Or.inl ⟨by rfl, ?hycr20b35⟩) (by assumption) ?restcr20b35
    case hycr20b35 => (intro w hSw; (try dsimp only at hSw); go_simp <;> with_reducible rfl)
    try simp only [Act.put, List.setIfInBounds_toArray, List.set_cons_zero, List.set_cons_succ]
    refine wpAnyH_ready (rs := [21]) (by kernel_rfl) (by simp) ?_
    refine AllReadyH.cons (o := { dst := none, op := Op.store 25 (Operand.tmp 80) (Operand.tmp 75), type := 0, pos := "table.go:107", after := _, guard := none }) rfl (fun K hK => ?_) AllReadyH.nil
    go_simp
    skip
    refine hK.out _ _ ?_ (fun hHeldcr21b36 => ?_)
    · trivial
    clear hK K hHeldcr13b28
    try simp only [Act.put, List.setIfInBounds_toArray, List.set_cons_zero, List.set_cons_succ]
    refine wpAnyH_take (i := 22) (oi := { dst := some 81, op := Op.nilCheck (Operand.tmp 62), type := 0, pos := "table.go:107", after := _, guard := none }) (v := ?vcr22b37) rfl (by kernel_rfl) (by kernel_rfl) (by kernel_rfl) (fun _ _ _ h => h) (Or.inl ⟨by rfl, ?hycr22b37⟩) (by assumption) ?restcr22b37
    case hycr22b37 => (intro w hSw; (try dsimp only at hSw); go_simp <;> with_reducible rfl)
    try simp only [Act.put, List.setIfInBounds_toArray, List.set_cons_zero, List.set_cons_succ]
    refine wpAnyH_ready (rs := [23]) (by kernel_rfl) (by simp) ?_
    refine AllReadyH.cons (o := { dst := none, op := Op.store 3 (Operand.tmp 81) (Operand.tmp 76), type := 0, pos := "table.go:107", after := _, guard := none }) rfl (fun K hK => ?_) AllReadyH.nil
    go_simp
    skip
    refine hK.out _ _ ?_ (fun hHeldcr23b38 => ?_)
    · trivial
    clear hK K hHeldcr21b36
    try simp only [Act.put, List.setIfInBounds_toArray, List.set_cons_zero, List.set_cons_succ]
    refine wpAnyH_ready (rs := [24]) (by kernel_rfl) (by simp) ?_
    refine AllReadyH.cons (o := { dst := some 13, op := Op.assign (Operand.tmp 77), type := 31, pos := "table.go:107", after := _, guard := none }) rfl (fun K hK => ?_) AllReadyH.nil
    go_simp
    skip
    refine hK.out _ _ ?_ (fun hHeldcr24b39 => ?_)
    · trivial
    clear hK K hHeldcr23b38
    try simp only [Act.put, List.setIfInBounds_toArray, List.set_cons_zero, List.set_cons_succ]
    refine wpAnyH_done (by kernel_rfl) ?_ _
    have hx6 := (HX2.out.pages HX5.out HR5.out).setPl (j := n / 4) (k := k) (by simpa using hk) (by simpa using hj) (ck := ck) (by simpa using HTK.out) hgk at2
    try simp only [List.getElem_set_self, List.set_set] at hx6
    have hY6 := (((hY2.trans (HX5.out.mono (hY2).size)).setCell (show w.heap.size ≤ b by omega) (p := ⟨b, 0, none⟩) (.int .i64 cap)).setCell (show w.heap.size ≤ b by omega) (p := ⟨b, 1, none⟩) (.slice A7 ps2.length c7)).setCell (show w.heap.size ≤ gk by omega) (p := ⟨gk, n / 4, none⟩) (.int .i64 at2)
    have k06 := ((((HK0.out).keep HX5.out).far (show w.heap.size ≠ b by omega) (p := ⟨b, 0, none⟩) (.int .i64 cap)).far (show w.heap.size ≠ b by omega) (p := ⟨b, 1, none⟩) (.slice A7 ps2.length c7)).far (show w.heap.size ≠ gk by omega) (p := ⟨gk, n / 4, none⟩) (.int .i64 at2)
    have k16 := ((((HK1.out).keep HX5.out).far (show w.heap.size + 1 ≠ b by omega) (p := ⟨b, 0, none⟩) (.int .i64 cap)).far (show w.heap.size + 1 ≠ b by omega) (p := ⟨b, 1, none⟩) (.slice A7 ps2.length c7)).far (show w.heap.size + 1 ≠ gk by omega) (p := ⟨gk, n / 4, none⟩) (.int .i64 at2)
    obtain ⟨w6, hw6⟩ : ∃ x, ((w5.setCell ⟨b, 0, none⟩ (.int .i64 cap)).setCell ⟨b, 1, none⟩ (.slice A7 ps2.length c7)).setCell ⟨gk, n / 4, none⟩ (.int .i64 at2) = x := ⟨_, rfl⟩
    rw [hw6] at hx6 hY6 k06 k16 ⊢
    clear hw6 y0 y1 yf0 yf1 y3 yf3 HX5 HR5
    have p0 : w6.cell? ⟨w.heap.size, 0, none⟩ = some (.int .i64 cap) := (by rw [k06.cell]; rfl)
    have p1 : w6.cell? ⟨w.heap.size, 1, none⟩ = some (.slice A ps.length c) := (by rw [k06.cell]; rfl)
    have p2 : w6.cell? ⟨w.heap.size, 2, none⟩ = some (.slice A2 ts.length c2) := (by rw [k06.cell]; rfl)
    have HB16 := Lib.hid k16
    have HY6 := Lib.hid hY6
    clear k16 hY6 hx6 k06
    go_wp2_with fail
    refine (cO _ (HV.out.keep HY6.out)).mono ?_
    rintro e w8 ⟨b8, rfl, hs8, hb8⟩
    have hY8 := (HY6.out).trans (hb8.mono (HY6.out).size)
    have k8 := (HB16.out).keep hb8
    obtain ⟨A8, c8, A9, c9, hb8', hlt8, u0, u1, u2, hq8⟩ := hs8.toW.read
    have q0 : w8.cell? ⟨w.heap.size + 1, 0, none⟩ = some (.int .i64 0) := (by rw [k8.cell]; rfl)
    have qf0 : w8.frozen? ⟨w.heap.size + 1, 0, none⟩ = false := k8.free 0
    have q1 : w8.cell? ⟨w.heap.size + 1, 1, none⟩ = some (.slice none 0 0) := (by rw [k8.cell]; rfl)
    have qf1 : w8.frozen? ⟨w.heap.size + 1, 1, none⟩ = false := k8.free 1
    have q2 : w8.cell? ⟨w.heap.size + 1, 2, none⟩ = some (.slice none 0 0) := (by rw [k8.cell]; rfl)
    have qf2 : w8.frozen? ⟨w.heap.size + 1, 2, none⟩ = false := k8.free 2
    have HQ8 := Lib.hid hq8
    have HK8 := Lib.hid k8
    clear hs8 hq8 k8 hb8
    have hz8 : w.heap.size ≤ w6.heap.size := (HY6.out).size
    go_wp2
    refine bodyPost_ret (v := .tuple #[.agg #[.int .i64 cap, .slice A8 ps.length c8, .slice A9 ts.length c9], .int .i64 er]) (by simp [results, Try.results15, go_sem, q0, q1, q2]) rfl ⟨_, rfl, ?_, ?_⟩
    · exact (((HQ8.out.boxed HK8.out 0 _).boxed (HK8.out.set_ 0 _) 1 _).boxed ((HK8.out.set_ 0 _).set_ 1 _) 2 _).mono hz8
    · exact ((hY8.setCell (by simp) _).setCell (by simp) _).setCell (by simp) _
  exact AllReadyH.nil

set_option maxRecDepth 100000 in
set_option maxHeartbeats 4000000 in
theorem wr_aerr (A A2 : Option Addr) (c c2 : Nat) (cap : Int) (ps : List Pg) (ts : List (List Int)) (k n : Nat) (u : Int) (w : World) (hv : HpV w (.agg #[.int .i64 cap, .slice A ps.length c, .slice A2 ts.length c2]) cap ps ts) (hn : ps.length ≤ 900) (hm : ts.length ≤ 1000) (hl : ∀ t ∈ ts, t.length ≤ 1000)
    (he : whyH cap ps ts (k : Int) (n : Int) = 0) (hk : k < ts.length) (h4 : ts[k].length = 4) (hn16 : n < 16) (at1 er : Int) (ps1 : List Pg) (her : (er != 0) = true) (hpl : ts[k][n / 4]'(by omega) = (-1 : Int)) (hal : allocX cap ps = (at1, er, ps1)) :
    Calls Try.prog 15 #[(.agg #[.int .i64 cap, .slice A ps.length c, .slice A2 ts.length c2]), .int .i64 (k : Int), .int .i64 (n : Int), .int .i64 u] w (HeapRes2 cap er ps ts w) := by
  have cO := fun W h => town_any (.agg #[.int .i64 cap, .slice A ps.length c, .slice A2 ts.length c2]) cap ps ts W h (by omega) hm hl
  have cW := fun W h => twhy_any (.agg #[.int .i64 cap, .slice A ps.length c, .slice A2 ts.length c2]) cap ps ts (k : Int) (n : Int) W h (by omega)
  rw [he] at cW
  have HV := Lib.hid hv
  have hj : n / 4 < ts[k].length := by omega
  have hk0 : (0 : Int) ≤ (k : Int) := by omega
  have hk1 : (k : Int) < (ts.length : Int) := by omega
  have hd0 : (0 : Int) ≤ (n : Int) / 4 := by omega
  have hd1 : (n : Int) / 4 < 4 := by omega
  clear he hl hv
  go_enter Try.func15, Try.ntmps15
  have hA0 := ((Below.refl w.heap.size w).alloc (Nat.le_refl _) (.cells #[.int .i64 cap, .slice A ps.length c, .slice A2 ts.length c2] 28)).alloc (by simp) (.cells #[.int .i64 0, .slice none 0 0, .slice none 0 0] 28)
  go_wp2_with fail
  refine (cO _ (HV.out.keep hA0)).mono ?_
  rintro e w1 ⟨b, rfl, hs1, hb1⟩
  have hY1 := hA0.trans (hb1.mono (by simp; omega))
  have k0 : Blk w1 w.heap.size 28 #[.int .i64 cap, .slice A ps.length c, .slice A2 ts.length c2] := ((Blk.new_ w _ _ _ rfl).alloc _).keep hb1
  have k1 : Blk w1 (w.heap.size + 1) 28 #[.int .i64 0, .slice none 0 0, .slice none 0 0] := (Blk.new_ _ _ _ _ (by simp)).keep hb1
  have p0 : w1.cell? ⟨w.heap.size, 0, none⟩ = some (.int .i64 cap) := (by rw [k0.cell]; rfl)
  have p1 : w1.cell? ⟨w.heap.size, 1, none⟩ = some (.slice A ps.length c) := (by rw [k0.cell]; rfl)
  have p2 : w1.cell? ⟨w.heap.size, 2, none⟩ = some (.slice A2 ts.length c2) := (by rw [k0.cell]; rfl)
  go_wp2_with fail
  refine (cW _ (HV.out.keep hY1)).mono ?_
  rintro e w2 ⟨rfl, hb2⟩
  have hY2 := hY1.trans (hb2.mono hY1.size)
  replace k0 := k0.keep hb2
  replace k1 := k1.keep hb2
  obtain ⟨pv, tv, tvs, hx⟩ := hs1.keep hb2
  have hx : OwnHx w2 _ b cap pv tv tvs ps ts := hx
  obtain ⟨gT, cT, gk, ck, rfl, htk, hgT, hgk, hbgk, hblt, z0, z1, zf⟩ := hx.place hk hj
  obtain ⟨A3, c3, rfl, hst⟩ := hx.store
  obtain ⟨r0, r1, r2, rf0, rf1⟩ := hx.cells
  have hbase : w.heap.size + 2 ≤ b := by have := hx.1; simp at this; omega
  simp at hbgk
  have HX2 := Lib.hid hx
  have HK0 := Lib.hid k0
  have HK1 := Lib.hid k1
  have HTK := Lib.hid htk
  have HST := Lib.hid hst
  have gTl : gT < w2.heap.size := by omega
  have gkl : gk < w2.heap.size := by omega
  rw [h4] at z0
  rw [hpl] at z1
  clear k0 k1 hs1 hx hst htk p0 p1 p2 hb1 hb2 cW
  have her' : (er == 0) = false := by simpa using her
  have cA := Alloc_own _ cap ps w2 HST.out (by omega)
  rw [hal] at cA
  go_wp2_with fail
  refine cA.mono ?_
  rintro e w3 ⟨v3, rfl, ⟨sv3, rfl, hr3⟩, hb3, -⟩
  obtain ⟨A5, c5, rfl, _, _⟩ := (Sl.of_own hr3).form
  have s0 := (hb3.cell (p := ⟨b, 0, none⟩) hblt).trans r0
  have s1 := (hb3.cell (p := ⟨b, 1, none⟩) hblt).trans r1
  have sf0 := (hb3.frozen (p := ⟨b, 0, none⟩) hblt).trans rf0
  have sf1 := (hb3.frozen (p := ⟨b, 1, none⟩) hblt).trans rf1
  have s3 := (hb3.cell (p := ⟨gk, n / 4, none⟩) gkl).trans z1
  have sf3 := (hb3.frozen (p := ⟨gk, n / 4, none⟩) gkl).trans zf
  have hx3 := HX2.out.pages hb3 hr3
  have hx4 := hx3.setPl hk hj HTK.out hgk at1
  have hY4 : Below w.heap.size w (((w3.setCell ⟨b, 0, none⟩ (.int .i64 cap)).setCell ⟨b, 1, none⟩ (.slice A5 ps1.length c5)).setCell ⟨gk, n / 4, none⟩ (.int .i64 at1)) := (((hY2.trans (hb3.mono hY2.size)).setCell (show w.heap.size ≤ b by omega) _).setCell (show w.heap.size ≤ b by omega) _).setCell (show w.heap.size ≤ gk by omega) _
  have kB0 := (((HK0.out.keep hb3).far (show w.heap.size ≠ b by omega) (p := ⟨b, 0, none⟩) (.int .i64 cap)).far (show w.heap.size ≠ b by omega) (p := ⟨b, 1, none⟩) (.slice A5 ps1.length c5)).far (show w.heap.size ≠ gk by omega) (p := ⟨gk, n / 4, none⟩) (.int .i64 at1)
  have kB1 := (((HK1.out.keep hb3).far (show w.heap.size + 1 ≠ b by omega) (p := ⟨b, 0, none⟩) (.int .i64 cap)).far (show w.heap.size + 1 ≠ b by omega) (p := ⟨b, 1, none⟩) (.slice A5 ps1.length c5)).far (show w.heap.size + 1 ≠ gk by omega) (p := ⟨gk, n / 4, none⟩) (.int .i64 at1)
  have HX4 := Lib.hid hx4
  have HB0 := Lib.hid kB0
  have HB1 := Lib.hid kB1
  have HY4 := Lib.hid hY4
  have n1 : w.heap.size ≠ b := (by omega)
  have n2 : w.heap.size ≠ gk := (by omega)
  have p0 : w3.cell? ⟨w.heap.size, 0, none⟩ = some (.int .i64 cap) := (by rw [(HK0.out.keep hb3).cell]; rfl)
  have p1 : w3.cell? ⟨w.heap.size, 1, none⟩ = some (.slice A ps.length c) := (by rw [(HK0.out.keep hb3).cell]; rfl)
  have p2 : w3.cell? ⟨w.heap.size, 2, none⟩ = some (.slice A2 ts.length c2) := (by rw [(HK0.out.keep hb3).cell]; rfl)
  clear hx3 hx4 kB0 kB1 hY4 hr3 hb3 cA z1 zf r0 r1 r2 rf0 rf1 z0
  go_wp2_with fail
  obtain ⟨w4, hw4⟩ : ∃ x, (((w3.setCell ⟨b, 0, none⟩ (.int .i64 cap)).setCell ⟨b, 1, none⟩ (.slice A5 ps1.length c5)).setCell ⟨gk, n / 4, none⟩ (.int .i64 at1)) = x := ⟨_, rfl⟩
  rw [hw4] at HX4 HB0 HB1 HY4 ⊢
  clear hw4 s0 s1 s3 sf0 sf1 sf3 p0 p1 p2
  refine (cO _ (HV.out.keep HY4.out)).mono ?_
  rintro e w8 ⟨b8, rfl, hs8, hb8⟩
  have hY8 := (HY4.out).trans (hb8.mono (HY4.out).size)
  have k8 := (HB1.out).keep hb8
  obtain ⟨A8, c8, A9, c9, hb8', hlt8, u0, u1, u2, hq8⟩ := hs8.toW.read
  have q0 : w8.cell? ⟨w.heap.size + 1, 0, none⟩ = some (.int .i64 0) := (by rw [k8.cell]; rfl)
  have qf0 : w8.frozen? ⟨w.heap.size + 1, 0, none⟩ = false := k8.free 0
  have q1 : w8.cell? ⟨w.heap.size + 1, 1, none⟩ = some (.slice none 0 0) := (by rw [k8.cell]; rfl)
  have qf1 : w8.frozen? ⟨w.heap.size + 1, 1, none⟩ = false := k8.free 1
  have q2 : w8.cell? ⟨w.heap.size + 1, 2, none⟩ = some (.slice none 0 0) := (by rw [k8.cell]; rfl)
  have qf2 : w8.frozen? ⟨w.heap.size + 1, 2, none⟩ = false := k8.free 2
  have HQ8 := Lib.hid hq8
  have HK8 := Lib.hid k8
  clear hs8 hq8 k8 hb8
  have hz8 : w.heap.size ≤ w4.heap.size := (HY4.out).size
  go_wp2
  refine bodyPost_ret (v := .tuple #[.agg #[.int .i64 cap, .slice A8 ps.length c8, .slice A9 ts.length c9], .int .i64 er]) (by simp [results, Try.results15, go_sem, q0, q1, q2]) rfl ⟨_, rfl, ?_, ?_⟩
  · exact (((HQ8.out.boxed HK8.out 0 _).boxed (HK8.out.set_ 0 _) 1 _).boxed ((HK8.out.set_ 0 _).set_ 1 _) 2 _).mono hz8
  · exact ((hY8.setCell (by simp) _).setCell (by simp) _).setCell (by simp) _

set_option maxRecDepth 100000 in
set_option maxHeartbeats 4000000 in
theorem wr_mok (A A2 : Option Addr) (c c2 : Nat) (cap : Int) (ps : List Pg) (ts : List (List Int)) (k n : Nat) (u : Int) (w : World) (hv : HpV w (.agg #[.int .i64 cap, .slice A ps.length c, .slice A2 ts.length c2]) cap ps ts) (hn : ps.length ≤ 900) (hm : ts.length ≤ 1000) (hl : ∀ t ∈ ts, t.length ≤ 1000)
    (he : whyH cap ps ts (k : Int) (n : Int) = 0) (hk : k < ts.length) (h4 : ts[k].length = 4) (hn16 : n < 16) (at1 at2 : Int) (ps1 ps2 : List Pg) (hpl : ts[k][n / 4]'(by omega) = (-1 : Int)) (hal : allocX cap ps = (at1, 0, ps1)) (hwr : writeL cap ps1 at1 ((n : Int) % 4) u = (at2, 0, ps2)) (hn1 : ps1.length ≤ 1000) :
    Calls Try.prog 15 #[(.agg #[.int .i64 cap, .slice A ps.length c, .slice A2 ts.length c2]), .int .i64 (k : Int), .int .i64 (n : Int), .int .i64 u] w (HeapRes2 cap 0 ps2 (ts.set k (ts[k].set (n / 4) at2)) w) := by
  have cO := fun W h => town_any (.agg #[.int .i64 cap, .slice A ps.length c, .slice A2 ts.length c2]) cap ps ts W h (by omega) hm hl
  have cW := fun W h => twhy_any (.agg #[.int .i64 cap, .slice A ps.length c, .slice A2 ts.length c2]) cap ps ts (k : Int) (n : Int) W h (by omega)
  rw [he] at cW
  have HV := Lib.hid hv
  have hj : n / 4 < ts[k].length := by omega
  have hk0 : (0 : Int) ≤ (k : Int) := by omega
  have hk1 : (k : Int) < (ts.length : Int) := by omega
  have hd0 : (0 : Int) ≤ (n : Int) / 4 := by omega
  have hd1 : (n : Int) / 4 < 4 := by omega
  clear he hl hv
  go_enter Try.func15, Try.ntmps15
  have hA0 := ((Below.refl w.heap.size w).alloc (Nat.le_refl _) (.cells #[.int .i64 cap, .slice A ps.length c, .slice A2 ts.length c2] 28)).alloc (by simp) (.cells #[.int .i64 0, .slice none 0 0, .slice none 0 0] 28)
  go_wp2_with fail
  refine (cO _ (HV.out.keep hA0)).mono ?_
  rintro e w1 ⟨b, rfl, hs1, hb1⟩
  have hY1 := hA0.trans (hb1.mono (by simp; omega))
  have k0 : Blk w1 w.heap.size 28 #[.int .i64 cap, .slice A ps.length c, .slice A2 ts.length c2] := ((Blk.new_ w _ _ _ rfl).alloc _).keep hb1
  have k1 : Blk w1 (w.heap.size + 1) 28 #[.int .i64 0, .slice none 0 0, .slice none 0 0] := (Blk.new_ _ _ _ _ (by simp)).keep hb1
  have p0 : w1.cell? ⟨w.heap.size, 0, none⟩ = some (.int .i64 cap) := (by rw [k0.cell]; rfl)
  have p1 : w1.cell? ⟨w.heap.size, 1, none⟩ = some (.slice A ps.length c) := (by rw [k0.cell]; rfl)
  have p2 : w1.cell? ⟨w.heap.size, 2, none⟩ = some (.slice A2 ts.length c2) := (by rw [k0.cell]; rfl)
  go_wp2_with fail
  refine (cW _ (HV.out.keep hY1)).mono ?_
  rintro e w2 ⟨rfl, hb2⟩
  have hY2 := hY1.trans (hb2.mono hY1.size)
  replace k0 := k0.keep hb2
  replace k1 := k1.keep hb2
  obtain ⟨pv, tv, tvs, hx⟩ := hs1.keep hb2
  have hx : OwnHx w2 _ b cap pv tv tvs ps ts := hx
  obtain ⟨gT, cT, gk, ck, rfl, htk, hgT, hgk, hbgk, hblt, z0, z1, zf⟩ := hx.place hk hj
  obtain ⟨A3, c3, rfl, hst⟩ := hx.store
  obtain ⟨r0, r1, r2, rf0, rf1⟩ := hx.cells
  have hbase : w.heap.size + 2 ≤ b := by have := hx.1; simp at this; omega
  simp at hbgk
  have HX2 := Lib.hid hx
  have HK0 := Lib.hid k0
  have HK1 := Lib.hid k1
  have HTK := Lib.hid htk
  have HST := Lib.hid hst
  have gTl : gT < w2.heap.size := by omega
  have gkl : gk < w2.heap.size := by omega
  rw [h4] at z0
  rw [hpl] at z1
  clear k0 k1 hs1 hx hst htk p0 p1 p2 hb1 hb2 cW
  have cA := Alloc_own _ cap ps w2 HST.out (by omega)
  rw [hal] at cA
  go_wp2_with fail
  refine cA.mono ?_
  rintro e w3 ⟨v3, rfl, ⟨sv3, rfl, hr3⟩, hb3, -⟩
  obtain ⟨A5, c5, rfl, _, _⟩ := (Sl.of_own hr3).form
  have s0 := (hb3.cell (p := ⟨b, 0, none⟩) hblt).trans r0
  have s1 := (hb3.cell (p := ⟨b, 1, none⟩) hblt).trans r1
  have sf0 := (hb3.frozen (p := ⟨b, 0, none⟩) hblt).trans rf0
  have sf1 := (hb3.frozen (p := ⟨b, 1, none⟩) hblt).trans rf1
  have s3 := (hb3.cell (p := ⟨gk, n / 4, none⟩) gkl).trans z1
  have sf3 := (hb3.frozen (p := ⟨gk, n / 4, none⟩) gkl).trans zf
  have hx3 := HX2.out.pages hb3 hr3
  have hx4 := hx3.setPl hk hj HTK.out hgk at1
  have hY4 : Below w.heap.size w (((w3.setCell ⟨b, 0, none⟩ (.int .i64 cap)).setCell ⟨b, 1, none⟩ (.slice A5 ps1.length c5)).setCell ⟨gk, n / 4, none⟩ (.int .i64 at1)) := (((hY2.trans (hb3.mono hY2.size)).setCell (show w.heap.size ≤ b by omega) _).setCell (show w.heap.size ≤ b by omega) _).setCell (show w.heap.size ≤ gk by omega) _
  have kB0 := (((HK0.out.keep hb3).far (show w.heap.size ≠ b by omega) (p := ⟨b, 0, none⟩) (.int .i64 cap)).far (show w.heap.size ≠ b by omega) (p := ⟨b, 1, none⟩) (.slice A5 ps1.length c5)).far (show w.heap.size ≠ gk by omega) (p := ⟨gk, n / 4, none⟩) (.int .i64 at1)
  have kB1 := (((HK1.out.keep hb3).far (show w.heap.size + 1 ≠ b by omega) (p := ⟨b, 0, none⟩) (.int .i64 cap)).far (show w.heap.size + 1 ≠ b by omega) (p := ⟨b, 1, none⟩) (.slice A5 ps1.length c5)).far (show w.heap.size + 1 ≠ gk by omega) (p := ⟨gk, n / 4, none⟩) (.int .i64 at1)
  have HX4 := Lib.hid hx4
  have HB0 := Lib.hid kB0
  have HB1 := Lib.hid kB1
  have HY4 := Lib.hid hY4
  clear hx3 hx4 kB0 kB1 hY4 hr3 hb3 cA z1 zf r0 r1 r2 rf0 rf1 z0
  go_wp2_with fail
  obtain ⟨w4, hw4⟩ : ∃ x, (((w3.setCell ⟨b, 0, none⟩ (.int .i64 cap)).setCell ⟨b, 1, none⟩ (.slice A5 ps1.length c5)).setCell ⟨gk, n / 4, none⟩ (.int .i64 at1)) = x := ⟨_, rfl⟩
  rw [hw4] at HX4 HB0 HB1 HY4 ⊢
  clear hw4 s0 s1 s3 sf0 sf1 sf3
  obtain ⟨A3', c3', hA3, hst4⟩ := HX4.out.store
  have hc4 := HX4.out.cells
  obtain ⟨r0, r1, r2, rf0, rf1⟩ := hc4
  obtain ⟨_, _, _, _, e1, e2, _, _, _, gbl, _, z1, zf⟩ := HX4.out.place (k := k) (j := n / 4) (by simpa using hk) (by simpa using hj)
  injection e1 with e1 l1 l2
  clear l1 l2
  injection e1 with e1
  injection e1 with e1 l1 l2
  clear l1 l2
  subst e1
  rw [HTK.out] at e2
  injection e2 with e2
  injection e2 with e2 l1 l2
  clear l1 l2
  injection e2 with e2
  injection e2 with e2 l1 l2
  clear l1 l2
  subst e2
  simp only [List.getElem_set_self] at z1
  injection hA3 with a1 a2 a3
  subst a1 a3
  clear a2
  have gkl : gk < w4.heap.size := by omega
  have HSTR := Lib.hid hst4
  clear hst4
  have cWr := fun W h (hn : ps1.length ≤ 1000) => Write_own (.agg #[.int .i64 cap, .slice A5 ps1.length c5]) cap ps1 at1 ((n : Int) % 4) u W h hn
  rw [hwr] at cWr
  have BW := (Below.refl w4.heap.size w4).drew
  go_wp2_with fail
  refine wp_region_held_drew (S := fun _ => True) (by kernel_rfl) ?_ (fun hHelddr => ?_)
  · trivial
  refine wpAnyH_take (i := 0) (oi := { dst := some 61, op := Op.move (Operand.tmp 10), type := 61, pos := "table.go:107", after := _, guard := none }) (v := ?vdr0b1) rfl (by kernel_rfl) (by kernel_rfl) (by kernel_rfl) (fun _ _ _ h => h) (Or.inl ⟨by rfl, ?hydr0b1⟩) (by assumption) ?restdr0b1
  case hydr0b1 => (intro w hSw; (try dsimp only at hSw); go_simp <;> with_reducible rfl)
  try simp only [Act.put, List.setIfInBounds_toArray, List.set_cons_zero, List.set_cons_succ]
  refine wpAnyH_take (i := 1) (oi := { dst := some 62, op := Op.move (Operand.tmp 12), type := 65, pos := "table.go:107", after := _, guard := none }) (v := ?vdr1b2) rfl (by kernel_rfl) (by kernel_rfl) (by kernel_rfl) (fun _ _ _ h => h) (Or.inl ⟨by rfl, ?hydr1b2⟩) (by assumption) ?restdr1b2
  case hydr1b2 => (intro w hSw; (try dsimp only at hSw); go_simp <;> with_reducible rfl)
  try simp only [Act.put, List.setIfInBounds_toArray, List.set_cons_zero, List.set_cons_succ]
  refine wpAnyH_take (i := 2) (oi := { dst := some 63, op := Op.move (Operand.tmp 10), type := 61, pos := "table.go:107", after := _, guard := none }) (v := ?vdr2b3) rfl (by kernel_rfl) (by kernel_rfl) (by kernel_rfl) (fun _ _ _ h => h) (Or.inl ⟨by rfl, ?hydr2b3⟩) (by assumption) ?restdr2b3
  case hydr2b3 => (intro w hSw; (try dsimp only at hSw); go_simp <;> with_reducible rfl)
  try simp only [Act.put, List.setIfInBounds_toArray, List.set_cons_zero, List.set_cons_succ]
  refine wpAnyH_take (i := 3) (oi := { dst := some 64, op := Op.nilCheck (Operand.tmp 63), type := 0, pos := "table.go:107", after := _, guard := none }) (v := ?vdr3b4) rfl (by kernel_rfl) (by kernel_rfl) (by kernel_rfl) (fun _ _ _ h => h) (Or.inl ⟨by rfl, ?hydr3b4⟩) (by assumption) ?restdr3b4
  case hydr3b4 => (intro w hSw; (try dsimp only at hSw); go_simp <;> with_reducible rfl)
  try simp only [Act.put, List.setIfInBounds_toArray, List.set_cons_zero, List.set_cons_succ]
  refine wpAnyH_take (i := 4) (oi := { dst := some 65, op := Op.fieldAddr 64 (Operand.tmp 64) 0, type := 0, pos := "table.go:107", after := _, guard := none }) (v := ?vdr4b5) rfl (by kernel_rfl) (by kernel_rfl) (by kernel_rfl) (fun _ _ _ h => h) (Or.inl ⟨by rfl, ?hydr4b5⟩) (by assumption) ?restdr4b5
  case hydr4b5 => (intro w hSw; (try dsimp only at hSw); go_simp <;> with_reducible rfl)
  try simp only [Act.put, List.setIfInBounds_toArray, List.set_cons_zero, List.set_cons_succ]
  refine wpAnyH_take (i := 5) (oi := { dst := some 66, op := Op.fieldAddr 28 (Operand.tmp 65) 0, type := 0, pos := "table.go:107", after := _, guard := none }) (v := ?vdr5b6) rfl (by kernel_rfl) (by kernel_rfl) (by kernel_rfl) (fun _ _ _ h => h) (Or.inl ⟨by rfl, ?hydr5b6⟩) (by assumption) ?restdr5b6
  case hydr5b6 => (intro w hSw; (try dsimp only at hSw); go_simp <;> with_reducible rfl)
  try simp only [Act.put, List.setIfInBounds_toArray, List.set_cons_zero, List.set_cons_succ]
  refine wpAnyH_take (i := 7) (oi := { dst := some 68, op := Op.move (Operand.tmp 12), type := 65, pos := "table.go:107", after := _, guard := none }) (v := ?vdr7b7) rfl (by kernel_rfl) (by kernel_rfl) (by kernel_rfl) (fun _ _ _ h => h) (Or.inl ⟨by rfl, ?hydr7b7⟩) (by assumption) ?restdr7b7
  case hydr7b7 => (intro w hSw; (try dsimp only at hSw); go_simp <;> with_reducible rfl)
  try simp only [Act.put, List.setIfInBounds_toArray, List.set_cons_zero, List.set_cons_succ]
  refine wpAnyH_take (i := 8) (oi := { dst := some 69, op := Op.nilCheck (Operand.tmp 68), type := 0, pos := "table.go:107", after := _, guard := none }) (v := ?vdr8b8) rfl (by kernel_rfl) (by kernel_rfl) (by kernel_rfl) (fun _ _ _ h => h) (Or.inl ⟨by rfl, ?hydr8b8⟩) (by assumption) ?restdr8b8
  case hydr8b8 => (intro w hSw; (try dsimp only at hSw); go_simp <;> with_reducible rfl)
  try simp only [Act.put, List.setIfInBounds_toArray, List.set_cons_zero, List.set_cons_succ]
  refine wpAnyH_take (i := 10) (oi := { dst := some 71, op := Op.move (Operand.tmp 2), type := 3, pos := "table.go:107", after := _, guard := none }) (v := ?vdr10b9) rfl (by kernel_rfl) (by kernel_rfl) (by kernel_rfl) (fun _ _ _ h => h) (Or.inl ⟨by rfl, ?hydr10b9⟩) (by assumption) ?restdr10b9
  case hydr10b9 => (intro w hSw; (try dsimp only at hSw); go_simp <;> with_reducible rfl)
  try simp only [Act.put, List.setIfInBounds_toArray, List.set_cons_zero, List.set_cons_succ]
  refine wpAnyH_take (i := 11) (oi := { dst := some 72, op := Op.binOp BinOp.rem 3 (Operand.tmp 71) (Operand.const (Value.int IntKind.i64 4)) 3, type := 3, pos := "table.go:107", after := _, guard := none }) (v := ?vdr11b10) rfl (by kernel_rfl) (by kernel_rfl) (by kernel_rfl) (fun _ _ _ h => h) (Or.inl ⟨by rfl, ?hydr11b10⟩) (by assumption) ?restdr11b10
  case hydr11b10 => (intro w hSw; (try dsimp only at hSw); go_simp <;> with_reducible rfl)
  try simp only [Act.put, List.setIfInBounds_toArray, List.set_cons_zero, List.set_cons_succ]
  refine wpAnyH_take (i := 12) (oi := { dst := some 73, op := Op.move (Operand.tmp 3), type := 3, pos := "table.go:107", after := _, guard := none }) (v := ?vdr12b11) rfl (by kernel_rfl) (by kernel_rfl) (by kernel_rfl) (fun _ _ _ h => h) (Or.inl ⟨by rfl, ?hydr12b11⟩) (by assumption) ?restdr12b11
  case hydr12b11 => (intro w hSw; (try dsimp only at hSw); go_simp <;> with_reducible rfl)
  try simp only [Act.put, List.setIfInBounds_toArray, List.set_cons_zero, List.set_cons_succ]
  refine wpAnyH_ready (rs := [6, 9]) (by kernel_rfl) (by simp) ?_
  refine AllReadyH.cons (o := { dst := some 67, op := Op.load 25 (Operand.tmp 66), type := 25, pos := "table.go:107", after := _, guard := none }) rfl (fun K hK => ?_) ?_
  · go_simp
    skip
    refine hK.out _ _ ?_ (fun hHelddr6b12 => ?_)
    · trivial
    clear hK K hHelddr
    try simp only [Act.put, List.setIfInBounds_toArray, List.set_cons_zero, List.set_cons_succ]
    refine wpAnyH_ready (rs := [9]) (by kernel_rfl) (by simp) ?_
    refine AllReadyH.cons (o := { dst := some 70, op := Op.load 3 (Operand.tmp 69), type := 3, pos := "table.go:107", after := _, guard := none }) rfl (fun K hK => ?_) AllReadyH.nil
    go_simp
    skip
    refine hK.out _ _ ?_ (fun hHelddr9b13 => ?_)
    · trivial
    clear hK K hHelddr6b12
    try simp only [Act.put, List.setIfInBounds_toArray, List.set_cons_zero, List.set_cons_succ]
    refine wpAnyH_ready (rs := [13]) (by kernel_rfl) (by simp) ?_
    refine AllReadyH.cons (o := { dst := some 74, op := Op.call { callee := Callee.value (Operand.func 35), args := #[Operand.tmp 67, Operand.tmp 70, Operand.tmp 72, Operand.tmp 73], argTypes := #[25, 3, 3, 3] }, type := 66, pos := "table.go:107", after := _, guard := none }) rfl (fun K hK => ?_) AllReadyH.nil
    go_simp
    refine (cWr _ (HSTR.out.below BW) (by omega)).mono ?_
    rintro e w5 ⟨v5, rfl, ⟨sv5, rfl, hr5⟩, hb5⟩
    have hX := BW.trans (hb5.mono BW.size)
    obtain ⟨A7, c7, rfl, _, _⟩ := (Sl.of_own hr5).form
    have y0 := (hX.cell (p := ⟨b, 0, none⟩) gbl).trans r0
    have y1 := (hX.cell (p := ⟨b, 1, none⟩) gbl).trans r1
    have yf0 := (hX.frozen (p := ⟨b, 0, none⟩) gbl).trans rf0
    have yf1 := (hX.frozen (p := ⟨b, 1, none⟩) gbl).trans rf1
    have y3 := (hX.cell (p := ⟨gk, n / 4, none⟩) gkl).trans z1
    have yf3 := (hX.frozen (p := ⟨gk, n / 4, none⟩) gkl).trans zf
    have HX5 := Lib.hid hX
    have HR5 := Lib.hid hr5
    clear hX hr5 hb5
    try go_wp2_with fail
    refine hK.out _ _ ?_ (fun hHelddr13b14 => ?_)
    · trivial
    clear hK K hHelddr9b13
    try simp only [Act.put, List.setIfInBounds_toArray, List.set_cons_zero, List.set_cons_succ]
    refine wpAnyH_take (i := 14) (oi := { dst := some 60, op := Op.move (Operand.tmp 74), type := 66, pos := "table.go:107", after := _, guard := none }) (v := ?vdr14b15) rfl (by kernel_rfl) (by kernel_rfl) (by kernel_rfl) (fun _ _ _ h => h) (Or.inl ⟨by rfl, ?hydr14b15⟩) (by assumption) ?restdr14b15
    case hydr14b15 => (intro w hSw; (try dsimp only at hSw); go_simp <;> with_reducible rfl)
    try simp only [Act.put, List.setIfInBounds_toArray, List.set_cons_zero, List.set_cons_succ]
    refine wpAnyH_take (i := 15) (oi := { dst := some 75, op := Op.extract (Operand.tmp 60) 0, type := 25, pos := "table.go:107", after := _, guard := none }) (v := ?vdr15b16) rfl (by kernel_rfl) (by kernel_rfl) (by kernel_rfl) (fun _ _ _ h => h) (Or.inl ⟨by rfl, ?hydr15b16⟩) (by assumption) ?restdr15b16
    case hydr15b16 => (intro w hSw; (try dsimp only at hSw); go_simp <;> with_reducible rfl)
    try simp only [Act.put, List.setIfInBounds_toArray, List.set_cons_zero, List.set_cons_succ]
    refine wpAnyH_take (i := 16) (oi := { dst := some 76, op := Op.extract (Operand.tmp 60) 1, type := 3, pos := "table.go:107", after := _, guard := none }) (v := ?vdr16b17) rfl (by kernel_rfl) (by kernel_rfl) (by kernel_rfl) (fun _ _ _ h => h) (Or.inl ⟨by rfl, ?hydr16b17⟩) (by assumption) ?restdr16b17
    case hydr16b17 => (intro w hSw; (try dsimp only at hSw); go_simp <;> with_reducible rfl)
    try simp only [Act.put, List.setIfInBounds_toArray, List.set_cons_zero, List.set_cons_succ]
    refine wpAnyH_take (i := 17) (oi := { dst := some 77, op := Op.extract (Operand.tmp 60) 2, type := 31, pos := "table.go:107", after := _, guard := none }) (v := ?vdr17b18) rfl (by kernel_rfl) (by kernel_rfl) (by kernel_rfl) (fun _ _ _ h => h) (Or.inl ⟨by rfl, ?hydr17b18⟩) (by assumption) ?restdr17b18
    case hydr17b18 => (intro w hSw; (try dsimp only at hSw); go_simp <;> with_reducible rfl)
    try simp only [Act.put, List.setIfInBounds_toArray, List.set_cons_zero, List.set_cons_succ]
    refine wpAnyH_take (i := 18) (oi := { dst := some 78, op := Op.nilCheck (Operand.tmp 61), type := 0, pos := "table.go:107", after := _, guard := none }) (v := ?vdr18b19) rfl (by kernel_rfl) (by kernel_rfl) (by kernel_rfl) (fun _ _ _ h => h) (Or.inl ⟨by rfl, ?hydr18b19⟩) (by assumption) ?restdr18b19
    case hydr18b19 => (intro w hSw; (try dsimp only at hSw); go_simp <;> with_reducible rfl)
    try simp only [Act.put, List.setIfInBounds_toArray, List.set_cons_zero, List.set_cons_succ]
    refine wpAnyH_take (i := 19) (oi := { dst := some 79, op := Op.fieldAddr 64 (Operand.tmp 78) 0, type := 0, pos := "table.go:107", after := _, guard := none }) (v := ?vdr19b20) rfl (by kernel_rfl) (by kernel_rfl) (by kernel_rfl) (fun _ _ _ h => h) (Or.inl ⟨by rfl, ?hydr19b20⟩) (by assumption) ?restdr19b20
    case hydr19b20 => (intro w hSw; (try dsimp only at hSw); go_simp <;> with_reducible rfl)
    try simp only [Act.put, List.setIfInBounds_toArray, List.set_cons_zero, List.set_cons_succ]
    refine wpAnyH_take (i := 20) (oi := { dst := some 80, op := Op.fieldAddr 28 (Operand.tmp 79) 0, type := 0, pos := "table.go:107", after := _, guard := none }) (v := ?vdr20b21) rfl (by kernel_rfl) (by kernel_rfl) (by kernel_rfl) (fun _ _ _ h => h) (Or.inl ⟨by rfl, ?hydr20b21⟩) (by assumption) ?restdr20b21
    case hydr20b21 => (intro w hSw; (try dsimp only at hSw); go_simp <;> with_reducible rfl)
    try simp only [Act.put, List.setIfInBounds_toArray, List.set_cons_zero, List.set_cons_succ]
    refine wpAnyH_ready (rs := [21]) (by kernel_rfl) (by simp) ?_
    refine AllReadyH.cons (o := { dst := none, op := Op.store 25 (Operand.tmp 80) (Operand.tmp 75), type := 0, pos := "table.go:107", after := _, guard := none }) rfl (fun K hK => ?_) AllReadyH.nil
    go_simp
    skip
    refine hK.out _ _ ?_ (fun hHelddr21b22 => ?_)
    · trivial
    clear hK K hHelddr13b14
    try simp only [Act.put, List.setIfInBounds_toArray, List.set_cons_zero, List.set_cons_succ]
    refine wpAnyH_take (i := 22) (oi := { dst := some 81, op := Op.nilCheck (Operand.tmp 62), type := 0, pos := "table.go:107", after := _, guard := none }) (v := ?vdr22b23) rfl (by kernel_rfl) (by kernel_rfl) (by kernel_rfl) (fun _ _ _ h => h) (Or.inl ⟨by rfl, ?hydr22b23⟩) (by assumption) ?restdr22b23
    case hydr22b23 => (intro w hSw; (try dsimp only at hSw); go_simp <;> with_reducible rfl)
    try simp only [Act.put, List.setIfInBounds_toArray, List.set_cons_zero, List.set_cons_succ]
    refine wpAnyH_ready (rs := [23]) (by kernel_rfl) (by simp) ?_
    refine AllReadyH.cons (o := { dst := none, op := Op.store 3 (Operand.tmp 81) (Operand.tmp 76), type := 0, pos := "table.go:107", after := _, guard := none }) rfl (fun K hK => ?_) AllReadyH.nil
    go_simp
    skip
    refine hK.out _ _ ?_ (fun hHelddr23b24 => ?_)
    · trivial
    clear hK K hHelddr21b22
    try simp only [Act.put, List.setIfInBounds_toArray, List.set_cons_zero, List.set_cons_succ]
    refine wpAnyH_ready (rs := [24]) (by kernel_rfl) (by simp) ?_
    refine AllReadyH.cons (o := { dst := some 13, op := Op.assign (Operand.tmp 77), type := 31, pos := "table.go:107", after := _, guard := none }) rfl (fun K hK => ?_) AllReadyH.nil
    go_simp
    skip
    refine hK.out _ _ ?_ (fun hHelddr24b25 => ?_)
    · trivial
    clear hK K hHelddr23b24
    try simp only [Act.put, List.setIfInBounds_toArray, List.set_cons_zero, List.set_cons_succ]
    refine wpAnyH_done (by kernel_rfl) ?_ _
    have hx6 := (HX4.out.pages HX5.out HR5.out).setPl (j := n / 4) (k := k) (by simpa using hk) (by simpa using hj) (ck := ck) (by simpa using HTK.out) hgk at2
    try simp only [List.getElem_set_self, List.set_set] at hx6
    have hY6 := (((HY4.out.trans (HX5.out.mono (HY4.out).size)).setCell (show w.heap.size ≤ b by omega) (p := ⟨b, 0, none⟩) (.int .i64 cap)).setCell (show w.heap.size ≤ b by omega) (p := ⟨b, 1, none⟩) (.slice A7 ps2.length c7)).setCell (show w.heap.size ≤ gk by omega) (p := ⟨gk, n / 4, none⟩) (.int .i64 at2)
    have k06 := ((((HB0.out).keep HX5.out).far (show w.heap.size ≠ b by omega) (p := ⟨b, 0, none⟩) (.int .i64 cap)).far (show w.heap.size ≠ b by omega) (p := ⟨b, 1, none⟩) (.slice A7 ps2.length c7)).far (show w.heap.size ≠ gk by omega) (p := ⟨gk, n / 4, none⟩) (.int .i64 at2)
    have k16 := ((((HB1.out).keep HX5.out).far (show w.heap.size + 1 ≠ b by omega) (p := ⟨b, 0, none⟩) (.int .i64 cap)).far (show w.heap.size + 1 ≠ b by omega) (p := ⟨b, 1, none⟩) (.slice A7 ps2.length c7)).far (show w.heap.size + 1 ≠ gk by omega) (p := ⟨gk, n / 4, none⟩) (.int .i64 at2)
    obtain ⟨w6, hw6⟩ : ∃ x, ((w5.setCell ⟨b, 0, none⟩ (.int .i64 cap)).setCell ⟨b, 1, none⟩ (.slice A7 ps2.length c7)).setCell ⟨gk, n / 4, none⟩ (.int .i64 at2) = x := ⟨_, rfl⟩
    rw [hw6] at hx6 hY6 k06 k16 ⊢
    clear hw6 y0 y1 yf0 yf1 y3 yf3 HX5 HR5
    obtain ⟨q3, q4, q5, -, -⟩ := hx6.cells
    have q0 : w6.cell? ⟨w.heap.size + 1, 0, none⟩ = some (.int .i64 0) := (by rw [k16.cell]; rfl)
    have qf0 : w6.frozen? ⟨w.heap.size + 1, 0, none⟩ = false := k16.free 0
    have q1 : w6.cell? ⟨w.heap.size + 1, 1, none⟩ = some (.slice none 0 0) := (by rw [k16.cell]; rfl)
    have qf1 : w6.frozen? ⟨w.heap.size + 1, 1, none⟩ = false := k16.free 1
    have q2 : w6.cell? ⟨w.heap.size + 1, 2, none⟩ = some (.slice none 0 0) := (by rw [k16.cell]; rfl)
    have qf2 : w6.frozen? ⟨w.heap.size + 1, 2, none⟩ = false := k16.free 2
    have hq6 : HpQ w6 _ (.agg #[.int .i64 cap, .slice A7 ps2.length c7, .slice (some ⟨gT, 0, none⟩) ts.length cT]) cap ps2 _ := ⟨_, _, rfl, hx6.2.2.1, hx6.2.2.2.toQ⟩
    have HQ6 := Lib.hid hq6
    have HB16 := Lib.hid k16
    have HY6 := Lib.hid hY6
    clear hq6 k16 hY6 hx6 k06 cO
    go_wp2
    refine bodyPost_ret (v := .tuple #[.agg #[.int .i64 cap, .slice A7 ps2.length c7, .slice (some ⟨gT, 0, none⟩) ts.length cT], .int .i64 0]) (by simp [results, Try.results15, go_sem, q0, q1, q2]) rfl ⟨_, rfl, ?_, ?_⟩
    · exact (((HQ6.out.boxed HB16.out 0 _).boxed (HB16.out.set_ 0 _) 1 _).boxed ((HB16.out.set_ 0 _).set_ 1 _) 2 _).mono (by simp; omega)
    · exact ((HY6.out.setCell (by simp) _).setCell (by simp) _).setCell (by simp) _
  refine AllReadyH.cons (o := { dst := some 70, op := Op.load 3 (Operand.tmp 69), type := 3, pos := "table.go:107", after := _, guard := none }) rfl (fun K hK => ?_) ?_
  · go_simp
    skip
    refine hK.out _ _ ?_ (fun hHelddr9b26 => ?_)
    · trivial
    clear hK K hHelddr
    try simp only [Act.put, List.setIfInBounds_toArray, List.set_cons_zero, List.set_cons_succ]
    refine wpAnyH_ready (rs := [6]) (by kernel_rfl) (by simp) ?_
    refine AllReadyH.cons (o := { dst := some 67, op := Op.load 25 (Operand.tmp 66), type := 25, pos := "table.go:107", after := _, guard := none }) rfl (fun K hK => ?_) AllReadyH.nil
    go_simp
    skip
    refine hK.out _ _ ?_ (fun hHelddr6b27 => ?_)
    · trivial
    clear hK K hHelddr9b26
    try simp only [Act.put, List.setIfInBounds_toArray, List.set_cons_zero, List.set_cons_succ]
    refine wpAnyH_ready (rs := [13]) (by kernel_rfl) (by simp) ?_
    refine AllReadyH.cons (o := { dst := some 74, op := Op.call { callee := Callee.value (Operand.func 35), args := #[Operand.tmp 67, Operand.tmp 70, Operand.tmp 72, Operand.tmp 73], argTypes := #[25, 3, 3, 3] }, type := 66, pos := "table.go:107", after := _, guard := none }) rfl (fun K hK => ?_) AllReadyH.nil
    go_simp
    refine (cWr _ (HSTR.out.below BW) (by omega)).mono ?_
    rintro e w5 ⟨v5, rfl, ⟨sv5, rfl, hr5⟩, hb5⟩
    have hX := BW.trans (hb5.mono BW.size)
    obtain ⟨A7, c7, rfl, _, _⟩ := (Sl.of_own hr5).form
    have y0 := (hX.cell (p := ⟨b, 0, none⟩) gbl).trans r0
    have y1 := (hX.cell (p := ⟨b, 1, none⟩) gbl).trans r1
    have yf0 := (hX.frozen (p := ⟨b, 0, none⟩) gbl).trans rf0
    have yf1 := (hX.frozen (p := ⟨b, 1, none⟩) gbl).trans rf1
    have y3 := (hX.cell (p := ⟨gk, n / 4, none⟩) gkl).trans z1
    have yf3 := (hX.frozen (p := ⟨gk, n / 4, none⟩) gkl).trans zf
    have HX5 := Lib.hid hX
    have HR5 := Lib.hid hr5
    clear hX hr5 hb5
    try go_wp2_with fail
    refine hK.out _ _ ?_ (fun hHelddr13b28 => ?_)
    · trivial
    clear hK K hHelddr6b27
    try simp only [Act.put, List.setIfInBounds_toArray, List.set_cons_zero, List.set_cons_succ]
    refine wpAnyH_take (i := 14) (oi := { dst := some 60, op := Op.move (Operand.tmp 74), type := 66, pos := "table.go:107", after := _, guard := none }) (v := ?vdr14b29) rfl (by kernel_rfl) (by kernel_rfl) (by kernel_rfl) (fun _ _ _ h => h) (Or.inl ⟨by rfl, ?hydr14b29⟩) (by assumption) ?restdr14b29
    case hydr14b29 => (intro w hSw; (try dsimp only at hSw); go_simp <;> with_reducible rfl)
    try simp only [Act.put, List.setIfInBounds_toArray, List.set_cons_zero, List.set_cons_succ]
    refine wpAnyH_take (i := 15) (oi := { dst := some 75, op := Op.extract (Operand.tmp 60) 0, type := 25, pos := "table.go:107", after := _, guard := none }) (v := ?vdr15b30) rfl (by kernel_rfl) (by kernel_rfl) (by kernel_rfl) (fun _ _ _ h => h) (Or.inl ⟨by rfl, ?hydr15b30⟩) (by assumption) ?restdr15b30
    case hydr15b30 => (intro w hSw; (try dsimp only at hSw); go_simp <;> with_reducible rfl)
    try simp only [Act.put, List.setIfInBounds_toArray, List.set_cons_zero, List.set_cons_succ]
    refine wpAnyH_take (i := 16) (oi := { dst := some 76, op := Op.extract (Operand.tmp 60) 1, type := 3, pos := "table.go:107", after := _, guard := none }) (v := ?vdr16b31) rfl (by kernel_rfl) (by kernel_rfl) (by kernel_rfl) (fun _ _ _ h => h) (Or.inl ⟨by rfl, ?hydr16b31⟩) (by assumption) ?restdr16b31
    case hydr16b31 => (intro w hSw; (try dsimp only at hSw); go_simp <;> with_reducible rfl)
    try simp only [Act.put, List.setIfInBounds_toArray, List.set_cons_zero, List.set_cons_succ]
    refine wpAnyH_take (i := 17) (oi := { dst := some 77, op := Op.extract (Operand.tmp 60) 2, type := 31, pos := "table.go:107", after := _, guard := none }) (v := ?vdr17b32) rfl (by kernel_rfl) (by kernel_rfl) (by kernel_rfl) (fun _ _ _ h => h) (Or.inl ⟨by rfl, ?hydr17b32⟩) (by assumption) ?restdr17b32
    case hydr17b32 => (intro w hSw; (try dsimp only at hSw); go_simp <;> with_reducible rfl)
    try simp only [Act.put, List.setIfInBounds_toArray, List.set_cons_zero, List.set_cons_succ]
    refine wpAnyH_take (i := 18) (oi := { dst := some 78, op := Op.nilCheck (Operand.tmp 61), type := 0, pos := "table.go:107", after := _, guard := none }) (v := ?vdr18b33) rfl (by kernel_rfl) (by kernel_rfl) (by kernel_rfl) (fun _ _ _ h => h) (Or.inl ⟨by rfl, ?hydr18b33⟩) (by assumption) ?restdr18b33
    case hydr18b33 => (intro w hSw; (try dsimp only at hSw); go_simp <;> with_reducible rfl)
    try simp only [Act.put, List.setIfInBounds_toArray, List.set_cons_zero, List.set_cons_succ]
    refine wpAnyH_take (i := 19) (oi := { dst := some 79, op := Op.fieldAddr 64 (Operand.tmp 78) 0, type := 0, pos := "table.go:107", after := _, guard := none }) (v := ?vdr19b34) rfl (by kernel_rfl) (by kernel_rfl) (by kernel_rfl) (fun _ _ _ h => h) (Or.inl ⟨by rfl, ?hydr19b34⟩) (by assumption) ?restdr19b34
    case hydr19b34 => (intro w hSw; (try dsimp only at hSw); go_simp <;> with_reducible rfl)
    try simp only [Act.put, List.setIfInBounds_toArray, List.set_cons_zero, List.set_cons_succ]
    refine wpAnyH_take (i := 20) (oi := { dst := some 80, op := Op.fieldAddr 28 (Operand.tmp 79) 0, type := 0, pos := "table.go:107", after := _, guard := none }) (v := ?vdr20b35) rfl (by kernel_rfl) (by kernel_rfl) (by kernel_rfl) (fun _ _ _ h => h) (Or.inl ⟨by rfl, ?hydr20b35⟩) (by assumption) ?restdr20b35
    case hydr20b35 => (intro w hSw; (try dsimp only at hSw); go_simp <;> with_reducible rfl)
    try simp only [Act.put, List.setIfInBounds_toArray, List.set_cons_zero, List.set_cons_succ]
    refine wpAnyH_ready (rs := [21]) (by kernel_rfl) (by simp) ?_
    refine AllReadyH.cons (o := { dst := none, op := Op.store 25 (Operand.tmp 80) (Operand.tmp 75), type := 0, pos := "table.go:107", after := _, guard := none }) rfl (fun K hK => ?_) AllReadyH.nil
    go_simp
    skip
    refine hK.out _ _ ?_ (fun hHelddr21b36 => ?_)
    · trivial
    clear hK K hHelddr13b28
    try simp only [Act.put, List.setIfInBounds_toArray, List.set_cons_zero, List.set_cons_succ]
    refine wpAnyH_take (i := 22) (oi := { dst := some 81, op := Op.nilCheck (Operand.tmp 62), type := 0, pos := "table.go:107", after := _, guard := none }) (v := ?vdr22b37) rfl (by kernel_rfl) (by kernel_rfl) (by kernel_rfl) (fun _ _ _ h => h) (Or.inl ⟨by rfl, ?hydr22b37⟩) (by assumption) ?restdr22b37
    case hydr22b37 => (intro w hSw; (try dsimp only at hSw); go_simp <;> with_reducible rfl)
    try simp only [Act.put, List.setIfInBounds_toArray, List.set_cons_zero, List.set_cons_succ]
    refine wpAnyH_ready (rs := [23]) (by kernel_rfl) (by simp) ?_
    refine AllReadyH.cons (o := { dst := none, op := Op.store 3 (Operand.tmp 81) (Operand.tmp 76), type := 0, pos := "table.go:107", after := _, guard := none }) rfl (fun K hK => ?_) AllReadyH.nil
    go_simp
    skip
    refine hK.out _ _ ?_ (fun hHelddr23b38 => ?_)
    · trivial
    clear hK K hHelddr21b36
    try simp only [Act.put, List.setIfInBounds_toArray, List.set_cons_zero, List.set_cons_succ]
    refine wpAnyH_ready (rs := [24]) (by kernel_rfl) (by simp) ?_
    refine AllReadyH.cons (o := { dst := some 13, op := Op.assign (Operand.tmp 77), type := 31, pos := "table.go:107", after := _, guard := none }) rfl (fun K hK => ?_) AllReadyH.nil
    go_simp
    skip
    refine hK.out _ _ ?_ (fun hHelddr24b39 => ?_)
    · trivial
    clear hK K hHelddr23b38
    try simp only [Act.put, List.setIfInBounds_toArray, List.set_cons_zero, List.set_cons_succ]
    refine wpAnyH_done (by kernel_rfl) ?_ _
    have hx6 := (HX4.out.pages HX5.out HR5.out).setPl (j := n / 4) (k := k) (by simpa using hk) (by simpa using hj) (ck := ck) (by simpa using HTK.out) hgk at2
    try simp only [List.getElem_set_self, List.set_set] at hx6
    have hY6 := (((HY4.out.trans (HX5.out.mono (HY4.out).size)).setCell (show w.heap.size ≤ b by omega) (p := ⟨b, 0, none⟩) (.int .i64 cap)).setCell (show w.heap.size ≤ b by omega) (p := ⟨b, 1, none⟩) (.slice A7 ps2.length c7)).setCell (show w.heap.size ≤ gk by omega) (p := ⟨gk, n / 4, none⟩) (.int .i64 at2)
    have k06 := ((((HB0.out).keep HX5.out).far (show w.heap.size ≠ b by omega) (p := ⟨b, 0, none⟩) (.int .i64 cap)).far (show w.heap.size ≠ b by omega) (p := ⟨b, 1, none⟩) (.slice A7 ps2.length c7)).far (show w.heap.size ≠ gk by omega) (p := ⟨gk, n / 4, none⟩) (.int .i64 at2)
    have k16 := ((((HB1.out).keep HX5.out).far (show w.heap.size + 1 ≠ b by omega) (p := ⟨b, 0, none⟩) (.int .i64 cap)).far (show w.heap.size + 1 ≠ b by omega) (p := ⟨b, 1, none⟩) (.slice A7 ps2.length c7)).far (show w.heap.size + 1 ≠ gk by omega) (p := ⟨gk, n / 4, none⟩) (.int .i64 at2)
    obtain ⟨w6, hw6⟩ : ∃ x, ((w5.setCell ⟨b, 0, none⟩ (.int .i64 cap)).setCell ⟨b, 1, none⟩ (.slice A7 ps2.length c7)).setCell ⟨gk, n / 4, none⟩ (.int .i64 at2) = x := ⟨_, rfl⟩
    rw [hw6] at hx6 hY6 k06 k16 ⊢
    clear hw6 y0 y1 yf0 yf1 y3 yf3 HX5 HR5
    obtain ⟨q3, q4, q5, -, -⟩ := hx6.cells
    have q0 : w6.cell? ⟨w.heap.size + 1, 0, none⟩ = some (.int .i64 0) := (by rw [k16.cell]; rfl)
    have qf0 : w6.frozen? ⟨w.heap.size + 1, 0, none⟩ = false := k16.free 0
    have q1 : w6.cell? ⟨w.heap.size + 1, 1, none⟩ = some (.slice none 0 0) := (by rw [k16.cell]; rfl)
    have qf1 : w6.frozen? ⟨w.heap.size + 1, 1, none⟩ = false := k16.free 1
    have q2 : w6.cell? ⟨w.heap.size + 1, 2, none⟩ = some (.slice none 0 0) := (by rw [k16.cell]; rfl)
    have qf2 : w6.frozen? ⟨w.heap.size + 1, 2, none⟩ = false := k16.free 2
    have hq6 : HpQ w6 _ (.agg #[.int .i64 cap, .slice A7 ps2.length c7, .slice (some ⟨gT, 0, none⟩) ts.length cT]) cap ps2 _ := ⟨_, _, rfl, hx6.2.2.1, hx6.2.2.2.toQ⟩
    have HQ6 := Lib.hid hq6
    have HB16 := Lib.hid k16
    have HY6 := Lib.hid hY6
    clear hq6 k16 hY6 hx6 k06 cO
    go_wp2
    refine bodyPost_ret (v := .tuple #[.agg #[.int .i64 cap, .slice A7 ps2.length c7, .slice (some ⟨gT, 0, none⟩) ts.length cT], .int .i64 0]) (by simp [results, Try.results15, go_sem, q0, q1, q2]) rfl ⟨_, rfl, ?_, ?_⟩
    · exact (((HQ6.out.boxed HB16.out 0 _).boxed (HB16.out.set_ 0 _) 1 _).boxed ((HB16.out.set_ 0 _).set_ 1 _) 2 _).mono (by simp; omega)
    · exact ((HY6.out.setCell (by simp) _).setCell (by simp) _).setCell (by simp) _
  exact AllReadyH.nil

set_option maxRecDepth 100000 in
set_option maxHeartbeats 4000000 in
theorem wr_merr (A A2 : Option Addr) (c c2 : Nat) (cap : Int) (ps : List Pg) (ts : List (List Int)) (k n : Nat) (u : Int) (w : World) (hv : HpV w (.agg #[.int .i64 cap, .slice A ps.length c, .slice A2 ts.length c2]) cap ps ts) (hn : ps.length ≤ 900) (hm : ts.length ≤ 1000) (hl : ∀ t ∈ ts, t.length ≤ 1000)
    (he : whyH cap ps ts (k : Int) (n : Int) = 0) (hk : k < ts.length) (h4 : ts[k].length = 4) (hn16 : n < 16) (at1 at2 er : Int) (ps1 ps2 : List Pg) (her : (er != 0) = true) (hpl : ts[k][n / 4]'(by omega) = (-1 : Int)) (hal : allocX cap ps = (at1, 0, ps1)) (hwr : writeL cap ps1 at1 ((n : Int) % 4) u = (at2, er, ps2)) (hn1 : ps1.length ≤ 1000) :
    Calls Try.prog 15 #[(.agg #[.int .i64 cap, .slice A ps.length c, .slice A2 ts.length c2]), .int .i64 (k : Int), .int .i64 (n : Int), .int .i64 u] w (HeapRes2 cap er ps ts w) := by
  have cO := fun W h => town_any (.agg #[.int .i64 cap, .slice A ps.length c, .slice A2 ts.length c2]) cap ps ts W h (by omega) hm hl
  have cW := fun W h => twhy_any (.agg #[.int .i64 cap, .slice A ps.length c, .slice A2 ts.length c2]) cap ps ts (k : Int) (n : Int) W h (by omega)
  rw [he] at cW
  have HV := Lib.hid hv
  have hj : n / 4 < ts[k].length := by omega
  have hk0 : (0 : Int) ≤ (k : Int) := by omega
  have hk1 : (k : Int) < (ts.length : Int) := by omega
  have hd0 : (0 : Int) ≤ (n : Int) / 4 := by omega
  have hd1 : (n : Int) / 4 < 4 := by omega
  clear he hl hv
  go_enter Try.func15, Try.ntmps15
  have hA0 := ((Below.refl w.heap.size w).alloc (Nat.le_refl _) (.cells #[.int .i64 cap, .slice A ps.length c, .slice A2 ts.length c2] 28)).alloc (by simp) (.cells #[.int .i64 0, .slice none 0 0, .slice none 0 0] 28)
  go_wp2_with fail
  refine (cO _ (HV.out.keep hA0)).mono ?_
  rintro e w1 ⟨b, rfl, hs1, hb1⟩
  have hY1 := hA0.trans (hb1.mono (by simp; omega))
  have k0 : Blk w1 w.heap.size 28 #[.int .i64 cap, .slice A ps.length c, .slice A2 ts.length c2] := ((Blk.new_ w _ _ _ rfl).alloc _).keep hb1
  have k1 : Blk w1 (w.heap.size + 1) 28 #[.int .i64 0, .slice none 0 0, .slice none 0 0] := (Blk.new_ _ _ _ _ (by simp)).keep hb1
  have p0 : w1.cell? ⟨w.heap.size, 0, none⟩ = some (.int .i64 cap) := (by rw [k0.cell]; rfl)
  have p1 : w1.cell? ⟨w.heap.size, 1, none⟩ = some (.slice A ps.length c) := (by rw [k0.cell]; rfl)
  have p2 : w1.cell? ⟨w.heap.size, 2, none⟩ = some (.slice A2 ts.length c2) := (by rw [k0.cell]; rfl)
  go_wp2_with fail
  refine (cW _ (HV.out.keep hY1)).mono ?_
  rintro e w2 ⟨rfl, hb2⟩
  have hY2 := hY1.trans (hb2.mono hY1.size)
  replace k0 := k0.keep hb2
  replace k1 := k1.keep hb2
  obtain ⟨pv, tv, tvs, hx⟩ := hs1.keep hb2
  have hx : OwnHx w2 _ b cap pv tv tvs ps ts := hx
  obtain ⟨gT, cT, gk, ck, rfl, htk, hgT, hgk, hbgk, hblt, z0, z1, zf⟩ := hx.place hk hj
  obtain ⟨A3, c3, rfl, hst⟩ := hx.store
  obtain ⟨r0, r1, r2, rf0, rf1⟩ := hx.cells
  have hbase : w.heap.size + 2 ≤ b := by have := hx.1; simp at this; omega
  simp at hbgk
  have HX2 := Lib.hid hx
  have HK0 := Lib.hid k0
  have HK1 := Lib.hid k1
  have HTK := Lib.hid htk
  have HST := Lib.hid hst
  have gTl : gT < w2.heap.size := by omega
  have gkl : gk < w2.heap.size := by omega
  rw [h4] at z0
  rw [hpl] at z1
  clear k0 k1 hs1 hx hst htk p0 p1 p2 hb1 hb2 cW
  have her' : (er == 0) = false := by simpa using her
  have cA := Alloc_own _ cap ps w2 HST.out (by omega)
  rw [hal] at cA
  go_wp2_with fail
  refine cA.mono ?_
  rintro e w3 ⟨v3, rfl, ⟨sv3, rfl, hr3⟩, hb3, -⟩
  obtain ⟨A5, c5, rfl, _, _⟩ := (Sl.of_own hr3).form
  have s0 := (hb3.cell (p := ⟨b, 0, none⟩) hblt).trans r0
  have s1 := (hb3.cell (p := ⟨b, 1, none⟩) hblt).trans r1
  have sf0 := (hb3.frozen (p := ⟨b, 0, none⟩) hblt).trans rf0
  have sf1 := (hb3.frozen (p := ⟨b, 1, none⟩) hblt).trans rf1
  have s3 := (hb3.cell (p := ⟨gk, n / 4, none⟩) gkl).trans z1
  have sf3 := (hb3.frozen (p := ⟨gk, n / 4, none⟩) gkl).trans zf
  have hx3 := HX2.out.pages hb3 hr3
  have hx4 := hx3.setPl hk hj HTK.out hgk at1
  have hY4 : Below w.heap.size w (((w3.setCell ⟨b, 0, none⟩ (.int .i64 cap)).setCell ⟨b, 1, none⟩ (.slice A5 ps1.length c5)).setCell ⟨gk, n / 4, none⟩ (.int .i64 at1)) := (((hY2.trans (hb3.mono hY2.size)).setCell (show w.heap.size ≤ b by omega) _).setCell (show w.heap.size ≤ b by omega) _).setCell (show w.heap.size ≤ gk by omega) _
  have kB0 := (((HK0.out.keep hb3).far (show w.heap.size ≠ b by omega) (p := ⟨b, 0, none⟩) (.int .i64 cap)).far (show w.heap.size ≠ b by omega) (p := ⟨b, 1, none⟩) (.slice A5 ps1.length c5)).far (show w.heap.size ≠ gk by omega) (p := ⟨gk, n / 4, none⟩) (.int .i64 at1)
  have kB1 := (((HK1.out.keep hb3).far (show w.heap.size + 1 ≠ b by omega) (p := ⟨b, 0, none⟩) (.int .i64 cap)).far (show w.heap.size + 1 ≠ b by omega) (p := ⟨b, 1, none⟩) (.slice A5 ps1.length c5)).far (show w.heap.size + 1 ≠ gk by omega) (p := ⟨gk, n / 4, none⟩) (.int .i64 at1)
  have HX4 := Lib.hid hx4
  have HB0 := Lib.hid kB0
  have HB1 := Lib.hid kB1
  have HY4 := Lib.hid hY4
  clear hx3 hx4 kB0 kB1 hY4 hr3 hb3 cA z1 zf r0 r1 r2 rf0 rf1 z0
  go_wp2_with fail
  obtain ⟨w4, hw4⟩ : ∃ x, (((w3.setCell ⟨b, 0, none⟩ (.int .i64 cap)).setCell ⟨b, 1, none⟩ (.slice A5 ps1.length c5)).setCell ⟨gk, n / 4, none⟩ (.int .i64 at1)) = x := ⟨_, rfl⟩
  rw [hw4] at HX4 HB0 HB1 HY4 ⊢
  clear hw4 s0 s1 s3 sf0 sf1 sf3
  obtain ⟨A3', c3', hA3, hst4⟩ := HX4.out.store
  have hc4 := HX4.out.cells
  obtain ⟨r0, r1, r2, rf0, rf1⟩ := hc4
  obtain ⟨_, _, _, _, e1, e2, _, _, _, gbl, _, z1, zf⟩ := HX4.out.place (k := k) (j := n / 4) (by simpa using hk) (by simpa using hj)
  injection e1 with e1 l1 l2
  clear l1 l2
  injection e1 with e1
  injection e1 with e1 l1 l2
  clear l1 l2
  subst e1
  rw [HTK.out] at e2
  injection e2 with e2
  injection e2 with e2 l1 l2
  clear l1 l2
  injection e2 with e2
  injection e2 with e2 l1 l2
  clear l1 l2
  subst e2
  simp only [List.getElem_set_self] at z1
  injection hA3 with a1 a2 a3
  subst a1 a3
  clear a2
  have gkl : gk < w4.heap.size := by omega
  have HSTR := Lib.hid hst4
  clear hst4
  have cWr := fun W h (hn : ps1.length ≤ 1000) => Write_own (.agg #[.int .i64 cap, .slice A5 ps1.length c5]) cap ps1 at1 ((n : Int) % 4) u W h hn
  rw [hwr] at cWr
  have BW := (Below.refl w4.heap.size w4).drew
  go_wp2_with fail
  refine wp_region_held_drew (S := fun _ => True) (by kernel_rfl) ?_ (fun hHelder => ?_)
  · trivial
  refine wpAnyH_take (i := 0) (oi := { dst := some 61, op := Op.move (Operand.tmp 10), type := 61, pos := "table.go:107", after := _, guard := none }) (v := ?ver0b1) rfl (by kernel_rfl) (by kernel_rfl) (by kernel_rfl) (fun _ _ _ h => h) (Or.inl ⟨by rfl, ?hyer0b1⟩) (by assumption) ?rester0b1
  case hyer0b1 => (intro w hSw; (try dsimp only at hSw); go_simp <;> with_reducible rfl)
  try simp only [Act.put, List.setIfInBounds_toArray, List.set_cons_zero, List.set_cons_succ]
  refine wpAnyH_take (i := 1) (oi := { dst := some 62, op := Op.move (Operand.tmp 12), type := 65, pos := "table.go:107", after := _, guard := none }) (v := ?ver1b2) rfl (by kernel_rfl) (by kernel_rfl) (by kernel_rfl) (fun _ _ _ h => h) (Or.inl ⟨by rfl, ?hyer1b2⟩) (by assumption) ?rester1b2
  case hyer1b2 => (intro w hSw; (try dsimp only at hSw); go_simp <;> with_reducible rfl)
  try simp only [Act.put, List.setIfInBounds_toArray, List.set_cons_zero, List.set_cons_succ]
  refine wpAnyH_take (i := 2) (oi := { dst := some 63, op := Op.move (Operand.tmp 10), type := 61, pos := "table.go:107", after := _, guard := none }) (v := ?ver2b3) rfl (by kernel_rfl) (by kernel_rfl) (by kernel_rfl) (fun _ _ _ h => h) (Or.inl ⟨by rfl, ?hyer2b3⟩) (by assumption) ?rester2b3
  case hyer2b3 => (intro w hSw; (try dsimp only at hSw); go_simp <;> with_reducible rfl)
  try simp only [Act.put, List.setIfInBounds_toArray, List.set_cons_zero, List.set_cons_succ]
  refine wpAnyH_take (i := 3) (oi := { dst := some 64, op := Op.nilCheck (Operand.tmp 63), type := 0, pos := "table.go:107", after := _, guard := none }) (v := ?ver3b4) rfl (by kernel_rfl) (by kernel_rfl) (by kernel_rfl) (fun _ _ _ h => h) (Or.inl ⟨by rfl, ?hyer3b4⟩) (by assumption) ?rester3b4
  case hyer3b4 => (intro w hSw; (try dsimp only at hSw); go_simp <;> with_reducible rfl)
  try simp only [Act.put, List.setIfInBounds_toArray, List.set_cons_zero, List.set_cons_succ]
  refine wpAnyH_take (i := 4) (oi := { dst := some 65, op := Op.fieldAddr 64 (Operand.tmp 64) 0, type := 0, pos := "table.go:107", after := _, guard := none }) (v := ?ver4b5) rfl (by kernel_rfl) (by kernel_rfl) (by kernel_rfl) (fun _ _ _ h => h) (Or.inl ⟨by rfl, ?hyer4b5⟩) (by assumption) ?rester4b5
  case hyer4b5 => (intro w hSw; (try dsimp only at hSw); go_simp <;> with_reducible rfl)
  try simp only [Act.put, List.setIfInBounds_toArray, List.set_cons_zero, List.set_cons_succ]
  refine wpAnyH_take (i := 5) (oi := { dst := some 66, op := Op.fieldAddr 28 (Operand.tmp 65) 0, type := 0, pos := "table.go:107", after := _, guard := none }) (v := ?ver5b6) rfl (by kernel_rfl) (by kernel_rfl) (by kernel_rfl) (fun _ _ _ h => h) (Or.inl ⟨by rfl, ?hyer5b6⟩) (by assumption) ?rester5b6
  case hyer5b6 => (intro w hSw; (try dsimp only at hSw); go_simp <;> with_reducible rfl)
  try simp only [Act.put, List.setIfInBounds_toArray, List.set_cons_zero, List.set_cons_succ]
  refine wpAnyH_take (i := 7) (oi := { dst := some 68, op := Op.move (Operand.tmp 12), type := 65, pos := "table.go:107", after := _, guard := none }) (v := ?ver7b7) rfl (by kernel_rfl) (by kernel_rfl) (by kernel_rfl) (fun _ _ _ h => h) (Or.inl ⟨by rfl, ?hyer7b7⟩) (by assumption) ?rester7b7
  case hyer7b7 => (intro w hSw; (try dsimp only at hSw); go_simp <;> with_reducible rfl)
  try simp only [Act.put, List.setIfInBounds_toArray, List.set_cons_zero, List.set_cons_succ]
  refine wpAnyH_take (i := 8) (oi := { dst := some 69, op := Op.nilCheck (Operand.tmp 68), type := 0, pos := "table.go:107", after := _, guard := none }) (v := ?ver8b8) rfl (by kernel_rfl) (by kernel_rfl) (by kernel_rfl) (fun _ _ _ h => h) (Or.inl ⟨by rfl, ?hyer8b8⟩) (by assumption) ?rester8b8
  case hyer8b8 => (intro w hSw; (try dsimp only at hSw); go_simp <;> with_reducible rfl)
  try simp only [Act.put, List.setIfInBounds_toArray, List.set_cons_zero, List.set_cons_succ]
  refine wpAnyH_take (i := 10) (oi := { dst := some 71, op := Op.move (Operand.tmp 2), type := 3, pos := "table.go:107", after := _, guard := none }) (v := ?ver10b9) rfl (by kernel_rfl) (by kernel_rfl) (by kernel_rfl) (fun _ _ _ h => h) (Or.inl ⟨by rfl, ?hyer10b9⟩) (by assumption) ?rester10b9
  case hyer10b9 => (intro w hSw; (try dsimp only at hSw); go_simp <;> with_reducible rfl)
  try simp only [Act.put, List.setIfInBounds_toArray, List.set_cons_zero, List.set_cons_succ]
  refine wpAnyH_take (i := 11) (oi := { dst := some 72, op := Op.binOp BinOp.rem 3 (Operand.tmp 71) (Operand.const (Value.int IntKind.i64 4)) 3, type := 3, pos := "table.go:107", after := _, guard := none }) (v := ?ver11b10) rfl (by kernel_rfl) (by kernel_rfl) (by kernel_rfl) (fun _ _ _ h => h) (Or.inl ⟨by rfl, ?hyer11b10⟩) (by assumption) ?rester11b10
  case hyer11b10 => (intro w hSw; (try dsimp only at hSw); go_simp <;> with_reducible rfl)
  try simp only [Act.put, List.setIfInBounds_toArray, List.set_cons_zero, List.set_cons_succ]
  refine wpAnyH_take (i := 12) (oi := { dst := some 73, op := Op.move (Operand.tmp 3), type := 3, pos := "table.go:107", after := _, guard := none }) (v := ?ver12b11) rfl (by kernel_rfl) (by kernel_rfl) (by kernel_rfl) (fun _ _ _ h => h) (Or.inl ⟨by rfl, ?hyer12b11⟩) (by assumption) ?rester12b11
  case hyer12b11 => (intro w hSw; (try dsimp only at hSw); go_simp <;> with_reducible rfl)
  try simp only [Act.put, List.setIfInBounds_toArray, List.set_cons_zero, List.set_cons_succ]
  refine wpAnyH_ready (rs := [6, 9]) (by kernel_rfl) (by simp) ?_
  refine AllReadyH.cons (o := { dst := some 67, op := Op.load 25 (Operand.tmp 66), type := 25, pos := "table.go:107", after := _, guard := none }) rfl (fun K hK => ?_) ?_
  · go_simp
    skip
    refine hK.out _ _ ?_ (fun hHelder6b12 => ?_)
    · trivial
    clear hK K hHelder
    try simp only [Act.put, List.setIfInBounds_toArray, List.set_cons_zero, List.set_cons_succ]
    refine wpAnyH_ready (rs := [9]) (by kernel_rfl) (by simp) ?_
    refine AllReadyH.cons (o := { dst := some 70, op := Op.load 3 (Operand.tmp 69), type := 3, pos := "table.go:107", after := _, guard := none }) rfl (fun K hK => ?_) AllReadyH.nil
    go_simp
    skip
    refine hK.out _ _ ?_ (fun hHelder9b13 => ?_)
    · trivial
    clear hK K hHelder6b12
    try simp only [Act.put, List.setIfInBounds_toArray, List.set_cons_zero, List.set_cons_succ]
    refine wpAnyH_ready (rs := [13]) (by kernel_rfl) (by simp) ?_
    refine AllReadyH.cons (o := { dst := some 74, op := Op.call { callee := Callee.value (Operand.func 35), args := #[Operand.tmp 67, Operand.tmp 70, Operand.tmp 72, Operand.tmp 73], argTypes := #[25, 3, 3, 3] }, type := 66, pos := "table.go:107", after := _, guard := none }) rfl (fun K hK => ?_) AllReadyH.nil
    go_simp
    refine (cWr _ (HSTR.out.below BW) (by omega)).mono ?_
    rintro e w5 ⟨v5, rfl, ⟨sv5, rfl, hr5⟩, hb5⟩
    have hX := BW.trans (hb5.mono BW.size)
    obtain ⟨A7, c7, rfl, _, _⟩ := (Sl.of_own hr5).form
    have y0 := (hX.cell (p := ⟨b, 0, none⟩) gbl).trans r0
    have y1 := (hX.cell (p := ⟨b, 1, none⟩) gbl).trans r1
    have yf0 := (hX.frozen (p := ⟨b, 0, none⟩) gbl).trans rf0
    have yf1 := (hX.frozen (p := ⟨b, 1, none⟩) gbl).trans rf1
    have y3 := (hX.cell (p := ⟨gk, n / 4, none⟩) gkl).trans z1
    have yf3 := (hX.frozen (p := ⟨gk, n / 4, none⟩) gkl).trans zf
    have HX5 := Lib.hid hX
    have HR5 := Lib.hid hr5
    clear hX hr5 hb5
    try go_wp2_with fail
    refine hK.out _ _ ?_ (fun hHelder13b14 => ?_)
    · trivial
    clear hK K hHelder9b13
    try simp only [Act.put, List.setIfInBounds_toArray, List.set_cons_zero, List.set_cons_succ]
    refine wpAnyH_take (i := 14) (oi := { dst := some 60, op := Op.move (Operand.tmp 74), type := 66, pos := "table.go:107", after := _, guard := none }) (v := ?ver14b15) rfl (by kernel_rfl) (by kernel_rfl) (by kernel_rfl) (fun _ _ _ h => h) (Or.inl ⟨by rfl, ?hyer14b15⟩) (by assumption) ?rester14b15
    case hyer14b15 => (intro w hSw; (try dsimp only at hSw); go_simp <;> with_reducible rfl)
    try simp only [Act.put, List.setIfInBounds_toArray, List.set_cons_zero, List.set_cons_succ]
    refine wpAnyH_take (i := 15) (oi := { dst := some 75, op := Op.extract (Operand.tmp 60) 0, type := 25, pos := "table.go:107", after := _, guard := none }) (v := ?ver15b16) rfl (by kernel_rfl) (by kernel_rfl) (by kernel_rfl) (fun _ _ _ h => h) (Or.inl ⟨by rfl, ?hyer15b16⟩) (by assumption) ?rester15b16
    case hyer15b16 => (intro w hSw; (try dsimp only at hSw); go_simp <;> with_reducible rfl)
    try simp only [Act.put, List.setIfInBounds_toArray, List.set_cons_zero, List.set_cons_succ]
    refine wpAnyH_take (i := 16) (oi := { dst := some 76, op := Op.extract (Operand.tmp 60) 1, type := 3, pos := "table.go:107", after := _, guard := none }) (v := ?ver16b17) rfl (by kernel_rfl) (by kernel_rfl) (by kernel_rfl) (fun _ _ _ h => h) (Or.inl ⟨by rfl, ?hyer16b17⟩) (by assumption) ?rester16b17
    case hyer16b17 => (intro w hSw; (try dsimp only at hSw); go_simp <;> with_reducible rfl)
    try simp only [Act.put, List.setIfInBounds_toArray, List.set_cons_zero, List.set_cons_succ]
    refine wpAnyH_take (i := 17) (oi := { dst := some 77, op := Op.extract (Operand.tmp 60) 2, type := 31, pos := "table.go:107", after := _, guard := none }) (v := ?ver17b18) rfl (by kernel_rfl) (by kernel_rfl) (by kernel_rfl) (fun _ _ _ h => h) (Or.inl ⟨by rfl, ?hyer17b18⟩) (by assumption) ?rester17b18
    case hyer17b18 => (intro w hSw; (try dsimp only at hSw); go_simp <;> with_reducible rfl)
    try simp only [Act.put, List.setIfInBounds_toArray, List.set_cons_zero, List.set_cons_succ]
    refine wpAnyH_take (i := 18) (oi := { dst := some 78, op := Op.nilCheck (Operand.tmp 61), type := 0, pos := "table.go:107", after := _, guard := none }) (v := ?ver18b19) rfl (by kernel_rfl) (by kernel_rfl) (by kernel_rfl) (fun _ _ _ h => h) (Or.inl ⟨by rfl, ?hyer18b19⟩) (by assumption) ?rester18b19
    case hyer18b19 => (intro w hSw; (try dsimp only at hSw); go_simp <;> with_reducible rfl)
    try simp only [Act.put, List.setIfInBounds_toArray, List.set_cons_zero, List.set_cons_succ]
    refine wpAnyH_take (i := 19) (oi := { dst := some 79, op := Op.fieldAddr 64 (Operand.tmp 78) 0, type := 0, pos := "table.go:107", after := _, guard := none }) (v := ?ver19b20) rfl (by kernel_rfl) (by kernel_rfl) (by kernel_rfl) (fun _ _ _ h => h) (Or.inl ⟨by rfl, ?hyer19b20⟩) (by assumption) ?rester19b20
    case hyer19b20 => (intro w hSw; (try dsimp only at hSw); go_simp <;> with_reducible rfl)
    try simp only [Act.put, List.setIfInBounds_toArray, List.set_cons_zero, List.set_cons_succ]
    refine wpAnyH_take (i := 20) (oi := { dst := some 80, op := Op.fieldAddr 28 (Operand.tmp 79) 0, type := 0, pos := "table.go:107", after := _, guard := none }) (v := ?ver20b21) rfl (by kernel_rfl) (by kernel_rfl) (by kernel_rfl) (fun _ _ _ h => h) (Or.inl ⟨by rfl, ?hyer20b21⟩) (by assumption) ?rester20b21
    case hyer20b21 => (intro w hSw; (try dsimp only at hSw); go_simp <;> with_reducible rfl)
    try simp only [Act.put, List.setIfInBounds_toArray, List.set_cons_zero, List.set_cons_succ]
    refine wpAnyH_ready (rs := [21]) (by kernel_rfl) (by simp) ?_
    refine AllReadyH.cons (o := { dst := none, op := Op.store 25 (Operand.tmp 80) (Operand.tmp 75), type := 0, pos := "table.go:107", after := _, guard := none }) rfl (fun K hK => ?_) AllReadyH.nil
    go_simp
    skip
    refine hK.out _ _ ?_ (fun hHelder21b22 => ?_)
    · trivial
    clear hK K hHelder13b14
    try simp only [Act.put, List.setIfInBounds_toArray, List.set_cons_zero, List.set_cons_succ]
    refine wpAnyH_take (i := 22) (oi := { dst := some 81, op := Op.nilCheck (Operand.tmp 62), type := 0, pos := "table.go:107", after := _, guard := none }) (v := ?ver22b23) rfl (by kernel_rfl) (by kernel_rfl) (by kernel_rfl) (fun _ _ _ h => h) (Or.inl ⟨by rfl, ?hyer22b23⟩) (by assumption) ?rester22b23
    case hyer22b23 => (intro w hSw; (try dsimp only at hSw); go_simp <;> with_reducible rfl)
    try simp only [Act.put, List.setIfInBounds_toArray, List.set_cons_zero, List.set_cons_succ]
    refine wpAnyH_ready (rs := [23]) (by kernel_rfl) (by simp) ?_
    refine AllReadyH.cons (o := { dst := none, op := Op.store 3 (Operand.tmp 81) (Operand.tmp 76), type := 0, pos := "table.go:107", after := _, guard := none }) rfl (fun K hK => ?_) AllReadyH.nil
    go_simp
    skip
    refine hK.out _ _ ?_ (fun hHelder23b24 => ?_)
    · trivial
    clear hK K hHelder21b22
    try simp only [Act.put, List.setIfInBounds_toArray, List.set_cons_zero, List.set_cons_succ]
    refine wpAnyH_ready (rs := [24]) (by kernel_rfl) (by simp) ?_
    refine AllReadyH.cons (o := { dst := some 13, op := Op.assign (Operand.tmp 77), type := 31, pos := "table.go:107", after := _, guard := none }) rfl (fun K hK => ?_) AllReadyH.nil
    go_simp
    skip
    refine hK.out _ _ ?_ (fun hHelder24b25 => ?_)
    · trivial
    clear hK K hHelder23b24
    try simp only [Act.put, List.setIfInBounds_toArray, List.set_cons_zero, List.set_cons_succ]
    refine wpAnyH_done (by kernel_rfl) ?_ _
    have hx6 := (HX4.out.pages HX5.out HR5.out).setPl (j := n / 4) (k := k) (by simpa using hk) (by simpa using hj) (ck := ck) (by simpa using HTK.out) hgk at2
    try simp only [List.getElem_set_self, List.set_set] at hx6
    have hY6 := (((HY4.out.trans (HX5.out.mono (HY4.out).size)).setCell (show w.heap.size ≤ b by omega) (p := ⟨b, 0, none⟩) (.int .i64 cap)).setCell (show w.heap.size ≤ b by omega) (p := ⟨b, 1, none⟩) (.slice A7 ps2.length c7)).setCell (show w.heap.size ≤ gk by omega) (p := ⟨gk, n / 4, none⟩) (.int .i64 at2)
    have k06 := ((((HB0.out).keep HX5.out).far (show w.heap.size ≠ b by omega) (p := ⟨b, 0, none⟩) (.int .i64 cap)).far (show w.heap.size ≠ b by omega) (p := ⟨b, 1, none⟩) (.slice A7 ps2.length c7)).far (show w.heap.size ≠ gk by omega) (p := ⟨gk, n / 4, none⟩) (.int .i64 at2)
    have k16 := ((((HB1.out).keep HX5.out).far (show w.heap.size + 1 ≠ b by omega) (p := ⟨b, 0, none⟩) (.int .i64 cap)).far (show w.heap.size + 1 ≠ b by omega) (p := ⟨b, 1, none⟩) (.slice A7 ps2.length c7)).far (show w.heap.size + 1 ≠ gk by omega) (p := ⟨gk, n / 4, none⟩) (.int .i64 at2)
    obtain ⟨w6, hw6⟩ : ∃ x, ((w5.setCell ⟨b, 0, none⟩ (.int .i64 cap)).setCell ⟨b, 1, none⟩ (.slice A7 ps2.length c7)).setCell ⟨gk, n / 4, none⟩ (.int .i64 at2) = x := ⟨_, rfl⟩
    rw [hw6] at hx6 hY6 k06 k16 ⊢
    clear hw6 y0 y1 yf0 yf1 y3 yf3 HX5 HR5
    have p0 : w6.cell? ⟨w.heap.size, 0, none⟩ = some (.int .i64 cap) := (by rw [k06.cell]; rfl)
    have p1 : w6.cell? ⟨w.heap.size, 1, none⟩ = some (.slice A ps.length c) := (by rw [k06.cell]; rfl)
    have p2 : w6.cell? ⟨w.heap.size, 2, none⟩ = some (.slice A2 ts.length c2) := (by rw [k06.cell]; rfl)
    have HB16 := Lib.hid k16
    have HY6 := Lib.hid hY6
    clear k16 hY6 hx6 k06
    go_wp2_with fail
    refine (cO _ (HV.out.keep HY6.out)).mono ?_
    rintro e w8 ⟨b8, rfl, hs8, hb8⟩
    have hY8 := (HY6.out).trans (hb8.mono (HY6.out).size)
    have k8 := (HB16.out).keep hb8
    obtain ⟨A8, c8, A9, c9, hb8', hlt8, u0, u1, u2, hq8⟩ := hs8.toW.read
    have q0 : w8.cell? ⟨w.heap.size + 1, 0, none⟩ = some (.int .i64 0) := (by rw [k8.cell]; rfl)
    have qf0 : w8.frozen? ⟨w.heap.size + 1, 0, none⟩ = false := k8.free 0
    have q1 : w8.cell? ⟨w.heap.size + 1, 1, none⟩ = some (.slice none 0 0) := (by rw [k8.cell]; rfl)
    have qf1 : w8.frozen? ⟨w.heap.size + 1, 1, none⟩ = false := k8.free 1
    have q2 : w8.cell? ⟨w.heap.size + 1, 2, none⟩ = some (.slice none 0 0) := (by rw [k8.cell]; rfl)
    have qf2 : w8.frozen? ⟨w.heap.size + 1, 2, none⟩ = false := k8.free 2
    have HQ8 := Lib.hid hq8
    have HK8 := Lib.hid k8
    clear hs8 hq8 k8 hb8
    have hz8 : w.heap.size ≤ w6.heap.size := (HY6.out).size
    go_wp2
    refine bodyPost_ret (v := .tuple #[.agg #[.int .i64 cap, .slice A8 ps.length c8, .slice A9 ts.length c9], .int .i64 er]) (by simp [results, Try.results15, go_sem, q0, q1, q2]) rfl ⟨_, rfl, ?_, ?_⟩
    · exact (((HQ8.out.boxed HK8.out 0 _).boxed (HK8.out.set_ 0 _) 1 _).boxed ((HK8.out.set_ 0 _).set_ 1 _) 2 _).mono hz8
    · exact ((hY8.setCell (by simp) _).setCell (by simp) _).setCell (by simp) _
  refine AllReadyH.cons (o := { dst := some 70, op := Op.load 3 (Operand.tmp 69), type := 3, pos := "table.go:107", after := _, guard := none }) rfl (fun K hK => ?_) ?_
  · go_simp
    skip
    refine hK.out _ _ ?_ (fun hHelder9b26 => ?_)
    · trivial
    clear hK K hHelder
    try simp only [Act.put, List.setIfInBounds_toArray, List.set_cons_zero, List.set_cons_succ]
    refine wpAnyH_ready (rs := [6]) (by kernel_rfl) (by simp) ?_
    refine AllReadyH.cons (o := { dst := some 67, op := Op.load 25 (Operand.tmp 66), type := 25, pos := "table.go:107", after := _, guard := none }) rfl (fun K hK => ?_) AllReadyH.nil
    go_simp
    skip
    refine hK.out _ _ ?_ (fun hHelder6b27 => ?_)
    · trivial
    clear hK K hHelder9b26
    try simp only [Act.put, List.setIfInBounds_toArray, List.set_cons_zero, List.set_cons_succ]
    refine wpAnyH_ready (rs := [13]) (by kernel_rfl) (by simp) ?_
    refine AllReadyH.cons (o := { dst := some 74, op := Op.call { callee := Callee.value (Operand.func 35), args := #[Operand.tmp 67, Operand.tmp 70, Operand.tmp 72, Operand.tmp 73], argTypes := #[25, 3, 3, 3] }, type := 66, pos := "table.go:107", after := _, guard := none }) rfl (fun K hK => ?_) AllReadyH.nil
    go_simp
    refine (cWr _ (HSTR.out.below BW) (by omega)).mono ?_
    rintro e w5 ⟨v5, rfl, ⟨sv5, rfl, hr5⟩, hb5⟩
    have hX := BW.trans (hb5.mono BW.size)
    obtain ⟨A7, c7, rfl, _, _⟩ := (Sl.of_own hr5).form
    have y0 := (hX.cell (p := ⟨b, 0, none⟩) gbl).trans r0
    have y1 := (hX.cell (p := ⟨b, 1, none⟩) gbl).trans r1
    have yf0 := (hX.frozen (p := ⟨b, 0, none⟩) gbl).trans rf0
    have yf1 := (hX.frozen (p := ⟨b, 1, none⟩) gbl).trans rf1
    have y3 := (hX.cell (p := ⟨gk, n / 4, none⟩) gkl).trans z1
    have yf3 := (hX.frozen (p := ⟨gk, n / 4, none⟩) gkl).trans zf
    have HX5 := Lib.hid hX
    have HR5 := Lib.hid hr5
    clear hX hr5 hb5
    try go_wp2_with fail
    refine hK.out _ _ ?_ (fun hHelder13b28 => ?_)
    · trivial
    clear hK K hHelder6b27
    try simp only [Act.put, List.setIfInBounds_toArray, List.set_cons_zero, List.set_cons_succ]
    refine wpAnyH_take (i := 14) (oi := { dst := some 60, op := Op.move (Operand.tmp 74), type := 66, pos := "table.go:107", after := _, guard := none }) (v := ?ver14b29) rfl (by kernel_rfl) (by kernel_rfl) (by kernel_rfl) (fun _ _ _ h => h) (Or.inl ⟨by rfl, ?hyer14b29⟩) (by assumption) ?rester14b29
    case hyer14b29 => (intro w hSw; (try dsimp only at hSw); go_simp <;> with_reducible rfl)
    try simp only [Act.put, List.setIfInBounds_toArray, List.set_cons_zero, List.set_cons_succ]
    refine wpAnyH_take (i := 15) (oi := { dst := some 75, op := Op.extract (Operand.tmp 60) 0, type := 25, pos := "table.go:107", after := _, guard := none }) (v := ?ver15b30) rfl (by kernel_rfl) (by kernel_rfl) (by kernel_rfl) (fun _ _ _ h => h) (Or.inl ⟨by rfl, ?hyer15b30⟩) (by assumption) ?rester15b30
    case hyer15b30 => (intro w hSw; (try dsimp only at hSw); go_simp <;> with_reducible rfl)
    try simp only [Act.put, List.setIfInBounds_toArray, List.set_cons_zero, List.set_cons_succ]
    refine wpAnyH_take (i := 16) (oi := { dst := some 76, op := Op.extract (Operand.tmp 60) 1, type := 3, pos := "table.go:107", after := _, guard := none }) (v := ?ver16b31) rfl (by kernel_rfl) (by kernel_rfl) (by kernel_rfl) (fun _ _ _ h => h) (Or.inl ⟨by rfl, ?hyer16b31⟩) (by assumption) ?rester16b31
    case hyer16b31 => (intro w hSw; (try dsimp only at hSw); go_simp <;> with_reducible rfl)
    try simp only [Act.put, List.setIfInBounds_toArray, List.set_cons_zero, List.set_cons_succ]
    refine wpAnyH_take (i := 17) (oi := { dst := some 77, op := Op.extract (Operand.tmp 60) 2, type := 31, pos := "table.go:107", after := _, guard := none }) (v := ?ver17b32) rfl (by kernel_rfl) (by kernel_rfl) (by kernel_rfl) (fun _ _ _ h => h) (Or.inl ⟨by rfl, ?hyer17b32⟩) (by assumption) ?rester17b32
    case hyer17b32 => (intro w hSw; (try dsimp only at hSw); go_simp <;> with_reducible rfl)
    try simp only [Act.put, List.setIfInBounds_toArray, List.set_cons_zero, List.set_cons_succ]
    refine wpAnyH_take (i := 18) (oi := { dst := some 78, op := Op.nilCheck (Operand.tmp 61), type := 0, pos := "table.go:107", after := _, guard := none }) (v := ?ver18b33) rfl (by kernel_rfl) (by kernel_rfl) (by kernel_rfl) (fun _ _ _ h => h) (Or.inl ⟨by rfl, ?hyer18b33⟩) (by assumption) ?rester18b33
    case hyer18b33 => (intro w hSw; (try dsimp only at hSw); go_simp <;> with_reducible rfl)
    try simp only [Act.put, List.setIfInBounds_toArray, List.set_cons_zero, List.set_cons_succ]
    refine wpAnyH_take (i := 19) (oi := { dst := some 79, op := Op.fieldAddr 64 (Operand.tmp 78) 0, type := 0, pos := "table.go:107", after := _, guard := none }) (v := ?ver19b34) rfl (by kernel_rfl) (by kernel_rfl) (by kernel_rfl) (fun _ _ _ h => h) (Or.inl ⟨by rfl, ?hyer19b34⟩) (by assumption) ?rester19b34
    case hyer19b34 => (intro w hSw; (try dsimp only at hSw); go_simp <;> with_reducible rfl)
    try simp only [Act.put, List.setIfInBounds_toArray, List.set_cons_zero, List.set_cons_succ]
    refine wpAnyH_take (i := 20) (oi := { dst := some 80, op := Op.fieldAddr 28 (Operand.tmp 79) 0, type := 0, pos := "table.go:107", after := _, guard := none }) (v := ?ver20b35) rfl (by kernel_rfl) (by kernel_rfl) (by kernel_rfl) (fun _ _ _ h => h) (Or.inl ⟨by rfl, ?hyer20b35⟩) (by assumption) ?rester20b35
    case hyer20b35 => (intro w hSw; (try dsimp only at hSw); go_simp <;> with_reducible rfl)
    try simp only [Act.put, List.setIfInBounds_toArray, List.set_cons_zero, List.set_cons_succ]
    refine wpAnyH_ready (rs := [21]) (by kernel_rfl) (by simp) ?_
    refine AllReadyH.cons (o := { dst := none, op := Op.store 25 (Operand.tmp 80) (Operand.tmp 75), type := 0, pos := "table.go:107", after := _, guard := none }) rfl (fun K hK => ?_) AllReadyH.nil
    go_simp
    skip
    refine hK.out _ _ ?_ (fun hHelder21b36 => ?_)
    · trivial
    clear hK K hHelder13b28
    try simp only [Act.put, List.setIfInBounds_toArray, List.set_cons_zero, List.set_cons_succ]
    refine wpAnyH_take (i := 22) (oi := { dst := some 81, op := Op.nilCheck (Operand.tmp 62), type := 0, pos := "table.go:107", after := _, guard := none }) (v := ?ver22b37) rfl (by kernel_rfl) (by kernel_rfl) (by kernel_rfl) (fun _ _ _ h => h) (Or.inl ⟨by rfl, ?hyer22b37⟩) (by assumption) ?rester22b37
    case hyer22b37 => (intro w hSw; (try dsimp only at hSw); go_simp <;> with_reducible rfl)
    try simp only [Act.put, List.setIfInBounds_toArray, List.set_cons_zero, List.set_cons_succ]
    refine wpAnyH_ready (rs := [23]) (by kernel_rfl) (by simp) ?_
    refine AllReadyH.cons (o := { dst := none, op := Op.store 3 (Operand.tmp 81) (Operand.tmp 76), type := 0, pos := "table.go:107", after := _, guard := none }) rfl (fun K hK => ?_) AllReadyH.nil
    go_simp
    skip
    refine hK.out _ _ ?_ (fun hHelder23b38 => ?_)
    · trivial
    clear hK K hHelder21b36
    try simp only [Act.put, List.setIfInBounds_toArray, List.set_cons_zero, List.set_cons_succ]
    refine wpAnyH_ready (rs := [24]) (by kernel_rfl) (by simp) ?_
    refine AllReadyH.cons (o := { dst := some 13, op := Op.assign (Operand.tmp 77), type := 31, pos := "table.go:107", after := _, guard := none }) rfl (fun K hK => ?_) AllReadyH.nil
    go_simp
    skip
    refine hK.out _ _ ?_ (fun hHelder24b39 => ?_)
    · trivial
    clear hK K hHelder23b38
    try simp only [Act.put, List.setIfInBounds_toArray, List.set_cons_zero, List.set_cons_succ]
    refine wpAnyH_done (by kernel_rfl) ?_ _
    have hx6 := (HX4.out.pages HX5.out HR5.out).setPl (j := n / 4) (k := k) (by simpa using hk) (by simpa using hj) (ck := ck) (by simpa using HTK.out) hgk at2
    try simp only [List.getElem_set_self, List.set_set] at hx6
    have hY6 := (((HY4.out.trans (HX5.out.mono (HY4.out).size)).setCell (show w.heap.size ≤ b by omega) (p := ⟨b, 0, none⟩) (.int .i64 cap)).setCell (show w.heap.size ≤ b by omega) (p := ⟨b, 1, none⟩) (.slice A7 ps2.length c7)).setCell (show w.heap.size ≤ gk by omega) (p := ⟨gk, n / 4, none⟩) (.int .i64 at2)
    have k06 := ((((HB0.out).keep HX5.out).far (show w.heap.size ≠ b by omega) (p := ⟨b, 0, none⟩) (.int .i64 cap)).far (show w.heap.size ≠ b by omega) (p := ⟨b, 1, none⟩) (.slice A7 ps2.length c7)).far (show w.heap.size ≠ gk by omega) (p := ⟨gk, n / 4, none⟩) (.int .i64 at2)
    have k16 := ((((HB1.out).keep HX5.out).far (show w.heap.size + 1 ≠ b by omega) (p := ⟨b, 0, none⟩) (.int .i64 cap)).far (show w.heap.size + 1 ≠ b by omega) (p := ⟨b, 1, none⟩) (.slice A7 ps2.length c7)).far (show w.heap.size + 1 ≠ gk by omega) (p := ⟨gk, n / 4, none⟩) (.int .i64 at2)
    obtain ⟨w6, hw6⟩ : ∃ x, ((w5.setCell ⟨b, 0, none⟩ (.int .i64 cap)).setCell ⟨b, 1, none⟩ (.slice A7 ps2.length c7)).setCell ⟨gk, n / 4, none⟩ (.int .i64 at2) = x := ⟨_, rfl⟩
    rw [hw6] at hx6 hY6 k06 k16 ⊢
    clear hw6 y0 y1 yf0 yf1 y3 yf3 HX5 HR5
    have p0 : w6.cell? ⟨w.heap.size, 0, none⟩ = some (.int .i64 cap) := (by rw [k06.cell]; rfl)
    have p1 : w6.cell? ⟨w.heap.size, 1, none⟩ = some (.slice A ps.length c) := (by rw [k06.cell]; rfl)
    have p2 : w6.cell? ⟨w.heap.size, 2, none⟩ = some (.slice A2 ts.length c2) := (by rw [k06.cell]; rfl)
    have HB16 := Lib.hid k16
    have HY6 := Lib.hid hY6
    clear k16 hY6 hx6 k06
    go_wp2_with fail
    refine (cO _ (HV.out.keep HY6.out)).mono ?_
    rintro e w8 ⟨b8, rfl, hs8, hb8⟩
    have hY8 := (HY6.out).trans (hb8.mono (HY6.out).size)
    have k8 := (HB16.out).keep hb8
    obtain ⟨A8, c8, A9, c9, hb8', hlt8, u0, u1, u2, hq8⟩ := hs8.toW.read
    have q0 : w8.cell? ⟨w.heap.size + 1, 0, none⟩ = some (.int .i64 0) := (by rw [k8.cell]; rfl)
    have qf0 : w8.frozen? ⟨w.heap.size + 1, 0, none⟩ = false := k8.free 0
    have q1 : w8.cell? ⟨w.heap.size + 1, 1, none⟩ = some (.slice none 0 0) := (by rw [k8.cell]; rfl)
    have qf1 : w8.frozen? ⟨w.heap.size + 1, 1, none⟩ = false := k8.free 1
    have q2 : w8.cell? ⟨w.heap.size + 1, 2, none⟩ = some (.slice none 0 0) := (by rw [k8.cell]; rfl)
    have qf2 : w8.frozen? ⟨w.heap.size + 1, 2, none⟩ = false := k8.free 2
    have HQ8 := Lib.hid hq8
    have HK8 := Lib.hid k8
    clear hs8 hq8 k8 hb8
    have hz8 : w.heap.size ≤ w6.heap.size := (HY6.out).size
    go_wp2
    refine bodyPost_ret (v := .tuple #[.agg #[.int .i64 cap, .slice A8 ps.length c8, .slice A9 ts.length c9], .int .i64 er]) (by simp [results, Try.results15, go_sem, q0, q1, q2]) rfl ⟨_, rfl, ?_, ?_⟩
    · exact (((HQ8.out.boxed HK8.out 0 _).boxed (HK8.out.set_ 0 _) 1 _).boxed ((HK8.out.set_ 0 _).set_ 1 _) 2 _).mono hz8
    · exact ((hY8.setCell (by simp) _).setCell (by simp) _).setCell (by simp) _
  exact AllReadyH.nil

set_option maxRecDepth 100000 in
set_option maxHeartbeats 4000000 in
theorem wr_why (A A2 : Option Addr) (c c2 : Nat) (cap : Int) (ps : List Pg) (ts : List (List Int)) (t a u er : Int) (w : World) (hv : HpV w (.agg #[.int .i64 cap, .slice A ps.length c, .slice A2 ts.length c2]) cap ps ts) (hn : ps.length ≤ 900) (hm : ts.length ≤ 1000) (hl : ∀ t ∈ ts, t.length ≤ 1000)
    (he : whyH cap ps ts t a = er) (her : (er != 0) = true) :
    Calls Try.prog 15 #[(.agg #[.int .i64 cap, .slice A ps.length c, .slice A2 ts.length c2]), .int .i64 t, .int .i64 a, .int .i64 u] w (HeapRes2 cap er ps ts w) := by
  have cO := fun W h => town_any (.agg #[.int .i64 cap, .slice A ps.length c, .slice A2 ts.length c2]) cap ps ts W h (by omega) hm hl
  have cW := fun W h => twhy_any (.agg #[.int .i64 cap, .slice A ps.length c, .slice A2 ts.length c2]) cap ps ts t a W h (by omega)
  rw [he] at cW
  have HV := Lib.hid hv
  clear he hl hv
  go_enter Try.func15, Try.ntmps15
  have hA0 := ((Below.refl w.heap.size w).alloc (Nat.le_refl _) (.cells #[.int .i64 cap, .slice A ps.length c, .slice A2 ts.length c2] 28)).alloc (by simp) (.cells #[.int .i64 0, .slice none 0 0, .slice none 0 0] 28)
  go_wp2_with fail
  refine (cO _ (HV.out.keep hA0)).mono ?_
  rintro e w1 ⟨b, rfl, hs1, hb1⟩
  have hY1 := hA0.trans (hb1.mono (by simp; omega))
  have k0 : Blk w1 w.heap.size 28 #[.int .i64 cap, .slice A ps.length c, .slice A2 ts.length c2] := ((Blk.new_ w _ _ _ rfl).alloc _).keep hb1
  have k1 : Blk w1 (w.heap.size + 1) 28 #[.int .i64 0, .slice none 0 0, .slice none 0 0] := (Blk.new_ _ _ _ _ (by simp)).keep hb1
  have p0 : w1.cell? ⟨w.heap.size, 0, none⟩ = some (.int .i64 cap) := (by rw [k0.cell]; rfl)
  have p1 : w1.cell? ⟨w.heap.size, 1, none⟩ = some (.slice A ps.length c) := (by rw [k0.cell]; rfl)
  have p2 : w1.cell? ⟨w.heap.size, 2, none⟩ = some (.slice A2 ts.length c2) := (by rw [k0.cell]; rfl)
  go_wp2_with fail
  refine (cW _ (HV.out.keep hY1)).mono ?_
  rintro e w2 ⟨rfl, hb2⟩
  have hY2 := hY1.trans (hb2.mono hY1.size)
  replace k1 := k1.keep hb2
  obtain ⟨A3, c3, A4, c4, hbase, hblt, r0, r1, r2, hq⟩ := (hs1.keep hb2).toW.read
  have q0 : w2.cell? ⟨w.heap.size + 1, 0, none⟩ = some (.int .i64 0) := (by rw [k1.cell]; rfl)
  have qf0 : w2.frozen? ⟨w.heap.size + 1, 0, none⟩ = false := k1.free 0
  have q1 : w2.cell? ⟨w.heap.size + 1, 1, none⟩ = some (.slice none 0 0) := (by rw [k1.cell]; rfl)
  have qf1 : w2.frozen? ⟨w.heap.size + 1, 1, none⟩ = false := k1.free 1
  have q2 : w2.cell? ⟨w.heap.size + 1, 2, none⟩ = some (.slice none 0 0) := (by rw [k1.cell]; rfl)
  have qf2 : w2.frozen? ⟨w.heap.size + 1, 2, none⟩ = false := k1.free 2
  have HQ := Lib.hid hq
  have HK := Lib.hid k1
  clear k0 k1 hs1 hq p0 p1 p2 hb1 hb2
  simp at hbase
  go_wp2
  refine bodyPost_ret (v := .tuple #[.agg #[.int .i64 cap, .slice A3 ps.length c3, .slice A4 ts.length c4], .int .i64 er]) (by simp [results, Try.results15, go_sem, q0, q1, q2]) rfl ⟨_, rfl, ?_, ?_⟩
  · exact (((HQ.out.boxed HK.out 0 _).boxed (HK.out.set_ 0 _) 1 _).boxed ((HK.out.set_ 0 _).set_ 1 _) 2 _).mono (by simp; omega)
  · exact ((hY2.setCell (by simp) _).setCell (by simp) _).setCell (by simp) _
  

theorem allocX_len {cap : Int} {ps : List Pg} : (allocX cap ps).2.2.length ≤ ps.length + 1 := by
  unfold allocX allocL
  split
  · split
    · split <;> simp
    · simp
  · simp

theorem tWrite_any (v : Value) (cap : Int) (ps : List Pg) (ts : List (List Int)) (t a u : Int) (w : World) (hv : HpV w v cap ps ts) (hn : ps.length ≤ 900) (hm : ts.length ≤ 1000) (hl : ∀ t ∈ ts, t.length ≤ 1000) :
    Calls Try.prog 15 #[v, .int .i64 t, .int .i64 a, .int .i64 u] w (HeapRes2 cap (writeH cap ps ts t a u).1 (writeH cap ps ts t a u).2.1 (writeH cap ps ts t a u).2.2 w) := by
  obtain ⟨A, c, A2, c2, rfl, hv⟩ := hv.form
  by_cases h0 : whyH cap ps ts t a = 0
  · obtain ⟨hmy, k, rfl, hk, htab, hne, ha0, ha1⟩ := why_ok h0
    have hok := may_tab hmy k hk
    have h4 : ts[k].length = 4 := by have := okTb_len hok; omega
    obtain ⟨n, rfl⟩ : ∃ n : Nat, a = (n : Int) := ⟨a.toNat, by omega⟩
    have hn4 : n / 4 < ts[k].length := by omega
    have hpl : plAt ts (k : Int) (n : Int) = ts[k][n / 4] := by unfold plAt; rw [htab, Int.toNat_natCast, List.getD_eq_getElem?_getD, List.getElem?_eq_getElem hn4]; rfl
    rcases okTb_pl hok (n / 4) hn4 with hp | ⟨q, hp, hq⟩
    · rw [hp] at hpl
      rcases hal : allocX cap ps with ⟨at1, er1, ps1⟩
      have hl1 : ps1.length ≤ 1000 := by have := allocX_len (cap := cap) (ps := ps); rw [hal] at this; simp at this; omega
      by_cases e1 : er1 = 0
      · subst e1
        rcases hwr : writeL cap ps1 at1 ((n : Int) % 4) u with ⟨at2, er2, ps2⟩
        by_cases e2 : er2 = 0
        · subst e2
          rw [show writeH cap ps ts (k : Int) (n : Int) u = (0, ps2, ts.set k (ts[k].set (n / 4) at2)) from by
            simp only [writeH, h0, hpl, firstH, hal, hwr, if_true, htab, Int.toNat_natCast]]
          exact wr_mok A A2 c c2 cap ps ts k n u w hv hn hm hl h0 hk h4 (by omega) at1 at2 ps1 ps2 hp hal hwr hl1
        · rw [show writeH cap ps ts (k : Int) (n : Int) u = (er2, ps, ts) from by
            simp only [writeH, h0, hpl, firstH, hal, hwr, if_true, if_neg e2]]
          exact wr_merr A A2 c c2 cap ps ts k n u w hv hn hm hl h0 hk h4 (by omega) at1 at2 er2 ps1 ps2 (by rw [bne_iff_ne]; exact e2) hp hal hwr hl1
      · rw [show writeH cap ps ts (k : Int) (n : Int) u = (er1, ps, ts) from by
          simp only [writeH, h0, hpl, firstH, hal, if_true, if_neg e1]]
        exact wr_aerr A A2 c c2 cap ps ts k n u w hv hn hm hl h0 hk h4 (by omega) at1 er1 ps1 (by rw [bne_iff_ne]; exact e1) hp hal
    · rw [hp] at hpl
      have hq1 : ¬ ((q : Int) = -1) := by omega
      rcases hwr : writeL cap ps (q : Int) ((n : Int) % 4) u with ⟨at2, er2, ps2⟩
      by_cases e2 : er2 = 0
      · subst e2
        rw [show writeH cap ps ts (k : Int) (n : Int) u = (0, ps2, ts.set k (ts[k].set (n / 4) at2)) from by
          simp only [writeH, h0, hpl, firstH, if_neg hq1, hwr, if_true, htab, Int.toNat_natCast]]
        exact wr_ok A A2 c c2 cap ps ts k n u w hv hn hm hl h0 hk h4 (by omega) q at2 ps2 hp hwr
      · rw [show writeH cap ps ts (k : Int) (n : Int) u = (er2, ps, ts) from by
          simp only [writeH, h0, hpl, firstH, if_neg hq1, hwr, if_true, if_neg e2]]
        exact wr_err A A2 c c2 cap ps ts k n u w hv hn hm hl h0 hk h4 (by omega) q at2 er2 ps2 (by rw [bne_iff_ne]; exact e2) hp hwr
  · rw [show writeH cap ps ts t a u = (whyH cap ps ts t a, ps, ts) from by simp only [writeH, if_neg h0]]
    exact wr_why A A2 c c2 cap ps ts t a u _ w hv hn hm hl rfl (by rw [bne_iff_ne]; exact h0)
end Go.Proofs.Ytoogobenjhmjjaa
