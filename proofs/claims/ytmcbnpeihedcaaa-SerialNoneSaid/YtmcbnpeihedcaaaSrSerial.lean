/- serial.Serial. -/
import Derived.Test.YtmcbnpeihedcaaaSrAgree
import Derived.Maps.OwnIn
import Derived.Maps.Views
namespace Go.Proofs.Ytmcbnpeihedcaaa
open Go Go.RowKit Go.Shelf
open Go.Maps (Keyed)
set_option linter.unusedVariables false
attribute [local go_sem] Oper.semAt_some

/-- A map int → bool that is true at these keys. -/
def MapB (W : World) (b : Nat) (l : List Int) : Prop :=
  ∃ D : DataW Unit, W.ownsMap Try.prog 3 (plainElem (H := Unit) Try.prog 4) b l.length D ∧ Maps.IsMap D ∧ ∀ y : Int, (Lit.int .i64 y).wf = true → D.atKey (.int .i64 y) (.lit (.bool false)) = .lit (.bool (l.contains y))
theorem keyedI : Keyed Try.prog 3 := Maps.int_keyed Try.underlying3
theorem MapB.made (w : World) : MapB (w.alloc (.map #[] 0)) w.heap.size [] :=
  ⟨_, World.ownsMap_made _ _ _ _, Maps.isMap_empty, fun y _ => rfl⟩
theorem MapB.kept {W W' : World} {b : Nat} {l : List Int} {row : Option Nat} (h : MapB W b l) (hg : W.grownBy W' row) (hne : some b ≠ row) : MapB W' b l := by
  obtain ⟨D, h1, h2⟩ := h
  exact ⟨D, h1.kept hg hne, h2⟩
theorem MapB.lt {W : World} {b : Nat} {l : List Int} (h : MapB W b l) : b < W.heap.size := by
  obtain ⟨D, h1, h2⟩ := h
  exact h1.lt
theorem MapB.keep {W W' : World} {b B : Nat} {l : List Int} (h : MapB W b l) (hb : Below B W W') (hB : b < B) : MapB W' b l := by
  obtain ⟨D, ⟨es, clock, h1, h2, h3⟩, h4⟩ := h
  exact ⟨D, ⟨es, clock, (hb.block b hB).trans h1, h2, h3⟩, h4⟩
theorem mapB_from {β : Type} {B b : Nat} (f : β → List Int) (hB : b < B) : OwnFrom B (fun s W => MapB W b (f s)) := by
  intro s W W' row hs hg hr
  refine hs.kept hg ?_
  intro e
  have := (hr _ e.symm).1
  omega
theorem zeroB (w : World) : (zeroValue 4).run Try.prog w = .ok (.bool false) w := by kernel_rfl
theorem plainElem_bool_inv {P : Program} {e : TypeId} (he : P.underlying e = some .bool) {v : Value} {z : DataW Unit × List MemPlace} (h : plainElem P e v = some z) : ∃ a, v = .bool a ∧ z = (.lit (.bool a), []) := by
  unfold plainElem at h
  rw [he] at h
  cases v <;> simp at h
  subst h
  exact ⟨_, rfl, rfl⟩
theorem MapB.look {W : World} {b : Nat} {l : List Int} (h : MapB W b l) {y : Int} (hy : (Lit.int .i64 y).wf = true) :
    (Instr.lookup 56 (.map (some b)) (.int .i64 y) false).run Try.prog W = .ok (.bool (l.contains y)) W := by
  obtain ⟨D, h1, h2, h3⟩ := h
  obtain ⟨v, ps, hrun, hv⟩ := h1.lookup keyedI Try.underlying56 (zeroB W) (plainElem_bool Try.underlying4 false) (Maps.keyOf_int_mk Try.underlying3 hy)
  obtain ⟨a, rfl, hz⟩ := plainElem_bool_inv Try.underlying4 hv
  rw [h3 y hy] at hz
  simp only [Prod.mk.injEq, DataW.lit.injEq, Lit.bool.injEq] at hz
  rw [hrun, hz.1]
theorem MapB.put {W' : World} {b : Nat} {l : List Int} {D : DataW Unit} {y : Int} (hy : (Lit.int .i64 y).wf = true) (h2 : Maps.IsMap D)
    (h3 : ∀ y : Int, (Lit.int .i64 y).wf = true → D.atKey (.int .i64 y) (.lit (.bool false)) = .lit (.bool (l.contains y)))
    (h : W'.ownsMap Try.prog 3 (plainElem (H := Unit) Try.prog 4) b (l.length + 1) (D.put (.int .i64 y) (.lit (.bool true)))) : MapB W' b (l ++ [y]) := by
  refine ⟨_, by simpa using h, h2.put _ _, fun z hz => ?_⟩
  by_cases e : z = y
  · subst e
    rw [Maps.atKey_put_same (k := .int .i64 z) h2 True.intro]
    simp
  · rw [Maps.atKey_put_other (by intro h; injection h; exact e ‹_›), h3 z hz]
    simp [e]

/-- Does a try not fit behind these? -/
def badS (n : Int) (h pre : List Rx) (x : Rx) : Bool := (pre.map Rx.wv).contains x.wv || (decide (x.wv ≤ x.rv) || !agreeL x.R (stateL n h (IntKind.i64.wrap (x.wv - 1))))
def serF (n : Int) (h : List Rx) : List Rx → List Rx → Bool
  | _, [] => true
  | pre, x :: xs => !badS n h pre x && serF n h (pre ++ [x]) xs
def serialL (n : Int) (h : List Rx) : Bool := serF n h [] (wsOf h)
theorem serF_append (n : Int) (h : List Rx) : ∀ (a pre b : List Rx), serF n h pre (a ++ b) = (serF n h pre a && serF n h (pre ++ a) b)
  | [], pre, b => by simp [serF]
  | x :: a, pre, b => by
    rw [List.cons_append, serF, serF, serF_append n h a]
    rw [Bool.and_assoc, List.append_assoc]
    rfl
theorem serF_snoc (n : Int) (h a : List Rx) (x : Rx) : serF n h [] (a ++ [x]) = (serF n h [] a && !badS n h a x) := by
  rw [serF_append]; simp [serF]
theorem serF_upto (n : Int) (h ws : List Rx) (k : Nat) (hk : serF n h [] (ws.take k) = false) : serF n h [] ws = false := by
  rw [← List.take_append_drop k ws, serF_append, hk]; rfl

set_option maxRecDepth 100000 in
theorem results_cellb {W : World} {g : Nat} {b : Bool} (tmps : Array Value) (hp : tmps.getD 4 undef = .pointer (some ⟨g, 0, none⟩)) (hc : W.cell? ⟨g, 0, none⟩ = some (.bool b)) : (results Try.f12 tmps).run Try.prog W = .ok (.bool b) W := by
  have hp' : tmps[4]?.getD undef = .pointer (some ⟨g, 0, none⟩) := by simpa using hp
  have hr : Try.f12.results = #[.cell 4 4] := rfl
  simp [results, hr, hp', asAddr]
  have h2 : (loadVar 4 ⟨g, 0, none⟩).run Try.prog W = .ok (.bool b) W := by
    simp only [loadVar]
    go_simp
  rw [h2]

/-- Between two rounds. -/
def SeI (w : World) (n : Int) (v : Value) (Z : Nat) {h : List Rx} (pre : List { x : Rx // x ∈ wsOf h }) (W : World) : Prop :=
  (Blk W w.heap.size 3 #[.int .i64 n] ∧ Blk W (w.heap.size + 1) 22 #[v] ∧ Blk W (w.heap.size + 2) 4 #[.bool false] ∧ Blk W (w.heap.size + 4) 56 #[.map (some (w.heap.size + 3))] ∧ MapB W (w.heap.size + 3) ((pre.map Subtype.val).map Rx.wv)) ∧
    Below w.heap.size w W ∧ Z ≤ W.heap.size ∧ serF n h [] (pre.map Subtype.val) = true
/-- A round has left: the last try does not fit. -/
def SeX (w : World) (n : Int) {h : List Rx} (c : Code) (pre : List { x : Rx // x ∈ wsOf h }) (W : World) : Prop :=
  Blk W (w.heap.size + 2) 4 #[.bool false] ∧ Below w.heap.size w W ∧ (c = .ret ∧ serF n h [] (pre.map Subtype.val) = false)
theorem seI_own {w : World} {n : Int} {v : Value} {Z : Nat} {h : List Rx} {B : Nat} (h1 : w.heap.size + 4 ≤ B) : OwnFrom B (SeI w n v Z (h := h)) :=
  OwnFrom.and (OwnFrom.and ((blk_own (fun _ => w.heap.size) (fun _ => _) (fun _ => _)).from B) (OwnFrom.and ((blk_own (fun _ => w.heap.size + 1) (fun _ => _) (fun _ => _)).from B) (OwnFrom.and ((blk_own (fun _ => w.heap.size + 2) (fun _ => _) (fun _ => _)).from B) (OwnFrom.and ((blk_own (fun _ => w.heap.size + 4) (fun _ => _) (fun _ => _)).from B) (mapB_from (fun pre : List { x : Rx // x ∈ wsOf h } => (pre.map Subtype.val).map Rx.wv) (by omega))))))
    (OwnFrom.and (ownFrom_below (Nat.le_refl _) (by omega)) (OwnFrom.and (fun s W W' row hs hg _ => Nat.le_trans hs hg.size) (ownFrom_pure B (fun pre : List { x : Rx // x ∈ wsOf h } => serF n h [] (pre.map Subtype.val) = true))))
theorem seX_own {w : World} {n : Int} {h : List Rx} {B : Nat} (h1 : w.heap.size ≤ B) (c : Code) : OwnFrom B (SeX w n (h := h) c) :=
  OwnFrom.and ((blk_own (fun _ => w.heap.size + 2) (fun _ => _) (fun _ => _)).from B)
    (OwnFrom.and (ownFrom_below (Nat.le_refl _) h1) (ownFrom_pure B (fun pre : List { x : Rx // x ∈ wsOf h } => c = .ret ∧ serF n h [] (pre.map Subtype.val) = false)))

theorem se_stop {w W X : World} {n : Int} {v : Value} {Z : Nat} {h : List Rx} {pre : List { x : Rx // x ∈ wsOf h }} {x : { x : Rx // x ∈ wsOf h }} (hI : SeI w n v Z pre W) (hX : Below W.heap.size W X) (hb : badS n h (pre.map Subtype.val) x.1 = true) :
    KeepsFrom Z W (X.setCell ⟨w.heap.size + 1 + 1, 0, none⟩ (.bool false)) ∧ SeX w n .ret (pre ++ [x]) (X.setCell ⟨w.heap.size + 1 + 1, 0, none⟩ (.bool false)) := by
  obtain ⟨⟨j0, j1, j2, j4, j3⟩, jB, jZ, jP⟩ := hI
  refine ⟨(keeps_below jZ hX).trans (keeps_setCell _ _ _ _), ?_, (jB.trans (hX.mono jB.size)).setCell (by simp; omega) _, rfl, ?_⟩
  · have h5 := (j2.keep hX).set_ 0 (.bool false)
    exact h5
  · rw [List.map_append, List.map_cons, List.map_nil, serF_snoc, jP, hb]; rfl
theorem se_next {w W X Y : World} {n : Int} {v : Value} {lo Z : Nat} {h : List Rx} {pre : List { x : Rx // x ∈ wsOf h }} {x : { x : Rx // x ∈ wsOf h }} (hlo : w.heap.size + 4 ≤ lo) (hZ : w.heap.size + 5 ≤ Z) (hI : SeI w n v Z pre W) (hX : Below W.heap.size W X) (hb : badS n h (pre.map Subtype.val) x.1 = false)
    (hg : X.grownBy Y (some (w.heap.size + 3))) (hM : MapB Y (w.heap.size + 3) ((pre.map Subtype.val).map Rx.wv ++ [x.1.wv])) : KeepsFrom Z W Y ∧ KpM lo Z W Y ∧ SeI w n v Z (pre ++ [x]) Y := by
  obtain ⟨⟨j0, j1, j2, j4, j3⟩, jB, jZ, jP⟩ := hI
  have k1 : w.heap.size + 3 < X.heap.size := Nat.lt_of_lt_of_le j3.lt hX.size
  have hh : Below w.heap.size w Y := (jB.trans (hX.mono jB.size)).grown hg (by have := jB.size; have := hX.size; omega) (fun k e => by cases e; omega)
  have hne : ∀ g, g ≠ w.heap.size + 3 → g < X.heap.size → Y.heap[g]? = X.heap[g]? := fun g h1 h2 => hg.block g h2 (fun e => by cases e; exact h1 rfl)
  refine ⟨(keeps_below jZ hX).trans (KeepsFrom.of_grownBy hg (fun j e => by cases e; omega)), ⟨Nat.le_trans hX.size hg.size, fun k h1 h2 => (hne k (by omega) (by have := hX.size; omega)).trans (hX.block k (by omega))⟩, ⟨?_, ?_, ?_, ?_, ?_⟩, hh, Nat.le_trans jZ (Nat.le_trans hX.size hg.size), ?_⟩
  · exact (hne _ (by omega) (j0.keep hX).lt).trans (j0.keep hX)
  · exact (hne _ (by omega) (j1.keep hX).lt).trans (j1.keep hX)
  · exact (hne _ (by omega) (j2.keep hX).lt).trans (j2.keep hX)
  · exact (hne _ (by omega) (j4.keep hX).lt).trans (j4.keep hX)
  · rw [List.map_append, List.map_append]; exact hM
  · rw [List.map_append, List.map_cons, List.map_nil, serF_snoc, jP, hb]; rfl

set_option maxRecDepth 100000 in
set_option maxHeartbeats 4000000 in
theorem serial_any (n : Int) (v : Value) (h : List Rx) (w : World) (hv : RecsV w v h) (hl : h.length ≤ 100000) (hwf : ∀ x ∈ h, (Lit.int .i64 x.wv).wf = true) :
    Calls Try.prog 12 #[.int .i64 n, v] w fun e w' => e = .returned (.bool (serialL n h)) ∧ Below w.heap.size w w' := by
  obtain ⟨A, c, rfl, _, _⟩ := hv.1.form
  obtain ⟨m, hm⟩ : ∃ m, m = h.length := ⟨_, rfl⟩
  have HV := Lib.hid hv
  have cW := fun W h' => writers_any (.slice A h.length c) h W (hv.below h') hl
  have CS := Lib.hid (fun ver W h' => state_any n ver (.slice A h.length c) h W (hv.below h') hl)
  have hin : ∀ x ∈ wsOf h, x ∈ h := fun x hx => by unfold wsOf at hx; rw [srtK_mem] at hx; exact (List.mem_filter.1 hx).1
  have HOK := Lib.hid (fun x (hx : x ∈ wsOf h) => And.intro (hv.2 x (hin x hx)) (hwf x (hin x hx)))
  have hwl : (wsOf h).length ≤ 100000 := by unfold wsOf; rw [srtK_len]; exact Nat.le_trans (List.length_filter_le _ _) hl
  have CW := Lib.hid cW
  have hmm := @run_makeMap Try.prog
  have hb : Below w.heap.size w (((((w.alloc (.cells #[.int .i64 n] 3)).alloc (.cells #[.slice A h.length c] 22)).alloc (.cells #[.bool false] 4)).alloc (.map #[] 0)).alloc (.cells #[.map (some (w.heap.size + 3))] 56)) := (((((Below.refl _ w).alloc (Nat.le_refl _) _).alloc (by simp) _).alloc (by simp; omega) _).alloc (by simp; omega) _).alloc (by simp; omega) _
  have HB := Lib.hid hb
  clear hv cW hin hb
  rw [← hm] at CW CS HB
  rw [← hm]
  have HM := Lib.hid hm
  clear hm
  refine (callsIn_wide (n := 6)).1 ?_
  refine callsIn_of_wp_marks Try.func12 rfl trivial ?_ rfl
  simp only [Try.ntmps12, List.size_toArray, List.length_cons, List.length_nil, Nat.reduceAdd, Nat.reduceSub, Array.replicate_succ, Array.replicate_zero, List.push_toArray, List.append_toArray, List.nil_append, List.cons_append]
  gi_wp2_with fail
  refine ⟨trivial, (callsIn_wide.2 (CW.out _ HB.out)).mono ?_⟩
  rintro e w1 ⟨v1, rfl, hW1, hB1⟩
  gi_wp2_with fail
  obtain ⟨Bx, sv, rfl, hBx, hBl, hOw⟩ := hW1
  obtain ⟨W0, hW0⟩ : ∃ W0, (((((w.alloc (.cells #[.int .i64 n] 3)).alloc (.cells #[.slice A m c] 22)).alloc (.cells #[.bool false] 4)).alloc (.map #[] 0)).alloc (.cells #[.map (some (w.heap.size + 3))] 56)) = W0 := ⟨_, rfl⟩
  have hsz : W0.heap.size = w.heap.size + 5 := by rw [← hW0]; simp
  have q0 : Blk W0 w.heap.size 3 #[.int .i64 n] := hW0 ▸ ((((Blk.new_ w _ _ _ rfl).alloc _).alloc _).alloc _).alloc _
  have q1 : Blk W0 (w.heap.size + 1) 22 #[.slice A m c] := hW0 ▸ (((Blk.new_ _ _ _ _ (by simp)).alloc _).alloc _).alloc _
  have q2 : Blk W0 (w.heap.size + 2) 4 #[.bool false] := hW0 ▸ ((Blk.new_ _ _ _ _ (by simp)).alloc _).alloc _
  have q3 : MapB W0 (w.heap.size + 3) [] := hW0 ▸ (by
    have := MapB.made (((w.alloc (.cells #[.int .i64 n] 3)).alloc (.cells #[.slice A m c] 22)).alloc (.cells #[.bool false] 4))
    rw [show ((((w.alloc (.cells #[.int .i64 n] 3)).alloc (.cells #[.slice A m c] 22)).alloc (.cells #[.bool false] 4))).heap.size = w.heap.size + 3 from by simp] at this
    exact this.kept (World.grownBy_alloc _ _ none) (by simp))
  have q4 : Blk W0 (w.heap.size + 4) 56 #[.map (some (w.heap.size + 3))] := hW0 ▸ Blk.new_ _ _ _ _ (by simp)
  have hBe := HB.out
  rw [hW0] at hBe hB1 hBx hOw
  have HI0 := Lib.hid (show SeI w n (.slice A m c) w1.heap.size (h := h) [] w1 from ⟨⟨q0.keep hB1, q1.keep hB1, q2.keep hB1, q4.keep hB1, q3.keep hB1 (by omega)⟩, hBe.trans (hB1.mono hBe.size), Nat.le_refl _, rfl⟩)
  have hz1 : w.heap.size + 5 ≤ w1.heap.size := by have := hB1.size; omega
  have hmap : ((wsOf h).attach.map Subtype.val) = wsOf h := List.attach_map_subtype_val _
  have hOw' : w1.ownsRow W0.heap.size 27 10 sv (wsOf h).attach.length (((wsOf h).attach.map Subtype.val).flatMap encRx) := by rw [hmap, List.length_attach]; exact hOw
  have HOw := Lib.hid hOw'
  have HBl := Lib.hid hBl
  clear q0 q1 q2 q3 q4 hBe hB1 hOw hOw' hBl hmap
  refine wpIn_rangeFunc_ownH rfl (by omega) (gf := 50) (lb := #[.pointer (some ⟨Bx, 0, none⟩)]) rfl trivial (enters_of Try.func50 (by kernel_rfl) rfl)
    (values_stops Subtype.val Fence.wide 5 trivial rfl (by omega) Bx W0.heap.size w1.heap.size sv (wsOf h).attach (by rw [List.length_attach]; exact hwl) w1 rfl HBl.out HOw.out) KpM.trans (fun W l o o' hl ho _ _ => KpM.putObj ho (Nat.le_refl _) hl o') (Below.refl _ _) (fun _ => rfl)
    (SeI w n (.slice A m c) w1.heap.size) (SeX w n) (seI_own (by omega)) (seX_own (by omega)) HI0.out
    (fun x a' W => ∃ B8, w1.heap.size ≤ B8 ∧ Blk W B8 27 (encRx x.1).toArray ∧ a' = { tmps := #[.int .i64 n, .slice A m c, .pointer (some ⟨w.heap.size, 0, none⟩), .pointer (some ⟨w.heap.size + 1, 0, none⟩), .pointer (some ⟨w.heap.size + 1 + 1, 0, none⟩), .pointer (some ⟨w.heap.size + 1 + 1 + 1 + 1, 0, none⟩), .pointer (some ⟨B8, 0, none⟩), .map (some (w.heap.size + 1 + 1 + 1)), .slice A m c, .func (.func 50) #[] #[.pointer (some ⟨Bx, 0, none⟩)], .agg (encRx x.1).toArray, undef, undef, undef, undef, undef, undef, undef, undef, undef, undef, undef, undef, undef, undef, undef, undef, undef, undef, undef, undef, undef, undef, undef, undef, undef, undef], defers := [] })
    ?hAx ?assign ?body ?done ?stop
  case hAx =>
    rintro x a' s W W' row ⟨B8, h1, h2, h3⟩ hg hr
    exact ⟨B8, h1, blk_own (β := Unit) (fun _ => B8) (fun _ => _) (fun _ => _) () W W' row h2 hg (fun r e => (hr r e).2), h3⟩
  case assign =>
    intro l pre x W K hi hK
    have hzW : w1.heap.size ≤ W.heap.size := hi.2.2.1
    simp only [encRx] at hK ⊢
    gi_wp2
    refine hK _ _ ((KeepsOthers.alloc _ _).from _) (KpM.alloc hzW _) ?_ ⟨W.heap.size, hzW, Blk.new _ _ _, rfl⟩
    obtain ⟨⟨j0, j1, j2, j4, j3⟩, jB, jZ, jP⟩ := hi
    exact ⟨⟨j0.alloc _, j1.alloc _, j2.alloc _, j4.alloc _, j3.kept (World.grownBy_alloc _ _ none) (by simp)⟩, jB.alloc jB.size _, by simp; omega, jP⟩
  case body =>
    rintro l pre x a' W hl ⟨r, hr⟩ hI ⟨B8, hB8, hX8, rfl⟩ hlen
    have HI := Lib.hid hI
    obtain ⟨⟨j0, j1, j2, j4, j3⟩, jB, jZ, jP⟩ := hI
    have f1 : W.cell? ⟨w.heap.size + 1, 0, none⟩ = some (.slice A m c) := by rw [j1.cell]; rfl
    have f0 : W.cell? ⟨w.heap.size, 0, none⟩ = some (.int .i64 n) := by rw [j0.cell]; rfl
    have f4 : W.cell? ⟨w.heap.size + 1 + 1 + 1 + 1, 0, none⟩ = some (.map (some (w.heap.size + 1 + 1 + 1))) := by rw [j4.cell]; rfl
    have x4 : W.cell? ⟨B8, 4, none⟩ = some (.int .i64 x.1.rv) := by rw [hX8.cell]; rfl
    have x5 : W.cell? ⟨B8, 5, none⟩ = some (.int .i64 x.1.wv) := by rw [hX8.cell]; rfl
    have x6 : W.cell? ⟨B8, 6, none⟩ = some (.slice x.1.rA x.1.R.length x.1.rc) := by rw [hX8.cell]; rfl
    have l0 := j0.lt
    have l1 := j1.lt
    have l4 : w.heap.size + 1 + 1 + 1 + 1 < W.heap.size := j4.lt
    have l8 := hX8.lt
    have hwx := (HOK.out x.1 x.2).2
    have HLOOK := Lib.hid (fun W' (hb : Below W.heap.size W W') => (j3.keep hb j3.lt).look hwx)
    have HA := Lib.hid (fun lv l W' (hb : Below W.heap.size W W') h2 => agree_any (.slice x.1.rA x.1.R.length x.1.rc) lv x.1.R l W' (((HOK.out x.1 x.2).1.below jB).1.below hb) h2)
    have HS := Lib.hid (fun ver W' (hb : Below W.heap.size W W') => CS.out ver W' (jB.trans (hb.mono jB.size)))
    have HX8 := Lib.hid hX8
    have HJB := Lib.hid jB
    obtain ⟨bd, hbd⟩ : ∃ bd, bd = badS n h (pre.map Subtype.val) x.1 := ⟨_, rfl⟩
    have HBD := Lib.hid hbd
    unfold badS at hbd
    obtain ⟨q, hq⟩ : ∃ q, q = ((pre.map Subtype.val).map Rx.wv).contains x.1.wv := ⟨_, rfl⟩
    rw [← hq] at hbd HLOOK
    obtain ⟨g, hg⟩ : ∃ g, g = agreeL x.1.R (stateL n h (IntKind.i64.wrap (x.1.wv - 1))) := ⟨_, rfl⟩
    rw [← hg] at hbd
    have HG := Lib.hid hg
    have HJ2 := Lib.hid (fun W' (hb : Below W.heap.size W W') => (show W'.cell? ⟨w.heap.size + 1 + 1, 0, none⟩ = some (.bool false) from by rw [(j2.keep hb).cell]; rfl))
    have HJF := Lib.hid (fun W' (hb : Below W.heap.size W W') => (j2.keep hb).free)
    have HM3 := Lib.hid (fun W' (hb : Below W.heap.size W W') => j3.keep hb j3.lt)
    have HKEY := Lib.hid (Maps.keyOf_int_mk Try.underlying3 hwx)
    have HWX := Lib.hid hwx
    have HLO := Lib.hid (show w.heap.size + 4 ≤ W0.heap.size from by omega)
    have HLT := Lib.hid (show ((pre.map Subtype.val).map Rx.wv).length < maxLen from by rw [List.length_map, List.length_map]; rw [List.length_attach] at hlen; unfold maxLen; omega)
    clear j0 j1 j3 j2 j4 jB jP hX8 hwx hq hg
    have HF := Lib.hid (And.intro f4 (And.intro x5 (And.intro x4 (And.intro x6 (And.intro f0 f1)))))
    cases q with
    | true =>
      rw [Bool.true_or] at hbd
      have hlk := HLOOK.out W (Below.refl _ _)
      gi_wp2_with fail
      refine wpIn_region_held_round (S := fun w' => w'.cell? ⟨w.heap.size + 1 + 1 + 1 + 1, 0, none⟩ = some (.map (some (w.heap.size + 1 + 1 + 1))) ∧ w'.cell? ⟨B8, 5, none⟩ = some (.int .i64 x.1.wv) ∧ (Instr.lookup 56 (.map (some (w.heap.size + 1 + 1 + 1))) (.int .i64 x.1.wv) false).run Try.prog w' = .ok (.bool true) w') (by kernel_rfl) (by kernel_rfl) ?_ (fun hHeldbr => ?_)
      · exact ⟨f4, x5, HLOOK.out _ ((Below.refl _ _).drew)⟩
      refine wpAnyH_take (i := 0) (oi := { dst := some 11, op := Op.load 56 (Operand.tmp 5), type := 56, pos := "serial.go:56", after := _, guard := none }) (v := ?vbr0) rfl (by kernel_rfl) (by kernel_rfl) (by kernel_rfl) (fun _ _ _ h => h) (Or.inl ⟨by rfl, ?hybr0⟩) (by assumption) ?restbr0
      case hybr0 => (intro w hSw; (try dsimp only at hSw); go_simp <;> with_reducible rfl)
      try simp only [Act.put, List.setIfInBounds_toArray, List.set_cons_zero, List.set_cons_succ]
      refine wpAnyH_take (i := 1) (oi := { dst := some 12, op := Op.fieldAddr 27 (Operand.tmp 6) 5, type := 0, pos := "serial.go:56", after := _, guard := none }) (v := ?vbr1) rfl (by kernel_rfl) (by kernel_rfl) (by kernel_rfl) (fun _ _ _ h => h) (Or.inl ⟨by rfl, ?hybr1⟩) (by assumption) ?restbr1
      case hybr1 => (intro w hSw; (try dsimp only at hSw); go_simp <;> with_reducible rfl)
      try simp only [Act.put, List.setIfInBounds_toArray, List.set_cons_zero, List.set_cons_succ]
      refine wpAnyH_take (i := 2) (oi := { dst := some 13, op := Op.load 3 (Operand.tmp 12), type := 3, pos := "serial.go:56", after := _, guard := none }) (v := ?vbr2) rfl (by kernel_rfl) (by kernel_rfl) (by kernel_rfl) (fun _ _ _ h => h) (Or.inl ⟨by rfl, ?hybr2⟩) (by assumption) ?restbr2
      case hybr2 => (intro w hSw; (try dsimp only at hSw); go_simp <;> with_reducible rfl)
      try simp only [Act.put, List.setIfInBounds_toArray, List.set_cons_zero, List.set_cons_succ]
      refine wpAnyH_take (i := 3) (oi := { dst := some 14, op := Op.lookup 56 (Operand.tmp 11) (Operand.tmp 13) false, type := 4, pos := "serial.go:56", after := _, guard := none }) (v := ?vbr3) rfl (by kernel_rfl) (by kernel_rfl) (by kernel_rfl) (fun _ _ _ h => h) (Or.inl ⟨by rfl, ?hybr3⟩) (by assumption) ?restbr3
      case hybr3 => (intro w hSw; (try dsimp only at hSw); go_simp <;> with_reducible rfl)
      try simp only [Act.put, List.setIfInBounds_toArray, List.set_cons_zero, List.set_cons_succ]
      refine wpAnyH_take (i := 4) (oi := { dst := some 15, op := Op.move (Operand.tmp 14), type := 4, pos := "serial.go:56", after := _, guard := none }) (v := ?vbr4) rfl (by kernel_rfl) (by kernel_rfl) (by kernel_rfl) (fun _ _ _ h => h) (Or.inl ⟨by rfl, ?hybr4⟩) (by assumption) ?restbr4
      case hybr4 => (intro w hSw; (try dsimp only at hSw); go_simp <;> with_reducible rfl)
      try simp only [Act.put, List.setIfInBounds_toArray, List.set_cons_zero, List.set_cons_succ]
      refine wpAnyH_take (i := 5) (oi := { dst := some 16, op := Op.fieldAddr 27 (Operand.tmp 6) 5, type := 0, pos := "serial.go:56", after := _, guard := some (4, false) }) rfl (by kernel_rfl) (by kernel_rfl) (by kernel_rfl) (fun _ _ _ h => h) (Or.inr ⟨by rfl, rfl⟩) (by assumption) ?_
      try simp only [Act.put, List.setIfInBounds_toArray, List.set_cons_zero, List.set_cons_succ]
      refine wpAnyH_take (i := 6) (oi := { dst := some 17, op := Op.load 3 (Operand.tmp 16), type := 3, pos := "serial.go:56", after := _, guard := some (4, false) }) rfl (by kernel_rfl) (by kernel_rfl) (by kernel_rfl) (fun _ _ _ h => h) (Or.inr ⟨by rfl, rfl⟩) (by assumption) ?_
      try simp only [Act.put, List.setIfInBounds_toArray, List.set_cons_zero, List.set_cons_succ]
      refine wpAnyH_take (i := 7) (oi := { dst := some 18, op := Op.fieldAddr 27 (Operand.tmp 6) 4, type := 0, pos := "serial.go:56", after := _, guard := some (4, false) }) rfl (by kernel_rfl) (by kernel_rfl) (by kernel_rfl) (fun _ _ _ h => h) (Or.inr ⟨by rfl, rfl⟩) (by assumption) ?_
      try simp only [Act.put, List.setIfInBounds_toArray, List.set_cons_zero, List.set_cons_succ]
      refine wpAnyH_take (i := 8) (oi := { dst := some 19, op := Op.load 3 (Operand.tmp 18), type := 3, pos := "serial.go:56", after := _, guard := some (4, false) }) rfl (by kernel_rfl) (by kernel_rfl) (by kernel_rfl) (fun _ _ _ h => h) (Or.inr ⟨by rfl, rfl⟩) (by assumption) ?_
      try simp only [Act.put, List.setIfInBounds_toArray, List.set_cons_zero, List.set_cons_succ]
      refine wpAnyH_take (i := 9) (oi := { dst := some 20, op := Op.binOp BinOp.leq 3 (Operand.tmp 17) (Operand.tmp 19) 3, type := 4, pos := "serial.go:56", after := _, guard := some (4, false) }) rfl (by kernel_rfl) (by kernel_rfl) (by kernel_rfl) (fun _ _ _ h => h) (Or.inr ⟨by rfl, rfl⟩) (by assumption) ?_
      try simp only [Act.put, List.setIfInBounds_toArray, List.set_cons_zero, List.set_cons_succ]
      refine wpAnyH_take (i := 10) (oi := { dst := some 21, op := Op.pick (Operand.tmp 15) (Operand.const (Value.bool true)) (Operand.tmp 20), type := 4, pos := "serial.go:56", after := _, guard := none }) (v := ?vbr10) rfl (by kernel_rfl) (by kernel_rfl) (by kernel_rfl) (fun _ _ _ h => h) (Or.inl ⟨by rfl, ?hybr10⟩) (by assumption) ?restbr10
      case hybr10 => (intro w hSw; (try dsimp only at hSw); go_simp <;> with_reducible rfl)
      try simp only [Act.put, List.setIfInBounds_toArray, List.set_cons_zero, List.set_cons_succ]
      refine wpAnyH_take (i := 11) (oi := { dst := some 22, op := Op.move (Operand.tmp 21), type := 4, pos := "serial.go:56", after := _, guard := none }) (v := ?vbr11) rfl (by kernel_rfl) (by kernel_rfl) (by kernel_rfl) (fun _ _ _ h => h) (Or.inl ⟨by rfl, ?hybr11⟩) (by assumption) ?restbr11
      case hybr11 => (intro w hSw; (try dsimp only at hSw); go_simp <;> with_reducible rfl)
      try simp only [Act.put, List.setIfInBounds_toArray, List.set_cons_zero, List.set_cons_succ]
      refine wpAnyH_take (i := 12) (oi := { dst := some 23, op := Op.fieldAddr 27 (Operand.tmp 6) 6, type := 0, pos := "serial.go:56", after := _, guard := some (11, false) }) rfl (by kernel_rfl) (by kernel_rfl) (by kernel_rfl) (fun _ _ _ h => h) (Or.inr ⟨by rfl, rfl⟩) (by assumption) ?_
      try simp only [Act.put, List.setIfInBounds_toArray, List.set_cons_zero, List.set_cons_succ]
      refine wpAnyH_take (i := 13) (oi := { dst := some 24, op := Op.load 25 (Operand.tmp 23), type := 25, pos := "serial.go:56", after := _, guard := some (11, false) }) rfl (by kernel_rfl) (by kernel_rfl) (by kernel_rfl) (fun _ _ _ h => h) (Or.inr ⟨by rfl, rfl⟩) (by assumption) ?_
      try simp only [Act.put, List.setIfInBounds_toArray, List.set_cons_zero, List.set_cons_succ]
      refine wpAnyH_take (i := 14) (oi := { dst := some 25, op := Op.load 3 (Operand.tmp 2), type := 3, pos := "serial.go:56", after := _, guard := some (11, false) }) rfl (by kernel_rfl) (by kernel_rfl) (by kernel_rfl) (fun _ _ _ h => h) (Or.inr ⟨by rfl, rfl⟩) (by assumption) ?_
      try simp only [Act.put, List.setIfInBounds_toArray, List.set_cons_zero, List.set_cons_succ]
      refine wpAnyH_take (i := 15) (oi := { dst := some 26, op := Op.load 22 (Operand.tmp 3), type := 22, pos := "serial.go:56", after := _, guard := some (11, false) }) rfl (by kernel_rfl) (by kernel_rfl) (by kernel_rfl) (fun _ _ _ h => h) (Or.inr ⟨by rfl, rfl⟩) (by assumption) ?_
      try simp only [Act.put, List.setIfInBounds_toArray, List.set_cons_zero, List.set_cons_succ]
      refine wpAnyH_take (i := 16) (oi := { dst := some 27, op := Op.fieldAddr 27 (Operand.tmp 6) 5, type := 0, pos := "serial.go:56", after := _, guard := some (11, false) }) rfl (by kernel_rfl) (by kernel_rfl) (by kernel_rfl) (fun _ _ _ h => h) (Or.inr ⟨by rfl, rfl⟩) (by assumption) ?_
      try simp only [Act.put, List.setIfInBounds_toArray, List.set_cons_zero, List.set_cons_succ]
      refine wpAnyH_take (i := 17) (oi := { dst := some 28, op := Op.load 3 (Operand.tmp 27), type := 3, pos := "serial.go:56", after := _, guard := some (11, false) }) rfl (by kernel_rfl) (by kernel_rfl) (by kernel_rfl) (fun _ _ _ h => h) (Or.inr ⟨by rfl, rfl⟩) (by assumption) ?_
      try simp only [Act.put, List.setIfInBounds_toArray, List.set_cons_zero, List.set_cons_succ]
      refine wpAnyH_take (i := 18) (oi := { dst := some 29, op := Op.binOp BinOp.sub 3 (Operand.tmp 28) (Operand.const (Value.int IntKind.i64 1)) 3, type := 3, pos := "serial.go:56", after := _, guard := some (11, false) }) rfl (by kernel_rfl) (by kernel_rfl) (by kernel_rfl) (fun _ _ _ h => h) (Or.inr ⟨by rfl, rfl⟩) (by assumption) ?_
      try simp only [Act.put, List.setIfInBounds_toArray, List.set_cons_zero, List.set_cons_succ]
      refine wpAnyH_take (i := 19) (oi := { dst := some 30, op := Op.call { callee := Callee.value (Operand.func 11), args := #[Operand.tmp 25, Operand.tmp 26, Operand.tmp 29], argTypes := #[3, 22, 3] }, type := 29, pos := "serial.go:56", after := _, guard := some (11, false) }) rfl (by kernel_rfl) (by kernel_rfl) (by kernel_rfl) (fun _ _ _ h => h) (Or.inr ⟨by rfl, rfl⟩) (by assumption) ?_
      try simp only [Act.put, List.setIfInBounds_toArray, List.set_cons_zero, List.set_cons_succ]
      refine wpAnyH_take (i := 20) (oi := { dst := some 31, op := Op.call { callee := Callee.value (Operand.func 18), args := #[Operand.tmp 24, Operand.tmp 30], argTypes := #[25, 29] }, type := 4, pos := "serial.go:56", after := _, guard := some (11, false) }) rfl (by kernel_rfl) (by kernel_rfl) (by kernel_rfl) (fun _ _ _ h => h) (Or.inr ⟨by rfl, rfl⟩) (by assumption) ?_
      try simp only [Act.put, List.setIfInBounds_toArray, List.set_cons_zero, List.set_cons_succ]
      refine wpAnyH_take (i := 21) (oi := { dst := some 32, op := Op.unOp UnOp.not 4 (Operand.tmp 31), type := 4, pos := "serial.go:56", after := _, guard := some (11, false) }) rfl (by kernel_rfl) (by kernel_rfl) (by kernel_rfl) (fun _ _ _ h => h) (Or.inr ⟨by rfl, rfl⟩) (by assumption) ?_
      try simp only [Act.put, List.setIfInBounds_toArray, List.set_cons_zero, List.set_cons_succ]
      refine wpAnyH_take (i := 22) (oi := { dst := some 33, op := Op.pick (Operand.tmp 22) (Operand.const (Value.bool true)) (Operand.tmp 32), type := 4, pos := "serial.go:56", after := _, guard := none }) (v := ?vbr22) rfl (by kernel_rfl) (by kernel_rfl) (by kernel_rfl) (fun _ _ _ h => h) (Or.inl ⟨by rfl, ?hybr22⟩) (by assumption) ?restbr22
      case hybr22 => (intro w hSw; (try dsimp only at hSw); go_simp <;> with_reducible rfl)
      try simp only [Act.put, List.setIfInBounds_toArray, List.set_cons_zero, List.set_cons_succ]
      refine wpAnyH_done (by kernel_rfl) ?_ _
      simp only [NormOnly]
      have f2 := HJ2.out W.drew (Below.refl _ _).drew
      have hf2 := HJF.out W.drew (Below.refl _ _).drew
      gi_wp2
      exact se_stop HI.out ((Below.refl _ _).drew) (HBD.out.symm.trans hbd)
    | false =>
      rw [Bool.false_or] at hbd
      by_cases hle : x.1.wv ≤ x.1.rv
      · rw [decide_eq_true hle, Bool.true_or] at hbd
        gi_wp2_with fail
        refine wpIn_region_held_round (S := fun w' => w'.cell? ⟨w.heap.size + 1 + 1 + 1 + 1, 0, none⟩ = some (.map (some (w.heap.size + 1 + 1 + 1))) ∧ w'.cell? ⟨B8, 5, none⟩ = some (.int .i64 x.1.wv) ∧ (Instr.lookup 56 (.map (some (w.heap.size + 1 + 1 + 1))) (.int .i64 x.1.wv) false).run Try.prog w' = .ok (.bool false) w' ∧ w'.cell? ⟨B8, 4, none⟩ = some (.int .i64 x.1.rv)) (by kernel_rfl) (by kernel_rfl) ?_ (fun hHeldcr => ?_)
        · exact ⟨f4, x5, HLOOK.out _ ((Below.refl _ _).drew), x4⟩
        refine wpAnyH_take (i := 0) (oi := { dst := some 11, op := Op.load 56 (Operand.tmp 5), type := 56, pos := "serial.go:56", after := _, guard := none }) (v := ?vcr0) rfl (by kernel_rfl) (by kernel_rfl) (by kernel_rfl) (fun _ _ _ h => h) (Or.inl ⟨by rfl, ?hycr0⟩) (by assumption) ?restcr0
        case hycr0 => (intro w hSw; (try dsimp only at hSw); go_simp <;> with_reducible rfl)
        try simp only [Act.put, List.setIfInBounds_toArray, List.set_cons_zero, List.set_cons_succ]
        refine wpAnyH_take (i := 1) (oi := { dst := some 12, op := Op.fieldAddr 27 (Operand.tmp 6) 5, type := 0, pos := "serial.go:56", after := _, guard := none }) (v := ?vcr1) rfl (by kernel_rfl) (by kernel_rfl) (by kernel_rfl) (fun _ _ _ h => h) (Or.inl ⟨by rfl, ?hycr1⟩) (by assumption) ?restcr1
        case hycr1 => (intro w hSw; (try dsimp only at hSw); go_simp <;> with_reducible rfl)
        try simp only [Act.put, List.setIfInBounds_toArray, List.set_cons_zero, List.set_cons_succ]
        refine wpAnyH_take (i := 2) (oi := { dst := some 13, op := Op.load 3 (Operand.tmp 12), type := 3, pos := "serial.go:56", after := _, guard := none }) (v := ?vcr2) rfl (by kernel_rfl) (by kernel_rfl) (by kernel_rfl) (fun _ _ _ h => h) (Or.inl ⟨by rfl, ?hycr2⟩) (by assumption) ?restcr2
        case hycr2 => (intro w hSw; (try dsimp only at hSw); go_simp <;> with_reducible rfl)
        try simp only [Act.put, List.setIfInBounds_toArray, List.set_cons_zero, List.set_cons_succ]
        refine wpAnyH_take (i := 3) (oi := { dst := some 14, op := Op.lookup 56 (Operand.tmp 11) (Operand.tmp 13) false, type := 4, pos := "serial.go:56", after := _, guard := none }) (v := ?vcr3) rfl (by kernel_rfl) (by kernel_rfl) (by kernel_rfl) (fun _ _ _ h => h) (Or.inl ⟨by rfl, ?hycr3⟩) (by assumption) ?restcr3
        case hycr3 => (intro w hSw; (try dsimp only at hSw); go_simp <;> with_reducible rfl)
        try simp only [Act.put, List.setIfInBounds_toArray, List.set_cons_zero, List.set_cons_succ]
        refine wpAnyH_take (i := 4) (oi := { dst := some 15, op := Op.move (Operand.tmp 14), type := 4, pos := "serial.go:56", after := _, guard := none }) (v := ?vcr4) rfl (by kernel_rfl) (by kernel_rfl) (by kernel_rfl) (fun _ _ _ h => h) (Or.inl ⟨by rfl, ?hycr4⟩) (by assumption) ?restcr4
        case hycr4 => (intro w hSw; (try dsimp only at hSw); go_simp <;> with_reducible rfl)
        try simp only [Act.put, List.setIfInBounds_toArray, List.set_cons_zero, List.set_cons_succ]
        refine wpAnyH_take (i := 5) (oi := { dst := some 16, op := Op.fieldAddr 27 (Operand.tmp 6) 5, type := 0, pos := "serial.go:56", after := _, guard := some (4, false) }) (v := ?vcr5) rfl (by kernel_rfl) (by kernel_rfl) (by kernel_rfl) (fun _ _ _ h => h) (Or.inl ⟨by rfl, ?hycr5⟩) (by assumption) ?restcr5
        case hycr5 => (intro w hSw; (try dsimp only at hSw); go_simp <;> with_reducible rfl)
        try simp only [Act.put, List.setIfInBounds_toArray, List.set_cons_zero, List.set_cons_succ]
        refine wpAnyH_take (i := 6) (oi := { dst := some 17, op := Op.load 3 (Operand.tmp 16), type := 3, pos := "serial.go:56", after := _, guard := some (4, false) }) (v := ?vcr6) rfl (by kernel_rfl) (by kernel_rfl) (by kernel_rfl) (fun _ _ _ h => h) (Or.inl ⟨by rfl, ?hycr6⟩) (by assumption) ?restcr6
        case hycr6 => (intro w hSw; (try dsimp only at hSw); go_simp <;> with_reducible rfl)
        try simp only [Act.put, List.setIfInBounds_toArray, List.set_cons_zero, List.set_cons_succ]
        refine wpAnyH_take (i := 7) (oi := { dst := some 18, op := Op.fieldAddr 27 (Operand.tmp 6) 4, type := 0, pos := "serial.go:56", after := _, guard := some (4, false) }) (v := ?vcr7) rfl (by kernel_rfl) (by kernel_rfl) (by kernel_rfl) (fun _ _ _ h => h) (Or.inl ⟨by rfl, ?hycr7⟩) (by assumption) ?restcr7
        case hycr7 => (intro w hSw; (try dsimp only at hSw); go_simp <;> with_reducible rfl)
        try simp only [Act.put, List.setIfInBounds_toArray, List.set_cons_zero, List.set_cons_succ]
        refine wpAnyH_take (i := 8) (oi := { dst := some 19, op := Op.load 3 (Operand.tmp 18), type := 3, pos := "serial.go:56", after := _, guard := some (4, false) }) (v := ?vcr8) rfl (by kernel_rfl) (by kernel_rfl) (by kernel_rfl) (fun _ _ _ h => h) (Or.inl ⟨by rfl, ?hycr8⟩) (by assumption) ?restcr8
        case hycr8 => (intro w hSw; (try dsimp only at hSw); go_simp <;> with_reducible rfl)
        try simp only [Act.put, List.setIfInBounds_toArray, List.set_cons_zero, List.set_cons_succ]
        refine wpAnyH_take (i := 9) (oi := { dst := some 20, op := Op.binOp BinOp.leq 3 (Operand.tmp 17) (Operand.tmp 19) 3, type := 4, pos := "serial.go:56", after := _, guard := some (4, false) }) (v := .bool true) rfl (by kernel_rfl) (by kernel_rfl) (by kernel_rfl) (fun _ _ _ h => h) (Or.inl ⟨by rfl, ?hycr9⟩) (by assumption) ?restcr9
        case hycr9 => (intro w hSw; (try dsimp only at hSw); go_simp <;> first | done | with_reducible rfl | omega | (simp; done) | (simp; omega) | (simp [*]; done) | (simp [*]; omega) | exact decide_eq_false (by omega) | exact decide_eq_true (by omega))
        try simp only [Act.put, List.setIfInBounds_toArray, List.set_cons_zero, List.set_cons_succ]
        refine wpAnyH_take (i := 10) (oi := { dst := some 21, op := Op.pick (Operand.tmp 15) (Operand.const (Value.bool true)) (Operand.tmp 20), type := 4, pos := "serial.go:56", after := _, guard := none }) (v := ?vcr10) rfl (by kernel_rfl) (by kernel_rfl) (by kernel_rfl) (fun _ _ _ h => h) (Or.inl ⟨by rfl, ?hycr10⟩) (by assumption) ?restcr10
        case hycr10 => (intro w hSw; (try dsimp only at hSw); go_simp <;> with_reducible rfl)
        try simp only [Act.put, List.setIfInBounds_toArray, List.set_cons_zero, List.set_cons_succ]
        refine wpAnyH_take (i := 11) (oi := { dst := some 22, op := Op.move (Operand.tmp 21), type := 4, pos := "serial.go:56", after := _, guard := none }) (v := ?vcr11) rfl (by kernel_rfl) (by kernel_rfl) (by kernel_rfl) (fun _ _ _ h => h) (Or.inl ⟨by rfl, ?hycr11⟩) (by assumption) ?restcr11
        case hycr11 => (intro w hSw; (try dsimp only at hSw); go_simp <;> with_reducible rfl)
        try simp only [Act.put, List.setIfInBounds_toArray, List.set_cons_zero, List.set_cons_succ]
        refine wpAnyH_take (i := 12) (oi := { dst := some 23, op := Op.fieldAddr 27 (Operand.tmp 6) 6, type := 0, pos := "serial.go:56", after := _, guard := some (11, false) }) rfl (by kernel_rfl) (by kernel_rfl) (by kernel_rfl) (fun _ _ _ h => h) (Or.inr ⟨by rfl, rfl⟩) (by assumption) ?_
        try simp only [Act.put, List.setIfInBounds_toArray, List.set_cons_zero, List.set_cons_succ]
        refine wpAnyH_take (i := 13) (oi := { dst := some 24, op := Op.load 25 (Operand.tmp 23), type := 25, pos := "serial.go:56", after := _, guard := some (11, false) }) rfl (by kernel_rfl) (by kernel_rfl) (by kernel_rfl) (fun _ _ _ h => h) (Or.inr ⟨by rfl, rfl⟩) (by assumption) ?_
        try simp only [Act.put, List.setIfInBounds_toArray, List.set_cons_zero, List.set_cons_succ]
        refine wpAnyH_take (i := 14) (oi := { dst := some 25, op := Op.load 3 (Operand.tmp 2), type := 3, pos := "serial.go:56", after := _, guard := some (11, false) }) rfl (by kernel_rfl) (by kernel_rfl) (by kernel_rfl) (fun _ _ _ h => h) (Or.inr ⟨by rfl, rfl⟩) (by assumption) ?_
        try simp only [Act.put, List.setIfInBounds_toArray, List.set_cons_zero, List.set_cons_succ]
        refine wpAnyH_take (i := 15) (oi := { dst := some 26, op := Op.load 22 (Operand.tmp 3), type := 22, pos := "serial.go:56", after := _, guard := some (11, false) }) rfl (by kernel_rfl) (by kernel_rfl) (by kernel_rfl) (fun _ _ _ h => h) (Or.inr ⟨by rfl, rfl⟩) (by assumption) ?_
        try simp only [Act.put, List.setIfInBounds_toArray, List.set_cons_zero, List.set_cons_succ]
        refine wpAnyH_take (i := 16) (oi := { dst := some 27, op := Op.fieldAddr 27 (Operand.tmp 6) 5, type := 0, pos := "serial.go:56", after := _, guard := some (11, false) }) rfl (by kernel_rfl) (by kernel_rfl) (by kernel_rfl) (fun _ _ _ h => h) (Or.inr ⟨by rfl, rfl⟩) (by assumption) ?_
        try simp only [Act.put, List.setIfInBounds_toArray, List.set_cons_zero, List.set_cons_succ]
        refine wpAnyH_take (i := 17) (oi := { dst := some 28, op := Op.load 3 (Operand.tmp 27), type := 3, pos := "serial.go:56", after := _, guard := some (11, false) }) rfl (by kernel_rfl) (by kernel_rfl) (by kernel_rfl) (fun _ _ _ h => h) (Or.inr ⟨by rfl, rfl⟩) (by assumption) ?_
        try simp only [Act.put, List.setIfInBounds_toArray, List.set_cons_zero, List.set_cons_succ]
        refine wpAnyH_take (i := 18) (oi := { dst := some 29, op := Op.binOp BinOp.sub 3 (Operand.tmp 28) (Operand.const (Value.int IntKind.i64 1)) 3, type := 3, pos := "serial.go:56", after := _, guard := some (11, false) }) rfl (by kernel_rfl) (by kernel_rfl) (by kernel_rfl) (fun _ _ _ h => h) (Or.inr ⟨by rfl, rfl⟩) (by assumption) ?_
        try simp only [Act.put, List.setIfInBounds_toArray, List.set_cons_zero, List.set_cons_succ]
        refine wpAnyH_take (i := 19) (oi := { dst := some 30, op := Op.call { callee := Callee.value (Operand.func 11), args := #[Operand.tmp 25, Operand.tmp 26, Operand.tmp 29], argTypes := #[3, 22, 3] }, type := 29, pos := "serial.go:56", after := _, guard := some (11, false) }) rfl (by kernel_rfl) (by kernel_rfl) (by kernel_rfl) (fun _ _ _ h => h) (Or.inr ⟨by rfl, rfl⟩) (by assumption) ?_
        try simp only [Act.put, List.setIfInBounds_toArray, List.set_cons_zero, List.set_cons_succ]
        refine wpAnyH_take (i := 20) (oi := { dst := some 31, op := Op.call { callee := Callee.value (Operand.func 18), args := #[Operand.tmp 24, Operand.tmp 30], argTypes := #[25, 29] }, type := 4, pos := "serial.go:56", after := _, guard := some (11, false) }) rfl (by kernel_rfl) (by kernel_rfl) (by kernel_rfl) (fun _ _ _ h => h) (Or.inr ⟨by rfl, rfl⟩) (by assumption) ?_
        try simp only [Act.put, List.setIfInBounds_toArray, List.set_cons_zero, List.set_cons_succ]
        refine wpAnyH_take (i := 21) (oi := { dst := some 32, op := Op.unOp UnOp.not 4 (Operand.tmp 31), type := 4, pos := "serial.go:56", after := _, guard := some (11, false) }) rfl (by kernel_rfl) (by kernel_rfl) (by kernel_rfl) (fun _ _ _ h => h) (Or.inr ⟨by rfl, rfl⟩) (by assumption) ?_
        try simp only [Act.put, List.setIfInBounds_toArray, List.set_cons_zero, List.set_cons_succ]
        refine wpAnyH_take (i := 22) (oi := { dst := some 33, op := Op.pick (Operand.tmp 22) (Operand.const (Value.bool true)) (Operand.tmp 32), type := 4, pos := "serial.go:56", after := _, guard := none }) (v := ?vcr22) rfl (by kernel_rfl) (by kernel_rfl) (by kernel_rfl) (fun _ _ _ h => h) (Or.inl ⟨by rfl, ?hycr22⟩) (by assumption) ?restcr22
        case hycr22 => (intro w hSw; (try dsimp only at hSw); go_simp <;> with_reducible rfl)
        try simp only [Act.put, List.setIfInBounds_toArray, List.set_cons_zero, List.set_cons_succ]
        refine wpAnyH_done (by kernel_rfl) ?_ _
        simp only [NormOnly]
        have f2 := HJ2.out W.drew (Below.refl _ _).drew
        have hf2 := HJF.out W.drew (Below.refl _ _).drew
        gi_wp2
        exact se_stop HI.out ((Below.refl _ _).drew) (HBD.out.symm.trans hbd)
      · rw [decide_eq_false hle, Bool.false_or] at hbd
        gi_wp2_with fail
        refine wpIn_region_held_round (S := fun w' => w'.cell? ⟨w.heap.size + 1 + 1 + 1 + 1, 0, none⟩ = some (.map (some (w.heap.size + 1 + 1 + 1))) ∧ w'.cell? ⟨B8, 5, none⟩ = some (.int .i64 x.1.wv) ∧ (Instr.lookup 56 (.map (some (w.heap.size + 1 + 1 + 1))) (.int .i64 x.1.wv) false).run Try.prog w' = .ok (.bool false) w' ∧ w'.cell? ⟨B8, 4, none⟩ = some (.int .i64 x.1.rv) ∧ w'.cell? ⟨B8, 6, none⟩ = some (.slice x.1.rA x.1.R.length x.1.rc) ∧ w'.cell? ⟨w.heap.size, 0, none⟩ = some (.int .i64 n) ∧ w'.cell? ⟨w.heap.size + 1, 0, none⟩ = some (.slice A m c)) (by kernel_rfl) (by kernel_rfl) ?_ (fun hHelddr => ?_)
        · exact ⟨f4, x5, HLOOK.out _ ((Below.refl _ _).drew), x4, x6, f0, f1⟩
        refine wpAnyH_take (i := 0) (oi := { dst := some 11, op := Op.load 56 (Operand.tmp 5), type := 56, pos := "serial.go:56", after := _, guard := none }) (v := ?vdr0) rfl (by kernel_rfl) (by kernel_rfl) (by kernel_rfl) (fun _ _ _ h => h) (Or.inl ⟨by rfl, ?hydr0⟩) (by assumption) ?restdr0
        case hydr0 => (intro w hSw; (try dsimp only at hSw); go_simp <;> with_reducible rfl)
        try simp only [Act.put, List.setIfInBounds_toArray, List.set_cons_zero, List.set_cons_succ]
        refine wpAnyH_take (i := 1) (oi := { dst := some 12, op := Op.fieldAddr 27 (Operand.tmp 6) 5, type := 0, pos := "serial.go:56", after := _, guard := none }) (v := ?vdr1) rfl (by kernel_rfl) (by kernel_rfl) (by kernel_rfl) (fun _ _ _ h => h) (Or.inl ⟨by rfl, ?hydr1⟩) (by assumption) ?restdr1
        case hydr1 => (intro w hSw; (try dsimp only at hSw); go_simp <;> with_reducible rfl)
        try simp only [Act.put, List.setIfInBounds_toArray, List.set_cons_zero, List.set_cons_succ]
        refine wpAnyH_take (i := 2) (oi := { dst := some 13, op := Op.load 3 (Operand.tmp 12), type := 3, pos := "serial.go:56", after := _, guard := none }) (v := ?vdr2) rfl (by kernel_rfl) (by kernel_rfl) (by kernel_rfl) (fun _ _ _ h => h) (Or.inl ⟨by rfl, ?hydr2⟩) (by assumption) ?restdr2
        case hydr2 => (intro w hSw; (try dsimp only at hSw); go_simp <;> with_reducible rfl)
        try simp only [Act.put, List.setIfInBounds_toArray, List.set_cons_zero, List.set_cons_succ]
        refine wpAnyH_take (i := 3) (oi := { dst := some 14, op := Op.lookup 56 (Operand.tmp 11) (Operand.tmp 13) false, type := 4, pos := "serial.go:56", after := _, guard := none }) (v := ?vdr3) rfl (by kernel_rfl) (by kernel_rfl) (by kernel_rfl) (fun _ _ _ h => h) (Or.inl ⟨by rfl, ?hydr3⟩) (by assumption) ?restdr3
        case hydr3 => (intro w hSw; (try dsimp only at hSw); go_simp <;> with_reducible rfl)
        try simp only [Act.put, List.setIfInBounds_toArray, List.set_cons_zero, List.set_cons_succ]
        refine wpAnyH_take (i := 4) (oi := { dst := some 15, op := Op.move (Operand.tmp 14), type := 4, pos := "serial.go:56", after := _, guard := none }) (v := ?vdr4) rfl (by kernel_rfl) (by kernel_rfl) (by kernel_rfl) (fun _ _ _ h => h) (Or.inl ⟨by rfl, ?hydr4⟩) (by assumption) ?restdr4
        case hydr4 => (intro w hSw; (try dsimp only at hSw); go_simp <;> with_reducible rfl)
        try simp only [Act.put, List.setIfInBounds_toArray, List.set_cons_zero, List.set_cons_succ]
        refine wpAnyH_take (i := 5) (oi := { dst := some 16, op := Op.fieldAddr 27 (Operand.tmp 6) 5, type := 0, pos := "serial.go:56", after := _, guard := some (4, false) }) (v := ?vdr5) rfl (by kernel_rfl) (by kernel_rfl) (by kernel_rfl) (fun _ _ _ h => h) (Or.inl ⟨by rfl, ?hydr5⟩) (by assumption) ?restdr5
        case hydr5 => (intro w hSw; (try dsimp only at hSw); go_simp <;> with_reducible rfl)
        try simp only [Act.put, List.setIfInBounds_toArray, List.set_cons_zero, List.set_cons_succ]
        refine wpAnyH_take (i := 6) (oi := { dst := some 17, op := Op.load 3 (Operand.tmp 16), type := 3, pos := "serial.go:56", after := _, guard := some (4, false) }) (v := ?vdr6) rfl (by kernel_rfl) (by kernel_rfl) (by kernel_rfl) (fun _ _ _ h => h) (Or.inl ⟨by rfl, ?hydr6⟩) (by assumption) ?restdr6
        case hydr6 => (intro w hSw; (try dsimp only at hSw); go_simp <;> with_reducible rfl)
        try simp only [Act.put, List.setIfInBounds_toArray, List.set_cons_zero, List.set_cons_succ]
        refine wpAnyH_take (i := 7) (oi := { dst := some 18, op := Op.fieldAddr 27 (Operand.tmp 6) 4, type := 0, pos := "serial.go:56", after := _, guard := some (4, false) }) (v := ?vdr7) rfl (by kernel_rfl) (by kernel_rfl) (by kernel_rfl) (fun _ _ _ h => h) (Or.inl ⟨by rfl, ?hydr7⟩) (by assumption) ?restdr7
        case hydr7 => (intro w hSw; (try dsimp only at hSw); go_simp <;> with_reducible rfl)
        try simp only [Act.put, List.setIfInBounds_toArray, List.set_cons_zero, List.set_cons_succ]
        refine wpAnyH_take (i := 8) (oi := { dst := some 19, op := Op.load 3 (Operand.tmp 18), type := 3, pos := "serial.go:56", after := _, guard := some (4, false) }) (v := ?vdr8) rfl (by kernel_rfl) (by kernel_rfl) (by kernel_rfl) (fun _ _ _ h => h) (Or.inl ⟨by rfl, ?hydr8⟩) (by assumption) ?restdr8
        case hydr8 => (intro w hSw; (try dsimp only at hSw); go_simp <;> with_reducible rfl)
        try simp only [Act.put, List.setIfInBounds_toArray, List.set_cons_zero, List.set_cons_succ]
        refine wpAnyH_take (i := 9) (oi := { dst := some 20, op := Op.binOp BinOp.leq 3 (Operand.tmp 17) (Operand.tmp 19) 3, type := 4, pos := "serial.go:56", after := _, guard := some (4, false) }) (v := .bool false) rfl (by kernel_rfl) (by kernel_rfl) (by kernel_rfl) (fun _ _ _ h => h) (Or.inl ⟨by rfl, ?hydr9⟩) (by assumption) ?restdr9
        case hydr9 => (intro w hSw; (try dsimp only at hSw); go_simp <;> first | done | with_reducible rfl | omega | (simp; done) | (simp; omega) | (simp [*]; done) | (simp [*]; omega) | exact decide_eq_false (by omega) | exact decide_eq_true (by omega))
        try simp only [Act.put, List.setIfInBounds_toArray, List.set_cons_zero, List.set_cons_succ]
        refine wpAnyH_take (i := 10) (oi := { dst := some 21, op := Op.pick (Operand.tmp 15) (Operand.const (Value.bool true)) (Operand.tmp 20), type := 4, pos := "serial.go:56", after := _, guard := none }) (v := ?vdr10) rfl (by kernel_rfl) (by kernel_rfl) (by kernel_rfl) (fun _ _ _ h => h) (Or.inl ⟨by rfl, ?hydr10⟩) (by assumption) ?restdr10
        case hydr10 => (intro w hSw; (try dsimp only at hSw); go_simp <;> with_reducible rfl)
        try simp only [Act.put, List.setIfInBounds_toArray, List.set_cons_zero, List.set_cons_succ]
        refine wpAnyH_take (i := 11) (oi := { dst := some 22, op := Op.move (Operand.tmp 21), type := 4, pos := "serial.go:56", after := _, guard := none }) (v := ?vdr11) rfl (by kernel_rfl) (by kernel_rfl) (by kernel_rfl) (fun _ _ _ h => h) (Or.inl ⟨by rfl, ?hydr11⟩) (by assumption) ?restdr11
        case hydr11 => (intro w hSw; (try dsimp only at hSw); go_simp <;> with_reducible rfl)
        try simp only [Act.put, List.setIfInBounds_toArray, List.set_cons_zero, List.set_cons_succ]
        refine wpAnyH_take (i := 12) (oi := { dst := some 23, op := Op.fieldAddr 27 (Operand.tmp 6) 6, type := 0, pos := "serial.go:56", after := _, guard := some (11, false) }) (v := ?vdr12) rfl (by kernel_rfl) (by kernel_rfl) (by kernel_rfl) (fun _ _ _ h => h) (Or.inl ⟨by rfl, ?hydr12⟩) (by assumption) ?restdr12
        case hydr12 => (intro w hSw; (try dsimp only at hSw); go_simp <;> with_reducible rfl)
        try simp only [Act.put, List.setIfInBounds_toArray, List.set_cons_zero, List.set_cons_succ]
        refine wpAnyH_take (i := 13) (oi := { dst := some 24, op := Op.load 25 (Operand.tmp 23), type := 25, pos := "serial.go:56", after := _, guard := some (11, false) }) (v := ?vdr13) rfl (by kernel_rfl) (by kernel_rfl) (by kernel_rfl) (fun _ _ _ h => h) (Or.inl ⟨by rfl, ?hydr13⟩) (by assumption) ?restdr13
        case hydr13 => (intro w hSw; (try dsimp only at hSw); go_simp <;> with_reducible rfl)
        try simp only [Act.put, List.setIfInBounds_toArray, List.set_cons_zero, List.set_cons_succ]
        refine wpAnyH_take (i := 14) (oi := { dst := some 25, op := Op.load 3 (Operand.tmp 2), type := 3, pos := "serial.go:56", after := _, guard := some (11, false) }) (v := ?vdr14) rfl (by kernel_rfl) (by kernel_rfl) (by kernel_rfl) (fun _ _ _ h => h) (Or.inl ⟨by rfl, ?hydr14⟩) (by assumption) ?restdr14
        case hydr14 => (intro w hSw; (try dsimp only at hSw); go_simp <;> with_reducible rfl)
        try simp only [Act.put, List.setIfInBounds_toArray, List.set_cons_zero, List.set_cons_succ]
        refine wpAnyH_take (i := 15) (oi := { dst := some 26, op := Op.load 22 (Operand.tmp 3), type := 22, pos := "serial.go:56", after := _, guard := some (11, false) }) (v := ?vdr15) rfl (by kernel_rfl) (by kernel_rfl) (by kernel_rfl) (fun _ _ _ h => h) (Or.inl ⟨by rfl, ?hydr15⟩) (by assumption) ?restdr15
        case hydr15 => (intro w hSw; (try dsimp only at hSw); go_simp <;> with_reducible rfl)
        try simp only [Act.put, List.setIfInBounds_toArray, List.set_cons_zero, List.set_cons_succ]
        refine wpAnyH_take (i := 16) (oi := { dst := some 27, op := Op.fieldAddr 27 (Operand.tmp 6) 5, type := 0, pos := "serial.go:56", after := _, guard := some (11, false) }) (v := ?vdr16) rfl (by kernel_rfl) (by kernel_rfl) (by kernel_rfl) (fun _ _ _ h => h) (Or.inl ⟨by rfl, ?hydr16⟩) (by assumption) ?restdr16
        case hydr16 => (intro w hSw; (try dsimp only at hSw); go_simp <;> with_reducible rfl)
        try simp only [Act.put, List.setIfInBounds_toArray, List.set_cons_zero, List.set_cons_succ]
        refine wpAnyH_take (i := 17) (oi := { dst := some 28, op := Op.load 3 (Operand.tmp 27), type := 3, pos := "serial.go:56", after := _, guard := some (11, false) }) (v := ?vdr17) rfl (by kernel_rfl) (by kernel_rfl) (by kernel_rfl) (fun _ _ _ h => h) (Or.inl ⟨by rfl, ?hydr17⟩) (by assumption) ?restdr17
        case hydr17 => (intro w hSw; (try dsimp only at hSw); go_simp <;> with_reducible rfl)
        try simp only [Act.put, List.setIfInBounds_toArray, List.set_cons_zero, List.set_cons_succ]
        refine wpAnyH_take (i := 18) (oi := { dst := some 29, op := Op.binOp BinOp.sub 3 (Operand.tmp 28) (Operand.const (Value.int IntKind.i64 1)) 3, type := 3, pos := "serial.go:56", after := _, guard := some (11, false) }) (v := ?vdr18) rfl (by kernel_rfl) (by kernel_rfl) (by kernel_rfl) (fun _ _ _ h => h) (Or.inl ⟨by rfl, ?hydr18⟩) (by assumption) ?restdr18
        case hydr18 => (intro w hSw; (try dsimp only at hSw); go_simp <;> with_reducible rfl)
        try simp only [Act.put, List.setIfInBounds_toArray, List.set_cons_zero, List.set_cons_succ]
        refine wpAnyH_ready (rs := [19]) (by kernel_rfl) (by simp) ?_
        refine AllReadyH.cons (o := { dst := some 30, op := Op.call { callee := Callee.value (Operand.func 11), args := #[Operand.tmp 25, Operand.tmp 26, Operand.tmp 29], argTypes := #[3, 22, 3] }, type := 29, pos := "serial.go:56", after := _, guard := some (11, false) }) rfl (fun K hK => ?_) AllReadyH.nil
        go_simp
        refine (HS.out _ _ (Below.refl _ _).drew).mono ?_
        rintro e w3 ⟨v3, rfl, hv3, hb3⟩
        have hX := (Below.refl W.heap.size W).drew.trans (hb3.mono (Nat.le_refl _))
        try go_wp2_with fail
        refine hK.out _ _ ?_ (fun hHelddr19 => ?_)
        · exact ⟨(hX.cell (p := ⟨w.heap.size + 1 + 1 + 1 + 1, 0, none⟩) l4).trans f4, (hX.cell (p := ⟨B8, 5, none⟩) l8).trans x5, HLOOK.out _ hX, (hX.cell (p := ⟨B8, 4, none⟩) l8).trans x4, (hX.cell (p := ⟨B8, 6, none⟩) l8).trans x6, (hX.cell (p := ⟨w.heap.size, 0, none⟩) l0).trans f0, (hX.cell (p := ⟨w.heap.size + 1, 0, none⟩) l1).trans f1⟩
        clear hK K hHelddr
        try simp only [Act.put, List.setIfInBounds_toArray, List.set_cons_zero, List.set_cons_succ]
        refine wpAnyH_ready (rs := [20]) (by kernel_rfl) (by simp) ?_
        refine AllReadyH.cons (o := { dst := some 31, op := Op.call { callee := Callee.value (Operand.func 18), args := #[Operand.tmp 24, Operand.tmp 30], argTypes := #[25, 29] }, type := 4, pos := "serial.go:56", after := _, guard := some (11, false) }) rfl (fun K hK => ?_) AllReadyH.nil
        go_simp
        refine (HA.out v3 _ _ hX hv3).mono ?_
        rintro e w4 ⟨rfl, hb4⟩
        have hY := hX.trans (hb4.mono hX.size)
        rw [← HG.out]
        try go_wp2_with fail
        refine hK.out _ _ ?_ (fun hHelddr20 => ?_)
        · exact ⟨(hY.cell (p := ⟨w.heap.size + 1 + 1 + 1 + 1, 0, none⟩) l4).trans f4, (hY.cell (p := ⟨B8, 5, none⟩) l8).trans x5, HLOOK.out _ hY, (hY.cell (p := ⟨B8, 4, none⟩) l8).trans x4, (hY.cell (p := ⟨B8, 6, none⟩) l8).trans x6, (hY.cell (p := ⟨w.heap.size, 0, none⟩) l0).trans f0, (hY.cell (p := ⟨w.heap.size + 1, 0, none⟩) l1).trans f1⟩
        clear hK K hHelddr19
        try simp only [Act.put, List.setIfInBounds_toArray, List.set_cons_zero, List.set_cons_succ]
        refine wpAnyH_take (i := 21) (oi := { dst := some 32, op := Op.unOp UnOp.not 4 (Operand.tmp 31), type := 4, pos := "serial.go:56", after := _, guard := some (11, false) }) (v := ?vdr21) rfl (by kernel_rfl) (by kernel_rfl) (by kernel_rfl) (fun _ _ _ h => h) (Or.inl ⟨by rfl, ?hydr21⟩) (by assumption) ?restdr21
        case hydr21 => (intro w hSw; (try dsimp only at hSw); go_simp <;> with_reducible rfl)
        try simp only [Act.put, List.setIfInBounds_toArray, List.set_cons_zero, List.set_cons_succ]
        refine wpAnyH_take (i := 22) (oi := { dst := some 33, op := Op.pick (Operand.tmp 22) (Operand.const (Value.bool true)) (Operand.tmp 32), type := 4, pos := "serial.go:56", after := _, guard := none }) (v := ?vdr22) rfl (by kernel_rfl) (by kernel_rfl) (by kernel_rfl) (fun _ _ _ h => h) (Or.inl ⟨by rfl, ?hydr22⟩) (by assumption) ?restdr22
        case hydr22 => (intro w hSw; (try dsimp only at hSw); go_simp <;> with_reducible rfl)
        try simp only [Act.put, List.setIfInBounds_toArray, List.set_cons_zero, List.set_cons_succ]
        refine wpAnyH_done (by kernel_rfl) ?_ _
        simp only [NormOnly]
        cases g with
        | true =>
          obtain ⟨D, m1, m2, m3⟩ := HM3.out w4 hY
          have hkey := HKEY.out
          have f4 := (hY.cell (p := ⟨w.heap.size + 1 + 1 + 1 + 1, 0, none⟩) l4).trans f4
          have x5 := (hY.cell (p := ⟨B8, 5, none⟩) l8).trans x5
          gi_wp2_with (gi_at_mapUpdate; refine wpListIn_mapUpdate_own _ rfl _ _ _ 56 rfl 3 4 keyedI Try.underlying56 _ (w.heap.size + 1 + 1 + 1) _ D rfl m1 HLT.out _ _ _ rfl rfl hkey _ [] (plainElem_bool Try.underlying4 true) ?_; intro w5 hown5 hgrow5)
          exact se_next HLO.out hz1 HI.out hY (HBD.out.symm.trans hbd) hgrow5 (MapB.put HWX.out m2 m3 hown5)
        | false =>
          have f2 := HJ2.out w4 hY
          have hf2 := HJF.out w4 hY
          gi_wp2
          exact se_stop HI.out hY (HBD.out.symm.trans hbd)
  case done =>
    rintro D ys W hD rfl hI hK
    obtain ⟨⟨j0, j1, j2, j4, j3⟩, jB, jZ, jP⟩ := hI
    rw [List.attach_map_subtype_val] at jP
    have f2 : W.cell? ⟨w.heap.size + 1 + 1, 0, none⟩ = some (.bool false) := by rw [j2.cell]; rfl
    have hf := j2.free
    have HJ := Lib.hid (And.intro j2 (And.intro jB jP))
    have HK := Lib.hid hK
    clear j0 j1 j3 j2 j4 jB jP hK
    gi_wp2
    show LeavesInM Fence.wide 6 _ _ _ _ ((D :: ([] : List Nat)).map markD) _ _
    refine leaves_marks (F := Fence.wide) (n := 6) (B := w.heap.size) (D :: []) _ (by simp) (fun D' hD' => ?_) fun W' hq => ?_
    · simp at hD'; subst hD'; exact ⟨by omega, mark_far HK.out (by omega)⟩
    · obtain ⟨j2, jB, jP⟩ := HJ.out
      have h5 := j2.set_ 0 (.bool true)
      have hcells := hq.1 _ _ _ h5
      refine ⟨_, results_cellb _ rfl (by rw [hcells.cell]; rfl), ?_, (jB.setCell (by simp; omega) _).trans (hq.2)⟩
      rw [show serialL n h = true from jP]
  case stop =>
    rintro D c' pre W hD ⟨k, hk, rfl⟩ ⟨j2, jB, rfl, jP⟩ hK
    have f2 : W.cell? ⟨w.heap.size + 1 + 1, 0, none⟩ = some (.bool false) := by rw [j2.cell]; rfl
    rw [List.map_take, List.attach_map_subtype_val] at jP
    have jQ := serF_upto n h _ _ jP
    have HJ := Lib.hid (And.intro j2 (And.intro jB jQ))
    have HK := Lib.hid hK
    clear j2 jB jP hK jQ
    gi_wp2
    show LeavesInM Fence.wide 6 _ _ _ _ ((D :: ([] : List Nat)).map markD) _ _
    refine leaves_marks (F := Fence.wide) (n := 6) (B := w.heap.size) (D :: []) _ (by simp) (fun D' hD' => ?_) fun W' hq => ?_
    · simp at hD'; subst hD'; exact ⟨by omega, HK.out⟩
    · obtain ⟨j2, jB, jQ⟩ := HJ.out
      have hcells := hq.1 _ _ _ j2
      refine ⟨_, results_cellb _ rfl (by rw [hcells.cell]; rfl), ?_, jB.trans (hq.2)⟩
      rw [show serialL n h = false from jQ]
end Go.Proofs.Ytmcbnpeihedcaaa
