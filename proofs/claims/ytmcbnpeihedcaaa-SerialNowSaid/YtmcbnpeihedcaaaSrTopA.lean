/- Several texts in one: SrState, SrAgree, SrSerial. -/
import Derived.Test.YtmcbnpeihedcaaaSrWrA
import Derived.Laws.MakeOwn
import Derived.Test.YtmcbnpeihedcaaaCopy
import Derived.WalkMore
import Derived.Deep.RegionHeld3
import Derived.Deep.DrawnRows
import Derived.Maps.OwnIn
import Derived.Maps.Views
namespace Go.Proofs.Ytmcbnpeihedcaaa
set_option linter.unusedSimpArgs false
open Go Go.RowKit Go.Shelf
set_option linter.unusedVariables false
attribute [local go_sem] Oper.semAt_some

theorem wpIn_scope_wide {P : Program} {n : Nat} {c : Code} {Q : Exit → Act → World → Prop} {a : Act} {w : World} (h : c.wpIn Fence.wide n P (Exit.noGoto Q) a w) : (Code.scope c).wpIn Fence.wide n P Q a w :=
  wpIn_wide.2 (wp_scope_straight (wpIn_wide.1 h))

/-- One pair is written. -/
def putP (n : Nat) (o : List Int) (p : Pr) : List Int := if 0 ≤ p.at_ ∧ p.at_ < (n : Int) then o.set p.at_.toNat p.v else o
def applyW (n : Nat) (o : List Int) (W : List Pr) : List Int := W.foldl (putP n) o
/-- What words are behind some tries. -/
def foldS (n : Nat) (ws : List Rx) : List Int := ws.foldl (fun o x => applyW n o x.W) (List.replicate n 0)
def stateL (n : Int) (h : List Rx) (ver : Int) : List Int := if n < 1 ∨ 8 < n then [] else foldS n.toNat ((wsOf h).takeWhile (fun x => decide (x.wv ≤ ver)))
theorem putP_len (n : Nat) (o : List Int) (p : Pr) : (putP n o p).length = o.length := by unfold putP; split <;> simp
theorem applyW_len (n : Nat) (o : List Int) (W : List Pr) : (applyW n o W).length = o.length := by
  unfold applyW
  induction W generalizing o with
  | nil => rfl
  | cons p W ih => rw [List.foldl_cons, ih, putP_len]
theorem foldS_len (n : Nat) (ws : List Rx) : (foldS n ws).length = n := by
  unfold foldS
  have : ∀ (ws : List Rx) (o : List Int), (ws.foldl (fun o x => applyW n o x.W) o).length = o.length := by
    intro ws
    induction ws with
    | nil => intro o; rfl
    | cons x ws ih => intro o; rw [List.foldl_cons, ih, applyW_len]
  rw [this, List.length_replicate]
theorem foldS_snoc (n : Nat) (ws : List Rx) (x : Rx) : foldS n (ws ++ [x]) = applyW n (foldS n ws) x.W := by simp [foldS]
theorem applyW_snoc (n : Nat) (o : List Int) (W : List Pr) (p : Pr) : applyW n o (W ++ [p]) = putP n (applyW n o W) p := by simp [applyW]
def cellsI (l : List Int) : Array Value := (l.flatMap encI).toArray
theorem cellsI_at (l : List Int) (i : Nat) (hi : i < l.length) : (cellsI l)[i]? = some (.int .i64 l[i]) := by unfold cellsI; rw [List.getElem?_toArray, encI_get l i hi]
theorem cellsI_set (l : List Int) (i : Nat) (v : Int) : (cellsI l).setIfInBounds i (.int .i64 v) = cellsI (l.set i v) := by
  apply Array.toList_inj.1
  unfold cellsI
  simp only [List.setIfInBounds_toArray, flat_encI, List.map_set]
theorem made_ints (n : Nat) : madeCells (Value.int .i64 0).cells (n * 1) = cellsI (List.replicate n 0) := by
  apply Array.toList_inj.1
  rw [Nat.mul_one, show (Value.int .i64 0).cells = #[.int .i64 0] from rfl, toList_madeCells_one]
  unfold cellsI
  rw [flat_encI, List.map_replicate]

theorem ints_info : (Try.prog.info? 3).map (fun i => (i.zero, i.size, i.bytes)) = some (some (.int .i64 0), 1, 8) := by kernel_rfl

/-- What State hands back. -/
def StatePost (l : List Int) (w : World) (e : Ending) (w' : World) : Prop := ∃ v', e = .returned v' ∧ Sl w' 1 v' l.length (l.flatMap encI) ∧ Below w.heap.size w w'

theorem takeW_all {α : Type} {p : α → Bool} {l : List α} (h : ∀ x ∈ l, p x = true) : l.takeWhile p = l := by
  induction l with
  | nil => rfl
  | cons x l ih => rw [List.takeWhile_cons, if_pos (h x (by simp)), ih fun y hy => h y (by simp [hy])]
theorem takeW_upto {α : Type} {p : α → Bool} : ∀ {l : List α} {k : Nat} (hk : k < l.length), (∀ x ∈ l.take k, p x = true) → p l[k] = false → l.takeWhile p = l.take k
  | x :: l, 0, hk, _, h => by rw [List.takeWhile_cons, if_neg (by simpa using h)]; rfl
  | x :: l, k + 1, hk, h1, h2 => by
    rw [List.takeWhile_cons, if_pos (h1 x (by simp)), takeW_upto (l := l) (k := k) (by simpa using hk) (fun y hy => h1 y (by simp [hy])) (by simpa using h2)]
    rfl
theorem sl_ints {W : World} {g n : Nat} {ws : List Rx} (h : Blk W g 3 (cellsI (foldS n ws))) (h8 : n ≤ 8) : Sl W 1 (.slice (some ⟨g, 0, none⟩) n n) (foldS n ws).length ((foldS n ws).flatMap encI) := by
  refine ⟨flat_len encI encI_len _, .inr ⟨_, n, by rw [foldS_len], by rw [foldS_len]; exact Nat.le_refl _, by unfold maxLen; omega, fun _ => ⟨rfl, h.lt, fun j u hu => ?_⟩⟩⟩
  rw [Nat.zero_add, h.cell]
  unfold cellsI
  rw [List.getElem?_toArray]
  exact hu

/-- Between two rounds: the words, as those tries leave them. -/
def StI (w : World) (n Z : Nat) (ver : Int) {h : List Rx} (pre : List { x : Rx // x ∈ wsOf h }) (W : World) : Prop :=
  (Blk W w.heap.size 3 #[.int .i64 n] ∧ Blk W (w.heap.size + 1) 3 #[.int .i64 ver] ∧ Blk W (w.heap.size + 3) 29 #[.slice (some ⟨w.heap.size + 2, 0, none⟩) n n] ∧ Blk W (w.heap.size + 2) 3 (cellsI (foldS n (pre.map Subtype.val)))) ∧
    Below w.heap.size w W ∧ Z ≤ W.heap.size ∧ ∀ x ∈ pre, x.1.wv ≤ ver
/-- A round has left: the last try is too new. -/
def StX (w : World) (n : Nat) (ver : Int) {h : List Rx} (c : Code) (pre : List { x : Rx // x ∈ wsOf h }) (W : World) : Prop :=
  (Blk W (w.heap.size + 3) 29 #[.slice (some ⟨w.heap.size + 2, 0, none⟩) n n] ∧ Blk W (w.heap.size + 2) 3 (cellsI (foldS n (pre.dropLast.map Subtype.val)))) ∧ Below w.heap.size w W ∧ (c = .exit 0 ∧ (∀ x ∈ pre.dropLast, x.1.wv ≤ ver) ∧ ∃ x ∈ pre.getLast?, ver < x.1.wv)
theorem stI_own {w : World} {n Z : Nat} {ver : Int} {h : List Rx} {B : Nat} (h1 : w.heap.size ≤ B) : OwnFrom B (StI w n Z ver (h := h)) :=
  OwnFrom.and (OwnFrom.and ((blk_own (fun _ => w.heap.size) (fun _ => _) (fun _ => _)).from B) (OwnFrom.and ((blk_own (fun _ => w.heap.size + 1) (fun _ => _) (fun _ => _)).from B) (OwnFrom.and ((blk_own (fun _ => w.heap.size + 3) (fun _ => _) (fun _ => _)).from B) ((blk_own (fun _ => w.heap.size + 2) (fun _ => _) (fun pre : List { x : Rx // x ∈ wsOf h } => cellsI (foldS n (pre.map Subtype.val)))).from B))))
    (OwnFrom.and (ownFrom_below (Nat.le_refl _) h1) (OwnFrom.and (fun s W W' row hs hg _ => Nat.le_trans hs hg.size) (ownFrom_pure B (fun pre : List { x : Rx // x ∈ wsOf h } => ∀ x ∈ pre, x.1.wv ≤ ver))))
theorem stX_own {w : World} {n : Nat} {ver : Int} {h : List Rx} {B : Nat} (h1 : w.heap.size ≤ B) (c : Code) : OwnFrom B (StX w n ver (h := h) c) :=
  OwnFrom.and (OwnFrom.and ((blk_own (fun _ => w.heap.size + 3) (fun _ => _) (fun _ => _)).from B) ((blk_own (fun _ => w.heap.size + 2) (fun _ => _) (fun pre : List { x : Rx // x ∈ wsOf h } => cellsI (foldS n (pre.dropLast.map Subtype.val)))).from B))
    (OwnFrom.and (ownFrom_below (Nat.le_refl _) h1) (ownFrom_pure B (fun pre : List { x : Rx // x ∈ wsOf h } => c = .exit 0 ∧ (∀ x ∈ pre.dropLast, x.1.wv ≤ ver) ∧ ∃ x ∈ pre.getLast?, ver < x.1.wv)))

/-- In a round, behind k of the try's pairs. -/
def StJ (w : World) (n Z : Nat) (ver : Int) (lo : Nat) (W : World) {h : List Rx} (pre : List { x : Rx // x ∈ wsOf h }) (x : { x : Rx // x ∈ wsOf h }) (k : Nat) (wr : World) : Prop :=
  (Blk wr w.heap.size 3 #[.int .i64 n] ∧ Blk wr (w.heap.size + 1) 3 #[.int .i64 ver] ∧ Blk wr (w.heap.size + 3) 29 #[.slice (some ⟨w.heap.size + 2, 0, none⟩) n n] ∧ Blk wr (w.heap.size + 2) 3 (cellsI (applyW n (foldS n (pre.map Subtype.val)) (x.1.W.take k)))) ∧
    Below w.heap.size w wr ∧ Z ≤ wr.heap.size ∧ KeepsFrom Z W wr ∧ KpM lo Z W wr

set_option maxRecDepth 100000 in
set_option maxHeartbeats 1000000 in
theorem state_no (n ver : Int) (v : Value) (w : World) (hn : n < 1 ∨ 8 < n) : Calls Try.prog 11 #[.int .i64 n, v, .int .i64 ver] w (StatePost [] w) := by
  refine (callsIn_wide (n := 6)).1 ?_
  refine callsIn_of_wp_marks Try.func11 rfl trivial ?_ rfl
  simp only [Try.ntmps11, List.size_toArray, List.length_cons, List.length_nil, Nat.reduceAdd, Nat.reduceSub, Array.replicate_succ, Array.replicate_zero, List.push_toArray, List.append_toArray, List.nil_append, List.cons_append]
  have hb : Below w.heap.size w ((w.alloc (.cells #[.int .i64 n] 3)).alloc (.cells #[.int .i64 ver] 3)) := ((Below.refl _ w).alloc (Nat.le_refl _) _).alloc (by simp) _
  gi_wp2
  refine wpIn_scope_wide ?_
  by_cases h1 : n < 1
  · gi_wp2
    refine leaves_marks (F := Fence.wide) (n := 6) (B := w.heap.size) [] _ List.nodup_nil (fun D h => absurd h (by simp)) fun W' hq => ?_
    exact ⟨_, results_tmp rfl _ _ _, _, rfl, Sl.nil _ _, hb.trans hq.2⟩
  · have h2 : 8 < n := by omega
    gi_wp2
    show LeavesInM Fence.wide 6 _ _ _ _ (([] : List Nat).map markD) _ _
    refine leaves_marks (F := Fence.wide) (n := 6) (B := w.heap.size) [] _ List.nodup_nil (fun D h => absurd h (by simp)) fun W' hq => ?_
    exact ⟨_, results_tmp rfl _ _ _, _, rfl, Sl.nil _ _, hb.trans hq.2⟩

set_option maxRecDepth 100000 in
set_option maxHeartbeats 4000000 in
theorem state_main (n : Nat) (ver : Int) (v : Value) (h : List Rx) (w : World) (hv : RecsV w v h) (hl : h.length ≤ 100000) (h1 : 1 ≤ n) (h8 : n ≤ 8) : Calls Try.prog 11 #[.int .i64 (n : Int), v, .int .i64 ver] w (StatePost (foldS n ((wsOf h).takeWhile (fun x => decide (x.wv ≤ ver)))) w) := by
  have HV := Lib.hid hv
  have cW := fun W h' => writers_any v h W (hv.below h') hl
  have hok : ∀ x ∈ wsOf h, RxOk w x := fun x hx => hv.2 x (by unfold wsOf at hx; rw [srtK_mem] at hx; exact (List.mem_filter.1 hx).1)
  have hwl : (wsOf h).length ≤ 100000 := by unfold wsOf; rw [srtK_len]; exact Nat.le_trans (List.length_filter_le _ _) hl
  have HOK := Lib.hid hok
  have CW := Lib.hid cW
  obtain ⟨i0, hi0, iz0, iz1, iz2⟩ := info_parts ints_info
  have hmk : ∀ (w : World) (kl kc : IntKind), (Instr.makeSlice 29 (.int kl (n : Int)) (.int kc (n : Int))).run Try.prog w = .ok (.slice (some ⟨w.heap.size, 0, none⟩) n n) (w.alloc (.cells (cellsI (List.replicate n 0)) 3)) := fun w kl kc => by
    have := run_make (P := Try.prog) w 29 3 i0 _ Try.underlying29 hi0 iz0 kl kc (n : Int) (n : Int) (by omega) (Int.le_refl _) (by rw [iz2]; omega) (by omega)
    rw [this, Int.toNat_natCast, iz1, made_ints]
  clear hi0 iz0 iz1 iz2 hv cW hok
  have hn1 : ¬ (n : Int) < 1 := by omega
  have hn8 : ¬ (8 : Int) < (n : Int) := by omega
  have hb : Below w.heap.size w ((((w.alloc (.cells #[.int .i64 n] 3)).alloc (.cells #[.int .i64 ver] 3)).alloc (.cells (cellsI (List.replicate n 0)) 3)).alloc (.cells #[.slice (some ⟨w.heap.size + 2, 0, none⟩) n n] 29)) := ((((Below.refl _ w).alloc (Nat.le_refl _) _).alloc (by simp) _).alloc (by simp; omega) _).alloc (by simp; omega) _
  have HB := Lib.hid hb
  refine (callsIn_wide (n := 6)).1 ?_
  refine callsIn_of_wp_marks Try.func11 rfl trivial ?_ rfl
  simp only [Try.ntmps11, List.size_toArray, List.length_cons, List.length_nil, Nat.reduceAdd, Nat.reduceSub, Array.replicate_succ, Array.replicate_zero, List.push_toArray, List.append_toArray, List.nil_append, List.cons_append]
  gi_wp2
  refine wpIn_scope_wide ?_
  gi_wp2
  refine wpIn_label ?_
  gi_wp2_with (refine ⟨trivial, ?_⟩; gi_at_call 17; refine (callsIn_wide.2 (CW.out _ HB.out)).mono ?_; rintro e w1 ⟨v1, rfl, hW1, hB1⟩)
  obtain ⟨Bx, sv, rfl, hBx, hBl, hOw⟩ := hW1
  obtain ⟨W0, hW0⟩ : ∃ W0, ((((w.alloc (.cells #[.int .i64 n] 3)).alloc (.cells #[.int .i64 ver] 3)).alloc (.cells (cellsI (List.replicate n 0)) 3)).alloc (.cells #[.slice (some ⟨w.heap.size + 2, 0, none⟩) n n] 29)) = W0 := ⟨_, rfl⟩
  have hsz : W0.heap.size = w.heap.size + 4 := by rw [← hW0]; simp
  have q0 : Blk W0 w.heap.size 3 #[.int .i64 n] := hW0 ▸ (((Blk.new_ w _ _ _ rfl).alloc _).alloc _).alloc _
  have q1 : Blk W0 (w.heap.size + 1) 3 #[.int .i64 ver] := hW0 ▸ ((Blk.new_ _ _ _ _ (by simp)).alloc _).alloc _
  have q2 : Blk W0 (w.heap.size + 2) 3 (cellsI (List.replicate n 0)) := hW0 ▸ (Blk.new_ _ _ _ _ (by simp)).alloc _
  have q3 : Blk W0 (w.heap.size + 3) 29 #[.slice (some ⟨w.heap.size + 2, 0, none⟩) n n] := hW0 ▸ Blk.new_ _ _ _ _ (by simp)
  have hBe := HB.out
  rw [hW0] at hBe hB1 hBx hOw
  have HI0 := Lib.hid (show StI w n w1.heap.size ver (h := h) [] w1 from ⟨⟨q0.keep hB1, q1.keep hB1, q3.keep hB1, q2.keep hB1⟩, hBe.trans (hB1.mono hBe.size), Nat.le_refl _, fun x hx => absurd hx (by simp)⟩)
  have hz1 : w.heap.size + 4 ≤ w1.heap.size := by have := hB1.size; omega
  have hmap : ((wsOf h).attach.map Subtype.val) = wsOf h := List.attach_map_subtype_val _
  have hOw' : w1.ownsRow W0.heap.size 27 10 sv (wsOf h).attach.length (((wsOf h).attach.map Subtype.val).flatMap encRx) := by rw [hmap, List.length_attach]; exact hOw
  have HOw := Lib.hid hOw'
  have HBl := Lib.hid hBl
  clear q0 q1 q2 q3 hBe hB1 hOw hOw' hBl hb hmk hmap
  refine wpIn_rangeFunc_ownH rfl (by omega) (gf := 50) (lb := #[.pointer (some ⟨Bx, 0, none⟩)]) rfl trivial (enters_of Try.func50 (by kernel_rfl) rfl)
    (values_stops Subtype.val Fence.wide 5 trivial rfl (by omega) Bx W0.heap.size w1.heap.size sv (wsOf h).attach (by rw [List.length_attach]; exact hwl) w1 rfl HBl.out HOw.out) KpM.trans (fun W l o o' hl ho _ _ => KpM.putObj ho (Nat.le_refl _) hl o') (Below.refl _ _) (fun _ => rfl)
    (StI w n w1.heap.size ver) (StX w n ver) (stI_own (by omega)) (stX_own (by omega)) HI0.out
    (fun x a' W => ∃ B8, w1.heap.size ≤ B8 ∧ Blk W B8 27 (encRx x.1).toArray ∧ a' = { tmps := #[.int .i64 n, v, .int .i64 ver, .pointer (some ⟨w.heap.size, 0, none⟩), undef, .pointer (some ⟨w.heap.size + 1, 0, none⟩), .slice none 0 0, .pointer (some ⟨w.heap.size + 1 + 1 + 1, 0, none⟩), .pointer (some ⟨B8, 0, none⟩), undef, undef, .int .i64 n, .bool (decide ((n : Int) < 1)), .bool (decide ((n : Int) < 1)), .int .i64 n, .bool (decide ((8 : Int) < n)), .bool (decide ((n : Int) < 1) || decide ((8 : Int) < n)), .int .i64 n, .slice (some ⟨w.heap.size + 1 + 1, 0, none⟩) n n, v, .func (.func 50) #[] #[.pointer (some ⟨Bx, 0, none⟩)], .agg (encRx x.1).toArray, undef, undef, undef, undef, undef, undef, undef, undef, undef, undef, undef, undef, undef, undef, undef, undef, undef, undef, undef, undef, undef, undef, undef, undef, undef, undef, undef, undef], defers := [] })
    ?hAx ?assign ?body ?done ?stop
  case hAx =>
    rintro x a' s W W' row ⟨B8, h1, h2, h3⟩ hg hr
    exact ⟨B8, h1, blk_own (β := Unit) (fun _ => B8) (fun _ => _) (fun _ => _) () W W' row h2 hg (fun r e => (hr r e).2), h3⟩
  case assign =>
    intro l pre x W K hi hK
    have hzW : w1.heap.size ≤ W.heap.size := hi.2.2.1
    simp only [encRx] at hK ⊢
    gi_wp2
    refine hK _ _ ((KeepsOthers.alloc _ _).from _) (KpM.alloc hzW _) ?_ ⟨W.heap.size, hzW, Blk.new _ _ _, rfl⟩
    obtain ⟨⟨j0, j1, j3, j2⟩, jB, jZ, jP⟩ := hi
    exact ⟨⟨j0.alloc _, j1.alloc _, j3.alloc _, j2.alloc _⟩, jB.alloc jB.size _, by simp; omega, jP⟩
  case body =>
    rintro l pre x a' W hl ⟨r, hr⟩ hI ⟨B8, hB8, hX8, rfl⟩ hlen
    have HI := Lib.hid hI
    obtain ⟨⟨j0, j1, j3, j2⟩, jB, jZ, jP⟩ := hI
    have f0 : W.cell? ⟨w.heap.size, 0, none⟩ = some (.int .i64 n) := by rw [j0.cell]; rfl
    have f1 : W.cell? ⟨w.heap.size + 1, 0, none⟩ = some (.int .i64 ver) := by rw [j1.cell]; rfl
    have f3 : W.cell? ⟨w.heap.size + 1 + 1 + 1, 0, none⟩ = some (.slice (some ⟨w.heap.size + 2, 0, none⟩) n n) := by rw [j3.cell]; rfl
    have x5 : W.cell? ⟨B8, 5, none⟩ = some (.int .i64 x.1.wv) := by rw [hX8.cell]; rfl
    have x7 : W.cell? ⟨B8, 7, none⟩ = some (.slice x.1.wA x.1.W.length x.1.wc) := by rw [hX8.cell]; rfl
    have HX8 := Lib.hid hX8
    have hok := (HOK.out x.1 x.2).below jB
    have HOX := Lib.hid hok
    clear j0 j1 j3 j2 jB jP hX8 hok
    obtain ⟨m, hm⟩ : ∃ m, m = x.1.W.length := ⟨_, rfl⟩
    rw [← hm] at x7
    have HM := Lib.hid hm
    have hbig : m ≤ 9223372036854775807 := by obtain ⟨A', c', e', h1', h2'⟩ := (HOK.out x.1 x.2).2.form; injection e' with _ _ e3; unfold maxLen at h2'; omega
    clear hm
    by_cases hgt : ver < x.1.wv
    · gi_wp2
      obtain ⟨⟨j0, j1, j3, j2⟩, jB, jZ, jP⟩ := HI.out
      exact ⟨⟨Nat.le_refl _, fun _ _ _ h _ => h⟩, ⟨j3, by rw [List.dropLast_concat]; exact j2⟩, jB, rfl, by rw [List.dropLast_concat]; exact jP, x, by simp, hgt⟩
    · have HL0 := Lib.hid (show StJ w n w1.heap.size ver W0.heap.size W pre x 0 W from by
        obtain ⟨⟨j0, j1, j3, j2⟩, jB, jZ, jP⟩ := HI.out
        exact ⟨⟨j0, j1, j3, j2⟩, jB, jZ, KeepsFrom.refl _ _, KpM.refl _ _ _⟩)
      have HGT := Lib.hid hgt
      gi_wp2
      clear x5 f1 f3
      gi_loopw [29] (fun i wr => ∃ k : Nat, k ≤ m ∧ i = .int .i64 k ∧ Hid (StJ w n w1.heap.size ver W0.heap.size W pre x k wr)) (fun i _ => m - (intOf i).toNat)
      case atStart => exact ⟨0, Nat.zero_le _, by go_num, HL0.out⟩
      case round =>
        obtain ⟨k, hk, rfl, HJ⟩ := hrel
        clear f0 x7 HL0
        obtain ⟨⟨j0, j1, j3, j2⟩, jB, jZ, jK, jM⟩ := HJ.out
        have f0 : wr.cell? ⟨w.heap.size, 0, none⟩ = some (.int .i64 n) := by rw [j0.cell]; rfl
        have f3 : wr.cell? ⟨w.heap.size + 1 + 1 + 1, 0, none⟩ = some (.slice (some ⟨w.heap.size + 2, 0, none⟩) n n) := by rw [j3.cell]; rfl
        have l0 := j0.lt
        have l3 : w.heap.size + 1 + 1 + 1 < wr.heap.size := j3.lt
        have l2 : w.heap.size + 1 + 1 < wr.heap.size := j2.lt
        by_cases hlt : k < m
        · have hkW : k < x.1.W.length := by have := HM.out; omega
          obtain ⟨b, o, hA, hbl, hel⟩ := Sl.pos encPr encPr_len (HOK.out x.1 x.2).2 (by omega)
          rw [hA]
          have hel := hel wr jB k hkW
          obtain ⟨p, hp⟩ : ∃ p, p = x.1.W[k] := ⟨_, rfl⟩
          rw [← hp] at hel
          have HT := Lib.hid (show x.1.W.take (k + 1) = x.1.W.take k ++ [p] from by rw [List.take_succ_eq_append_getElem hkW, hp])
          have e0 := hel 0 _ rfl
          have e1 := hel 1 _ rfl
          simp only [Nat.add_zero] at e0
          have hlb : b < wr.heap.size := Nat.lt_of_lt_of_le hbl jB.size
          have hlen2 := applyW_len n (foldS n (pre.map Subtype.val)) (x.1.W.take k)
          rw [foldS_len] at hlen2
          have HLEN := Lib.hid hlen2
          have hk0 : (0 : Int) ≤ (k : Int) := by omega
          have hk1 : (k : Int) < (m : Int) := by omega
          have hzr := jB.size
          have hBA : Below w.heap.size w (wr.alloc (.cells #[.int .i64 p.at_, .int .i64 p.v] 34)) := jB.alloc jB.size _
          have hKA : KeepsFrom w1.heap.size W (wr.alloc (.cells #[.int .i64 p.at_, .int .i64 p.v] 34)) := jK.trans ((KeepsOthers.alloc _ _).from _)
          have hMA : KpM W0.heap.size w1.heap.size W (wr.alloc (.cells #[.int .i64 p.at_, .int .i64 p.v] 34)) := jM.trans (KpM.alloc jZ _)
          have hSame : putP n (applyW n (foldS n (pre.map Subtype.val)) (x.1.W.take k)) p = applyW n (foldS n (pre.map Subtype.val)) (x.1.W.take k) → StJ w n w1.heap.size ver W0.heap.size W pre x (k + 1) (wr.alloc (.cells #[.int .i64 p.at_, .int .i64 p.v] 34)) := fun he =>
            ⟨⟨j0.alloc _, j1.alloc _, j3.alloc _, by rw [HT.out, applyW_snoc, he]; exact j2.alloc _⟩, hBA, by simp; omega, hKA, hMA⟩
          have HSAME := Lib.hid hSame
          have HJJ := Lib.hid (And.intro j0 (And.intro j1 (And.intro j3 (And.intro j2 (And.intro jB (And.intro jK jM))))))
          have g2 := fun i => j2.cell i
          have g2f := j2.free
          clear hel hp hlen2 hA hBA hKA hMA hSame j0 j1 j3 j2 jB jK jM
          by_cases y0 : 0 ≤ p.at_
          · obtain ⟨q, hq⟩ := Int.eq_ofNat_of_zero_le y0
            by_cases yn : p.at_ < (n : Int)
            · have hqn : q < n := by omega
              have g0 : wr.cell? ⟨w.heap.size + 2, q, none⟩ = some (.int .i64 ((applyW n (foldS n (pre.map Subtype.val)) (x.1.W.take k))[q]'(by rw [HLEN.out]; exact hqn))) := by rw [g2, cellsI_at]
              have gf := g2f q
              have HP := Lib.hid (show putP n (applyW n (foldS n (pre.map Subtype.val)) (x.1.W.take k)) p = (applyW n (foldS n (pre.map Subtype.val)) (x.1.W.take k)).set q p.v from by unfold putP; rw [if_pos ⟨y0, yn⟩, hq]; rfl)
              clear g2 g2f
              rw [hq] at e0 yn y0 HSAME
              clear hq
              gi_wp2
              go_roundw
              case measure => simp [intOf]; omega
              case rel =>
                refine ⟨k + 1, by omega, by go_num, ?_⟩
                obtain ⟨j0, j1, j3, j2, jB, jK, jM⟩ := HJJ.out
                refine ⟨⟨(j0.far (by simp) _).alloc _, (j1.far (by simp) _).alloc _, (j3.far (by simp) _).alloc _, ?_⟩, (jB.setCell (by simp) _).alloc (by simp; omega) _, by simp; omega, (jK.trans (keeps_setCell _ _ _ _)).trans ((KeepsOthers.alloc _ _).from _), (jM.trans (KpM.setCell (.inl (by simp; omega)) _)).trans (KpM.alloc (by simp; omega) _)⟩
                have h5 := (j2.set_ q (.int .i64 p.v)).alloc (.cells #[.int .i64 (q : Int), .int .i64 p.v] 34)
                rw [cellsI_set] at h5
                rw [HT.out, applyW_snoc, HP.out]
                exact h5
            · have HP := Lib.hid (HSAME.out (by unfold putP; rw [if_neg (fun h => yn h.2)]))
              clear g2 g2f hq
              gi_wp2
              go_roundw
              case measure => simp [intOf]; omega
              case rel => exact ⟨k + 1, by omega, by go_num, HP⟩
          · have HP := Lib.hid (HSAME.out (by unfold putP; rw [if_neg (fun h => y0 h.1)]))
            clear g2 g2f
            gi_wp2
            go_roundw
            case measure => simp [intOf]; omega
            case rel => exact ⟨k + 1, by omega, by go_num, HP⟩
        · obtain rfl : k = m := by omega
          clear j0 j1 j3 j2 jB jZ jK jM f0 f3
          gi_wp2
          obtain ⟨⟨j0, j1, j3, j2⟩, jB, jZ, jK, jM⟩ := HJ.out
          obtain ⟨_, _, _, jP⟩ := HI.out
          refine ⟨jK, jM, ⟨j0, j1, j3, ?_⟩, jB, jZ, ?_⟩
          · rw [List.map_append, List.map_cons, List.map_nil, foldS_snoc]
            rw [List.take_of_length_le (by have := HM.out; omega)] at j2
            exact j2
          · intro y hy
            rw [List.mem_append] at hy
            rcases hy with hy | hy
            · exact jP y hy
            · simp at hy; subst hy; have := HGT.out; omega
  case done =>
    rintro D ys W hD rfl hI hK
    obtain ⟨⟨j0, j1, j3, j2⟩, jB, jZ, jP⟩ := hI
    have f3 : W.cell? ⟨w.heap.size + 1 + 1 + 1, 0, none⟩ = some (.slice (some ⟨w.heap.size + 2, 0, none⟩) n n) := by rw [j3.cell]; rfl
    have HJ := Lib.hid (And.intro j2 (And.intro jB jP))
    have HK := Lib.hid hK
    clear j0 j1 j3 j2 jB jP hK
    gi_wp2
    show LeavesInM Fence.wide 6 _ _ _ _ ((D :: ([] : List Nat)).map markD) _ _
    refine leaves_marks (F := Fence.wide) (n := 6) (B := w.heap.size) (D :: []) _ (by simp) (fun D' hD' => ?_) fun W' hq => ?_
    · simp at hD'; subst hD'; exact ⟨by omega, HK.out⟩
    · obtain ⟨j2, jB, jP⟩ := HJ.out
      have hcells := hq.1 _ _ _ j2
      have e : (wsOf h).takeWhile (fun x => decide (x.wv ≤ ver)) = (wsOf h).attach.map Subtype.val := by
        rw [List.attach_map_subtype_val, takeW_all]
        intro x hx
        exact decide_eq_true (jP ⟨x, hx⟩ (List.mem_attach _ _))
      refine ⟨_, results_tmp rfl _ _ _, ?_⟩
      rw [e]
      exact ⟨_, rfl, sl_ints hcells h8, jB.trans hq.2⟩
  case stop =>
    rintro D c pre W hD ⟨k, hk, rfl⟩ ⟨⟨j3, j2⟩, jB, rfl, jP, y, hy, hyv⟩ hK
    have f3 : W.cell? ⟨w.heap.size + 1 + 1 + 1, 0, none⟩ = some (.slice (some ⟨w.heap.size + 2, 0, none⟩) n n) := by rw [j3.cell]; rfl
    have e : (wsOf h).takeWhile (fun x => decide (x.wv ≤ ver)) = ((wsOf h).attach.take (k + 1)).dropLast.map Subtype.val := by
      have hk2 : k < (wsOf h).length := by rw [List.length_attach] at hk; exact hk
      have e1 : ((wsOf h).attach.take (k + 1)).dropLast = (wsOf h).attach.take k := by
        rw [List.take_succ_eq_append_getElem hk, List.dropLast_concat]
      have e2 : (wsOf h)[k] = y.1 := by
        rw [List.take_succ_eq_append_getElem hk, List.getLast?_concat] at hy
        have := Option.some.inj hy
        rw [← this]
        simp
      rw [e1] at jP ⊢
      rw [List.map_take, List.attach_map_subtype_val]
      refine takeW_upto hk2 (fun x hx => ?_) (by rw [e2]; exact decide_eq_false (by omega))
      have hx2 : x ∈ ((wsOf h).attach.take k).map Subtype.val := by rw [List.map_take, List.attach_map_subtype_val]; exact hx
      rw [List.mem_map] at hx2
      obtain ⟨z, hz, rfl⟩ := hx2
      exact decide_eq_true (jP z hz)
    have HJ := Lib.hid (And.intro j2 (And.intro jB e))
    have HK := Lib.hid hK
    clear j3 j2 jB jP hK hy hyv e
    gi_wp2
    show LeavesInM Fence.wide 6 _ _ _ _ ((D :: ([] : List Nat)).map markD) _ _
    refine leaves_marks (F := Fence.wide) (n := 6) (B := w.heap.size) (D :: []) _ (by simp) (fun D' hD' => ?_) fun W' hq => ?_
    · simp at hD'; subst hD'; exact ⟨by omega, HK.out⟩
    · obtain ⟨j2, jB, e⟩ := HJ.out
      refine ⟨_, results_tmp rfl _ _ _, ?_⟩
      rw [e]
      exact ⟨_, rfl, sl_ints (hq.1 _ _ _ j2) h8, jB.trans hq.2⟩

theorem state_any (n ver : Int) (v : Value) (h : List Rx) (w : World) (hv : RecsV w v h) (hl : h.length ≤ 100000) : Calls Try.prog 11 #[.int .i64 n, v, .int .i64 ver] w (StatePost (stateL n h ver) w) := by
  unfold stateL
  by_cases hn : n < 1 ∨ 8 < n
  · rw [if_pos hn]; exact state_no n ver v w hn
  · rw [if_neg hn]
    obtain ⟨m, rfl⟩ : ∃ m : Nat, n = (m : Int) := ⟨n.toNat, by omega⟩
    rw [Int.toNat_natCast]
    exact state_main m ver v h w hv hl (by omega) (by omega)
end Go.Proofs.Ytmcbnpeihedcaaa
namespace Go.Proofs.Ytmcbnpeihedcaaa
set_option linter.unusedSimpArgs false
open Go Go.RowKit
set_option linter.unusedVariables false

set_option maxHeartbeats 1000000 in
theorem index_pairS (p : Pr → Bool) (g : Nat) (lb : Array Value) (eg : ∀ args w, (callFunc g args).run Try.prog w = .ok (.enter g args) w) (v : Value) (zs : List (Pr)) (w : World)
    (hp : PredB Try.prog g lb (fun x : Pr => Value.agg (encPr x).toArray) p w) (hv : Sl w 2 v zs.length (zs.flatMap encPr)) :
    Calls Try.prog 51 #[v, .func (.func g) #[] lb] w fun e w' => e = .returned (.int .i64 (idxF p zs)) ∧ Below w.heap.size w w' := by
  have hk : ∀ x, (encPr x).length = 2 := fun _ => rfl
  obtain ⟨hl, ⟨rfl, hz⟩ | ⟨a, c, rfl, hc, hm, hr⟩⟩ := hv
  · obtain rfl : zs = [] := List.eq_nil_of_length_eq_zero hz
    clear hl hz
    go_enter Try.func51, Try.ntmps51
    go_wp2
    refine wp_loop_rounds 1 ?_
    rw [rounds_succ]
    go_wp2
    go_ret
    exact ⟨rfl, Below.refl _ _⟩
  · obtain ⟨n, hn⟩ : ∃ n, zs.length = n := ⟨_, rfl⟩
    rw [hn] at hl hc hr ⊢
    have hbig : n ≤ 9223372036854775807 := by unfold maxLen at hm; omega
    have hrow : ∀ (W : World), Below w.heap.size w W → ∀ j (hj : j < zs.length), a.spot = none ∧ ∀ i u, (encPr zs[j])[i]? = some u → W.cell? ⟨a.block, a.off + j * 2 + i, none⟩ = some u := fun W hW j hj => by
      obtain ⟨hs, hC⟩ := hr (by omega)
      refine ⟨hs, fun i u hi => ?_⟩
      rw [Nat.add_assoc]
      exact (hC.same hW).2 _ _ (flat_get encPr hk zs j hj i u hi)
    clear hr
    have HN := Lib.hid hn
    clear hn hl hk hm hc
    go_enter Try.func51, Try.ntmps51
    go_wp2
    go_loopg [5, 8] n (fun gg _ s8 wr => ∃ kk : Nat, kk ≤ n ∧ n - kk ≤ gg ∧ s8 = .int .i64 kk ∧ Hid (Below w.heap.size w wr) ∧ Hid (∀ j (h : j < zs.length), j < kk → p zs[j] = false))
    case atStart => exact ⟨0, Nat.zero_le _, by omega, rfl, Below.refl _ w, fun j _ hj => absurd hj (Nat.not_lt_zero _)⟩
    case round =>
      obtain ⟨kk, hkk, hg, rfl, BW, AA⟩ := hrel
      by_cases hlt : kk < n
      · have hltz : (kk : Int) < (n : Int) := by omega
        have hlt' : kk < zs.length := by rw [HN.out]; exact hlt
        obtain ⟨hs, l2⟩ := hrow wr BW.out kk hlt'
        have hcall := hp wr zs[kk] BW.out
        clear hrow hp
        obtain ⟨b, o, s⟩ := a
        simp only at hs l2
        subst hs
        generalize hy : zs[kk] = y at l2 hcall
        have B : Hid (zs[kk] = y) := hy
        clear hy
        (have c0 := l2 0 _ rfl; have c1 := l2 1 _ rfl; simp only [Nat.add_zero] at c0)
        clear l2
        cases hq : p y with
        | true =>
          rw [hq] at hcall
          have HQ := Lib.hid hq
          clear hq
          go_wp2_with (go_at_fn g; refine hcall.mono ?_; rintro e w' ⟨rfl, hb'⟩)
          go_ret
          refine ⟨?_, BW.out.trans (hb'.mono BW.out.size)⟩
          rw [idxF_hit p zs kk hlt' (by rw [B.out]; exact HQ.out) (fun j hj => AA.out j (by omega) hj)]
          rfl
        | false =>
          rw [hq] at hcall
          have HQ := Lib.hid hq
          clear hq
          go_wp2_with (go_at_fn g; refine hcall.mono ?_; rintro e w' ⟨rfl, hb'⟩)
          go_roundg (n - (kk + 1))
          case measure => omega
          case rel =>
            refine ⟨kk + 1, by omega, by omega, by go_num, BW.out.trans (hb'.mono BW.out.size), (show Hid _ from fun j h hj => ?_)⟩
            by_cases e : j = kk
            · subst e
              rw [B.out]; exact HQ.out
            · exact AA.out j h (by omega)
      · have hltz : ¬ (kk : Int) < (n : Int) := by omega
        obtain rfl : n = kk := by omega
        go_wp2
        go_ret
        refine ⟨?_, BW.out⟩
        rw [idxF_miss p zs (fun j h => AA.out j h (by rw [HN.out] at h; exact h))]
        rfl
set_option maxHeartbeats 400000 in
theorem contains_pair (p : Pr → Bool) (g : Nat) (lb : Array Value) (eg : ∀ args w, (callFunc g args).run Try.prog w = .ok (.enter g args) w) (v : Value) (zs : List (Pr)) (w : World)
    (hp : PredB Try.prog g lb (fun x : Pr => Value.agg (encPr x).toArray) p w) (hv : Sl w 2 v zs.length (zs.flatMap encPr)) :
    Calls Try.prog 34 #[v, .func (.func g) #[] lb] w fun e w' => e = .returned (.bool (zs.any p)) ∧ Below w.heap.size w w' := by
  rw [← idxF_any]
  have hcon := index_pairS p g lb eg v zs w hp hv
  clear hp hv eg
  generalize idxF p zs = r at hcon ⊢
  go_enter Try.func34, Try.ntmps34
  go_wp2_with (go_at_call 51; refine hcon.mono ?_; rintro e w' ⟨rfl, hb'⟩)
  go_ret
  exact ⟨rfl, hb'⟩

/-- Does a pair not agree with words? -/
def badW (l : List Int) (p : Pr) : Bool := decide (p.at_ < 0) || (decide ((l.length : Int) ≤ p.at_) || !(l.getD p.at_.toNat 0 == p.v))
def agreeL (R : List Pr) (l : List Int) : Bool := !R.any (badW l)

section
attribute [local go_sem ↓] Go.wp_at_zero Go.wp_at_succ
set_option maxRecDepth 100000 in
set_option maxHeartbeats 2000000 in
theorem agree1_any (p : Pr) (A : Option Addr) (c B : Nat) (l : List Int) (w : World) (hB : B < w.heap.size) (hc : w.cell? ⟨B, 0, none⟩ = some (.slice A l.length c)) (hv : Sl w 1 (.slice A l.length c) l.length (l.flatMap encI)) :
    Calls Try.prog 35 #[.agg (encPr p).toArray, .pointer (some ⟨B, 0, none⟩)] w fun e w' => e = .returned (.bool (badW l p)) ∧ Below w.heap.size w w' := by
  have hb0 : Below w.heap.size w (w.alloc (.cells (encPr p).toArray 34)) := (Below.refl _ w).alloc (Nat.le_refl _) _
  have hbd : ∀ W, Below w.heap.size w W → W.cell? ⟨B, 0, none⟩ = some (.slice A l.length c) := fun W h => (h.cell (p := ⟨B, 0, none⟩) hB).trans hc
  have kB := Blk.new_ w 34 (encPr p).toArray _ rfl
  obtain ⟨w1, hw1⟩ : ∃ x, w.alloc (.cells (encPr p).toArray 34) = x := ⟨_, rfl⟩
  have HB0 := Lib.hid hb0
  rw [hw1] at hb0 kB
  have s0 := hbd w1 hb0
  have p0 : w1.cell? ⟨w.heap.size, 0, none⟩ = some (.int .i64 p.at_) := by rw [kB.cell]; rfl
  have p1 : w1.cell? ⟨w.heap.size, 1, none⟩ = some (.int .i64 p.v) := by rw [kB.cell]; rfl
  have HW := Lib.hid hw1
  have HB1 := Lib.hid hb0
  have hE := fun h0 : 0 < l.length => Sl.pos encI encI_len hv h0
  obtain ⟨n, hn⟩ : ∃ n, n = l.length := ⟨_, rfl⟩
  have HN := Lib.hid hn
  have HE := Lib.hid hE
  rw [← hn] at s0
  simp only [encPr] at HW ⊢
  clear hc hv hb0 hbd kB hw1 hE hn
  by_cases c1 : p.at_ < 0
  · rw [show badW l p = true from by simp [badW, c1]]
    go_enter Try.func35, Try.ntmps35
    go_wp2_with fail
    rw [HW.out]
    refine wp_region_held_drew (S := fun w' => w'.cell? ⟨w.heap.size, 0, none⟩ = some (.int .i64 p.at_)) (by kernel_rfl) ?_ (fun hHeldbr => ?_)
    · exact p0
    refine tkW 0 { dst := some 4, op := Op.fieldAddr 34 (Operand.tmp 2) 0, type := 0, pos := "serial.go:44", after := _, guard := none } (v := ?vbr0) rfl (Or.inl ⟨by rfl, ?hybr0⟩) ?restbr0
    case hybr0 => (intro w hSw; (try dsimp only at hSw); go_simp <;> with_reducible rfl)
    try simp only [putW, setZ, setS]
    refine tkW 1 { dst := some 5, op := Op.load 3 (Operand.tmp 4), type := 3, pos := "serial.go:44", after := _, guard := none } (v := ?vbr1) rfl (Or.inl ⟨by rfl, ?hybr1⟩) ?restbr1
    case hybr1 => (intro w hSw; (try dsimp only at hSw); go_simp <;> with_reducible rfl)
    try simp only [putW, setZ, setS]
    refine tkW 2 { dst := some 6, op := Op.binOp BinOp.lss 3 (Operand.tmp 5) (Operand.const (Value.int IntKind.i64 0)) 3, type := 4, pos := "serial.go:44", after := _, guard := none } (v := .bool true) rfl (Or.inl ⟨by rfl, ?hybr2⟩) ?restbr2
    case hybr2 => (intro w hSw; (try dsimp only at hSw); go_simp <;> first | done | with_reducible rfl | omega | (simp; done) | (simp; omega) | (simp [*]; done) | (simp [*]; omega) | exact decide_eq_false (by omega) | exact decide_eq_true (by omega))
    try simp only [putW, setZ, setS]
    refine tkW 3 { dst := some 7, op := Op.move (Operand.tmp 6), type := 4, pos := "serial.go:44", after := _, guard := none } (v := ?vbr3) rfl (Or.inl ⟨by rfl, ?hybr3⟩) ?restbr3
    case hybr3 => (intro w hSw; (try dsimp only at hSw); go_simp <;> with_reducible rfl)
    try simp only [putW, setZ, setS]
    refine tkW 4 { dst := some 8, op := Op.fieldAddr 34 (Operand.tmp 2) 0, type := 0, pos := "serial.go:44", after := _, guard := some (3, false) } rfl (Or.inr ⟨by rfl, rfl⟩) ?_
    try simp only [putW, setZ, setS]
    refine tkW 5 { dst := some 9, op := Op.load 3 (Operand.tmp 8), type := 3, pos := "serial.go:44", after := _, guard := some (3, false) } rfl (Or.inr ⟨by rfl, rfl⟩) ?_
    try simp only [putW, setZ, setS]
    refine tkW 6 { dst := some 10, op := Op.load 29 (Operand.tmp 1), type := 29, pos := "serial.go:44", after := _, guard := some (3, false) } rfl (Or.inr ⟨by rfl, rfl⟩) ?_
    try simp only [putW, setZ, setS]
    refine tkW 7 { dst := some 11, op := Op.call { callee := Callee.builtin Builtin.len, args := #[Operand.tmp 10], argTypes := #[29] }, type := 3, pos := "serial.go:44", after := _, guard := some (3, false) } rfl (Or.inr ⟨by rfl, rfl⟩) ?_
    try simp only [putW, setZ, setS]
    refine tkW 8 { dst := some 12, op := Op.binOp BinOp.geq 3 (Operand.tmp 9) (Operand.tmp 11) 3, type := 4, pos := "serial.go:44", after := _, guard := some (3, false) } rfl (Or.inr ⟨by rfl, rfl⟩) ?_
    try simp only [putW, setZ, setS]
    refine tkW 9 { dst := some 13, op := Op.pick (Operand.tmp 7) (Operand.const (Value.bool true)) (Operand.tmp 12), type := 4, pos := "serial.go:44", after := _, guard := none } (v := ?vbr9) rfl (Or.inl ⟨by rfl, ?hybr9⟩) ?restbr9
    case hybr9 => (intro w hSw; (try dsimp only at hSw); go_simp <;> with_reducible rfl)
    try simp only [putW, setZ, setS]
    refine tkW 10 { dst := some 14, op := Op.move (Operand.tmp 13), type := 4, pos := "serial.go:44", after := _, guard := none } (v := ?vbr10) rfl (Or.inl ⟨by rfl, ?hybr10⟩) ?restbr10
    case hybr10 => (intro w hSw; (try dsimp only at hSw); go_simp <;> with_reducible rfl)
    try simp only [putW, setZ, setS]
    refine tkW 11 { dst := some 15, op := Op.load 29 (Operand.tmp 1), type := 29, pos := "serial.go:44", after := _, guard := some (10, false) } rfl (Or.inr ⟨by rfl, rfl⟩) ?_
    try simp only [putW, setZ, setS]
    refine tkW 12 { dst := some 16, op := Op.fieldAddr 34 (Operand.tmp 2) 0, type := 0, pos := "serial.go:44", after := _, guard := some (10, false) } rfl (Or.inr ⟨by rfl, rfl⟩) ?_
    try simp only [putW, setZ, setS]
    refine tkW 13 { dst := some 17, op := Op.load 3 (Operand.tmp 16), type := 3, pos := "serial.go:44", after := _, guard := some (10, false) } rfl (Or.inr ⟨by rfl, rfl⟩) ?_
    try simp only [putW, setZ, setS]
    refine tkW 14 { dst := some 18, op := Op.indexAddr 29 (Operand.tmp 15) (Operand.tmp 17), type := 0, pos := "serial.go:44", after := _, guard := some (10, false) } rfl (Or.inr ⟨by rfl, rfl⟩) ?_
    try simp only [putW, setZ, setS]
    refine tkW 15 { dst := some 19, op := Op.load 3 (Operand.tmp 18), type := 3, pos := "serial.go:44", after := _, guard := some (10, false) } rfl (Or.inr ⟨by rfl, rfl⟩) ?_
    try simp only [putW, setZ, setS]
    refine tkW 16 { dst := some 20, op := Op.fieldAddr 34 (Operand.tmp 2) 1, type := 0, pos := "serial.go:44", after := _, guard := some (10, false) } rfl (Or.inr ⟨by rfl, rfl⟩) ?_
    try simp only [putW, setZ, setS]
    refine tkW 17 { dst := some 21, op := Op.load 3 (Operand.tmp 20), type := 3, pos := "serial.go:44", after := _, guard := some (10, false) } rfl (Or.inr ⟨by rfl, rfl⟩) ?_
    try simp only [putW, setZ, setS]
    refine tkW 18 { dst := some 22, op := Op.binOp BinOp.neq 3 (Operand.tmp 19) (Operand.tmp 21) 3, type := 4, pos := "serial.go:44", after := _, guard := some (10, false) } rfl (Or.inr ⟨by rfl, rfl⟩) ?_
    try simp only [putW, setZ, setS]
    refine tkW 19 { dst := some 23, op := Op.pick (Operand.tmp 14) (Operand.const (Value.bool true)) (Operand.tmp 22), type := 4, pos := "serial.go:44", after := _, guard := none } (v := ?vbr19) rfl (Or.inl ⟨by rfl, ?hybr19⟩) ?restbr19
    case hybr19 => (intro w hSw; (try dsimp only at hSw); go_simp <;> with_reducible rfl)
    try simp only [putW, setZ, setS]
    refine tkW 20 { dst := some 3, op := Op.assign (Operand.tmp 23), type := 4, pos := "serial.go:44", after := _, guard := none } (v := ?vbr20) rfl (Or.inl ⟨by rfl, ?hybr20⟩) ?restbr20
    case hybr20 => (intro w hSw; (try dsimp only at hSw); go_simp <;> with_reducible rfl)
    try simp only [putW, setZ, setS]
    refine wpAnyH_done (by kernel_rfl) ?_ _
    go_wp2
    go_ret
    exact ⟨rfl, HB1.out.drew⟩
  · by_cases c2 : (n : Int) ≤ p.at_
    · rw [show badW l p = true from by have := HN.out; simp [badW]; omega]
      go_enter Try.func35, Try.ntmps35
      go_wp2_with fail
      rw [HW.out]
      refine wp_region_held_drew (S := fun w' => w'.cell? ⟨w.heap.size, 0, none⟩ = some (.int .i64 p.at_) ∧ w'.cell? ⟨B, 0, none⟩ = some (.slice A n c)) (by kernel_rfl) ?_ (fun hHeldcr => ?_)
      · exact ⟨p0, s0⟩
      refine tkW 0 { dst := some 4, op := Op.fieldAddr 34 (Operand.tmp 2) 0, type := 0, pos := "serial.go:44", after := _, guard := none } (v := ?vcr0) rfl (Or.inl ⟨by rfl, ?hycr0⟩) ?restcr0
      case hycr0 => (intro w hSw; (try dsimp only at hSw); go_simp <;> with_reducible rfl)
      try simp only [putW, setZ, setS]
      refine tkW 1 { dst := some 5, op := Op.load 3 (Operand.tmp 4), type := 3, pos := "serial.go:44", after := _, guard := none } (v := ?vcr1) rfl (Or.inl ⟨by rfl, ?hycr1⟩) ?restcr1
      case hycr1 => (intro w hSw; (try dsimp only at hSw); go_simp <;> with_reducible rfl)
      try simp only [putW, setZ, setS]
      refine tkW 2 { dst := some 6, op := Op.binOp BinOp.lss 3 (Operand.tmp 5) (Operand.const (Value.int IntKind.i64 0)) 3, type := 4, pos := "serial.go:44", after := _, guard := none } (v := .bool false) rfl (Or.inl ⟨by rfl, ?hycr2⟩) ?restcr2
      case hycr2 => (intro w hSw; (try dsimp only at hSw); go_simp <;> first | done | with_reducible rfl | omega | (simp; done) | (simp; omega) | (simp [*]; done) | (simp [*]; omega) | exact decide_eq_false (by omega) | exact decide_eq_true (by omega))
      try simp only [putW, setZ, setS]
      refine tkW 3 { dst := some 7, op := Op.move (Operand.tmp 6), type := 4, pos := "serial.go:44", after := _, guard := none } (v := ?vcr3) rfl (Or.inl ⟨by rfl, ?hycr3⟩) ?restcr3
      case hycr3 => (intro w hSw; (try dsimp only at hSw); go_simp <;> with_reducible rfl)
      try simp only [putW, setZ, setS]
      refine tkW 4 { dst := some 8, op := Op.fieldAddr 34 (Operand.tmp 2) 0, type := 0, pos := "serial.go:44", after := _, guard := some (3, false) } (v := ?vcr4) rfl (Or.inl ⟨by rfl, ?hycr4⟩) ?restcr4
      case hycr4 => (intro w hSw; (try dsimp only at hSw); go_simp <;> with_reducible rfl)
      try simp only [putW, setZ, setS]
      refine tkW 5 { dst := some 9, op := Op.load 3 (Operand.tmp 8), type := 3, pos := "serial.go:44", after := _, guard := some (3, false) } (v := ?vcr5) rfl (Or.inl ⟨by rfl, ?hycr5⟩) ?restcr5
      case hycr5 => (intro w hSw; (try dsimp only at hSw); go_simp <;> with_reducible rfl)
      try simp only [putW, setZ, setS]
      refine tkW 6 { dst := some 10, op := Op.load 29 (Operand.tmp 1), type := 29, pos := "serial.go:44", after := _, guard := some (3, false) } (v := ?vcr6) rfl (Or.inl ⟨by rfl, ?hycr6⟩) ?restcr6
      case hycr6 => (intro w hSw; (try dsimp only at hSw); go_simp <;> with_reducible rfl)
      try simp only [putW, setZ, setS]
      refine tkW 7 { dst := some 11, op := Op.call { callee := Callee.builtin Builtin.len, args := #[Operand.tmp 10], argTypes := #[29] }, type := 3, pos := "serial.go:44", after := _, guard := some (3, false) } (v := ?vcr7) rfl (Or.inl ⟨by rfl, ?hycr7⟩) ?restcr7
      case hycr7 => (intro w hSw; (try dsimp only at hSw); go_simp <;> with_reducible rfl)
      try simp only [putW, setZ, setS]
      refine tkW 8 { dst := some 12, op := Op.binOp BinOp.geq 3 (Operand.tmp 9) (Operand.tmp 11) 3, type := 4, pos := "serial.go:44", after := _, guard := some (3, false) } (v := .bool true) rfl (Or.inl ⟨by rfl, ?hycr8⟩) ?restcr8
      case hycr8 => (intro w hSw; (try dsimp only at hSw); go_simp <;> first | done | with_reducible rfl | omega | (simp; done) | (simp; omega) | (simp [*]; done) | (simp [*]; omega) | exact decide_eq_false (by omega) | exact decide_eq_true (by omega))
      try simp only [putW, setZ, setS]
      refine tkW 9 { dst := some 13, op := Op.pick (Operand.tmp 7) (Operand.const (Value.bool true)) (Operand.tmp 12), type := 4, pos := "serial.go:44", after := _, guard := none } (v := ?vcr9) rfl (Or.inl ⟨by rfl, ?hycr9⟩) ?restcr9
      case hycr9 => (intro w hSw; (try dsimp only at hSw); go_simp <;> with_reducible rfl)
      try simp only [putW, setZ, setS]
      refine tkW 10 { dst := some 14, op := Op.move (Operand.tmp 13), type := 4, pos := "serial.go:44", after := _, guard := none } (v := ?vcr10) rfl (Or.inl ⟨by rfl, ?hycr10⟩) ?restcr10
      case hycr10 => (intro w hSw; (try dsimp only at hSw); go_simp <;> with_reducible rfl)
      try simp only [putW, setZ, setS]
      refine tkW 11 { dst := some 15, op := Op.load 29 (Operand.tmp 1), type := 29, pos := "serial.go:44", after := _, guard := some (10, false) } rfl (Or.inr ⟨by rfl, rfl⟩) ?_
      try simp only [putW, setZ, setS]
      refine tkW 12 { dst := some 16, op := Op.fieldAddr 34 (Operand.tmp 2) 0, type := 0, pos := "serial.go:44", after := _, guard := some (10, false) } rfl (Or.inr ⟨by rfl, rfl⟩) ?_
      try simp only [putW, setZ, setS]
      refine tkW 13 { dst := some 17, op := Op.load 3 (Operand.tmp 16), type := 3, pos := "serial.go:44", after := _, guard := some (10, false) } rfl (Or.inr ⟨by rfl, rfl⟩) ?_
      try simp only [putW, setZ, setS]
      refine tkW 14 { dst := some 18, op := Op.indexAddr 29 (Operand.tmp 15) (Operand.tmp 17), type := 0, pos := "serial.go:44", after := _, guard := some (10, false) } rfl (Or.inr ⟨by rfl, rfl⟩) ?_
      try simp only [putW, setZ, setS]
      refine tkW 15 { dst := some 19, op := Op.load 3 (Operand.tmp 18), type := 3, pos := "serial.go:44", after := _, guard := some (10, false) } rfl (Or.inr ⟨by rfl, rfl⟩) ?_
      try simp only [putW, setZ, setS]
      refine tkW 16 { dst := some 20, op := Op.fieldAddr 34 (Operand.tmp 2) 1, type := 0, pos := "serial.go:44", after := _, guard := some (10, false) } rfl (Or.inr ⟨by rfl, rfl⟩) ?_
      try simp only [putW, setZ, setS]
      refine tkW 17 { dst := some 21, op := Op.load 3 (Operand.tmp 20), type := 3, pos := "serial.go:44", after := _, guard := some (10, false) } rfl (Or.inr ⟨by rfl, rfl⟩) ?_
      try simp only [putW, setZ, setS]
      refine tkW 18 { dst := some 22, op := Op.binOp BinOp.neq 3 (Operand.tmp 19) (Operand.tmp 21) 3, type := 4, pos := "serial.go:44", after := _, guard := some (10, false) } rfl (Or.inr ⟨by rfl, rfl⟩) ?_
      try simp only [putW, setZ, setS]
      refine tkW 19 { dst := some 23, op := Op.pick (Operand.tmp 14) (Operand.const (Value.bool true)) (Operand.tmp 22), type := 4, pos := "serial.go:44", after := _, guard := none } (v := ?vcr19) rfl (Or.inl ⟨by rfl, ?hycr19⟩) ?restcr19
      case hycr19 => (intro w hSw; (try dsimp only at hSw); go_simp <;> with_reducible rfl)
      try simp only [putW, setZ, setS]
      refine tkW 20 { dst := some 3, op := Op.assign (Operand.tmp 23), type := 4, pos := "serial.go:44", after := _, guard := none } (v := ?vcr20) rfl (Or.inl ⟨by rfl, ?hycr20⟩) ?restcr20
      case hycr20 => (intro w hSw; (try dsimp only at hSw); go_simp <;> with_reducible rfl)
      try simp only [putW, setZ, setS]
      refine wpAnyH_done (by kernel_rfl) ?_ _
      go_wp2
      go_ret
      exact ⟨rfl, HB1.out.drew⟩
    · obtain ⟨q, hq⟩ := Int.eq_ofNat_of_zero_le (Int.not_lt.1 c1)
      have hql : q < l.length := by have := HN.out; omega
      obtain ⟨b, o, rfl, hb, hel⟩ := HE.out (by omega)
      have e0 := hel w1 HB1.out q hql 0 _ rfl
      simp only [Nat.add_zero, Nat.mul_one] at e0
      obtain ⟨u, hu⟩ : ∃ u, u = l[q] := ⟨_, rfl⟩
      rw [← hu] at e0
      obtain ⟨r, hr⟩ : ∃ r, r = (u != p.v) := ⟨_, rfl⟩
      have hrr : (u != p.v) = r := hr.symm
      rw [show badW l p = r from by
        have := HN.out
        rw [hr, hu]
        simp only [badW, hq, Int.toNat_natCast, List.getD_eq_getElem?_getD, List.getElem?_eq_getElem hql]
        rw [decide_eq_false (by omega), decide_eq_false (by omega)]
        simp [bne]]
      rw [hq] at p0 c1 c2
      have hq0 : (0 : Int) ≤ (q : Int) := by omega
      have hq1 : (q : Int) < (n : Int) := by omega
      have HWW := Lib.hid (hq ▸ HW.out : w.alloc (.cells #[.int .i64 (q : Int), .int .i64 p.v] 34) = w1)
      clear hel hu hr
      rw [hq]
      clear hq HE HW
      go_enter Try.func35, Try.ntmps35
      go_wp2_with fail
      rw [HWW.out]
      refine wp_region_held_drew (S := fun w' => w'.cell? ⟨w.heap.size, 0, none⟩ = some (.int .i64 (q : Int)) ∧ w'.cell? ⟨w.heap.size, 1, none⟩ = some (.int .i64 p.v) ∧ w'.cell? ⟨B, 0, none⟩ = some (.slice (some ⟨b, o, none⟩) n c) ∧ w'.cell? ⟨b, o + q, none⟩ = some (.int .i64 u)) (by kernel_rfl) ?_ (fun hHelddr => ?_)
      · exact ⟨p0, p1, s0, e0⟩
      refine tkW 0 { dst := some 4, op := Op.fieldAddr 34 (Operand.tmp 2) 0, type := 0, pos := "serial.go:44", after := _, guard := none } (v := ?vdr0) rfl (Or.inl ⟨by rfl, ?hydr0⟩) ?restdr0
      case hydr0 => (intro w hSw; (try dsimp only at hSw); go_simp <;> with_reducible rfl)
      try simp only [putW, setZ, setS]
      refine tkW 1 { dst := some 5, op := Op.load 3 (Operand.tmp 4), type := 3, pos := "serial.go:44", after := _, guard := none } (v := ?vdr1) rfl (Or.inl ⟨by rfl, ?hydr1⟩) ?restdr1
      case hydr1 => (intro w hSw; (try dsimp only at hSw); go_simp <;> with_reducible rfl)
      try simp only [putW, setZ, setS]
      refine tkW 2 { dst := some 6, op := Op.binOp BinOp.lss 3 (Operand.tmp 5) (Operand.const (Value.int IntKind.i64 0)) 3, type := 4, pos := "serial.go:44", after := _, guard := none } (v := .bool false) rfl (Or.inl ⟨by rfl, ?hydr2⟩) ?restdr2
      case hydr2 => (intro w hSw; (try dsimp only at hSw); go_simp <;> first | done | with_reducible rfl | omega | (simp; done) | (simp; omega) | (simp [*]; done) | (simp [*]; omega) | exact decide_eq_false (by omega) | exact decide_eq_true (by omega))
      try simp only [putW, setZ, setS]
      refine tkW 3 { dst := some 7, op := Op.move (Operand.tmp 6), type := 4, pos := "serial.go:44", after := _, guard := none } (v := ?vdr3) rfl (Or.inl ⟨by rfl, ?hydr3⟩) ?restdr3
      case hydr3 => (intro w hSw; (try dsimp only at hSw); go_simp <;> with_reducible rfl)
      try simp only [putW, setZ, setS]
      refine tkW 4 { dst := some 8, op := Op.fieldAddr 34 (Operand.tmp 2) 0, type := 0, pos := "serial.go:44", after := _, guard := some (3, false) } (v := ?vdr4) rfl (Or.inl ⟨by rfl, ?hydr4⟩) ?restdr4
      case hydr4 => (intro w hSw; (try dsimp only at hSw); go_simp <;> with_reducible rfl)
      try simp only [putW, setZ, setS]
      refine tkW 5 { dst := some 9, op := Op.load 3 (Operand.tmp 8), type := 3, pos := "serial.go:44", after := _, guard := some (3, false) } (v := ?vdr5) rfl (Or.inl ⟨by rfl, ?hydr5⟩) ?restdr5
      case hydr5 => (intro w hSw; (try dsimp only at hSw); go_simp <;> with_reducible rfl)
      try simp only [putW, setZ, setS]
      refine tkW 6 { dst := some 10, op := Op.load 29 (Operand.tmp 1), type := 29, pos := "serial.go:44", after := _, guard := some (3, false) } (v := ?vdr6) rfl (Or.inl ⟨by rfl, ?hydr6⟩) ?restdr6
      case hydr6 => (intro w hSw; (try dsimp only at hSw); go_simp <;> with_reducible rfl)
      try simp only [putW, setZ, setS]
      refine tkW 7 { dst := some 11, op := Op.call { callee := Callee.builtin Builtin.len, args := #[Operand.tmp 10], argTypes := #[29] }, type := 3, pos := "serial.go:44", after := _, guard := some (3, false) } (v := ?vdr7) rfl (Or.inl ⟨by rfl, ?hydr7⟩) ?restdr7
      case hydr7 => (intro w hSw; (try dsimp only at hSw); go_simp <;> with_reducible rfl)
      try simp only [putW, setZ, setS]
      refine tkW 8 { dst := some 12, op := Op.binOp BinOp.geq 3 (Operand.tmp 9) (Operand.tmp 11) 3, type := 4, pos := "serial.go:44", after := _, guard := some (3, false) } (v := .bool false) rfl (Or.inl ⟨by rfl, ?hydr8⟩) ?restdr8
      case hydr8 => (intro w hSw; (try dsimp only at hSw); go_simp <;> first | done | with_reducible rfl | omega | (simp; done) | (simp; omega) | (simp [*]; done) | (simp [*]; omega) | exact decide_eq_false (by omega) | exact decide_eq_true (by omega))
      try simp only [putW, setZ, setS]
      refine tkW 9 { dst := some 13, op := Op.pick (Operand.tmp 7) (Operand.const (Value.bool true)) (Operand.tmp 12), type := 4, pos := "serial.go:44", after := _, guard := none } (v := ?vdr9) rfl (Or.inl ⟨by rfl, ?hydr9⟩) ?restdr9
      case hydr9 => (intro w hSw; (try dsimp only at hSw); go_simp <;> with_reducible rfl)
      try simp only [putW, setZ, setS]
      refine tkW 10 { dst := some 14, op := Op.move (Operand.tmp 13), type := 4, pos := "serial.go:44", after := _, guard := none } (v := ?vdr10) rfl (Or.inl ⟨by rfl, ?hydr10⟩) ?restdr10
      case hydr10 => (intro w hSw; (try dsimp only at hSw); go_simp <;> with_reducible rfl)
      try simp only [putW, setZ, setS]
      refine tkW 11 { dst := some 15, op := Op.load 29 (Operand.tmp 1), type := 29, pos := "serial.go:44", after := _, guard := some (10, false) } (v := ?vdr11) rfl (Or.inl ⟨by rfl, ?hydr11⟩) ?restdr11
      case hydr11 => (intro w hSw; (try dsimp only at hSw); go_simp <;> with_reducible rfl)
      try simp only [putW, setZ, setS]
      refine tkW 12 { dst := some 16, op := Op.fieldAddr 34 (Operand.tmp 2) 0, type := 0, pos := "serial.go:44", after := _, guard := some (10, false) } (v := ?vdr12) rfl (Or.inl ⟨by rfl, ?hydr12⟩) ?restdr12
      case hydr12 => (intro w hSw; (try dsimp only at hSw); go_simp <;> with_reducible rfl)
      try simp only [putW, setZ, setS]
      refine tkW 13 { dst := some 17, op := Op.load 3 (Operand.tmp 16), type := 3, pos := "serial.go:44", after := _, guard := some (10, false) } (v := ?vdr13) rfl (Or.inl ⟨by rfl, ?hydr13⟩) ?restdr13
      case hydr13 => (intro w hSw; (try dsimp only at hSw); go_simp <;> with_reducible rfl)
      try simp only [putW, setZ, setS]
      refine tkW 14 { dst := some 18, op := Op.indexAddr 29 (Operand.tmp 15) (Operand.tmp 17), type := 0, pos := "serial.go:44", after := _, guard := some (10, false) } (v := ?vdr14) rfl (Or.inl ⟨by rfl, ?hydr14⟩) ?restdr14
      case hydr14 => (intro w hSw; (try dsimp only at hSw); go_simp <;> with_reducible rfl)
      try simp only [putW, setZ, setS]
      refine tkW 15 { dst := some 19, op := Op.load 3 (Operand.tmp 18), type := 3, pos := "serial.go:44", after := _, guard := some (10, false) } (v := ?vdr15) rfl (Or.inl ⟨by rfl, ?hydr15⟩) ?restdr15
      case hydr15 => (intro w hSw; (try dsimp only at hSw); go_simp <;> with_reducible rfl)
      try simp only [putW, setZ, setS]
      refine tkW 16 { dst := some 20, op := Op.fieldAddr 34 (Operand.tmp 2) 1, type := 0, pos := "serial.go:44", after := _, guard := some (10, false) } (v := ?vdr16) rfl (Or.inl ⟨by rfl, ?hydr16⟩) ?restdr16
      case hydr16 => (intro w hSw; (try dsimp only at hSw); go_simp <;> with_reducible rfl)
      try simp only [putW, setZ, setS]
      refine tkW 17 { dst := some 21, op := Op.load 3 (Operand.tmp 20), type := 3, pos := "serial.go:44", after := _, guard := some (10, false) } (v := ?vdr17) rfl (Or.inl ⟨by rfl, ?hydr17⟩) ?restdr17
      case hydr17 => (intro w hSw; (try dsimp only at hSw); go_simp <;> with_reducible rfl)
      try simp only [putW, setZ, setS]
      refine tkW 18 { dst := some 22, op := Op.binOp BinOp.neq 3 (Operand.tmp 19) (Operand.tmp 21) 3, type := 4, pos := "serial.go:44", after := _, guard := some (10, false) } (v := ?vdr18) rfl (Or.inl ⟨by rfl, ?hydr18⟩) ?restdr18
      case hydr18 => (intro w hSw; (try dsimp only at hSw); go_simp <;> with_reducible rfl)
      try simp only [putW, setZ, setS]
      refine tkW 19 { dst := some 23, op := Op.pick (Operand.tmp 14) (Operand.const (Value.bool true)) (Operand.tmp 22), type := 4, pos := "serial.go:44", after := _, guard := none } (v := ?vdr19) rfl (Or.inl ⟨by rfl, ?hydr19⟩) ?restdr19
      case hydr19 => (intro w hSw; (try dsimp only at hSw); go_simp <;> with_reducible rfl)
      try simp only [putW, setZ, setS]
      refine tkW 20 { dst := some 3, op := Op.assign (Operand.tmp 23), type := 4, pos := "serial.go:44", after := _, guard := none } (v := ?vdr20) rfl (Or.inl ⟨by rfl, ?hydr20⟩) ?restdr20
      case hydr20 => (intro w hSw; (try dsimp only at hSw); go_simp <;> with_reducible rfl)
      try simp only [putW, setZ, setS]
      refine wpAnyH_done (by kernel_rfl) ?_ _
      go_wp2
      go_ret
      exact ⟨rfl, HB1.out.drew⟩
end

set_option maxRecDepth 100000 in
set_option maxHeartbeats 2000000 in
theorem agree_any (rv lv : Value) (R : List Pr) (l : List Int) (w : World) (hR : Sl w 2 rv R.length (R.flatMap encPr)) (hl : Sl w 1 lv l.length (l.flatMap encI)) :
    Calls Try.prog 18 #[rv, lv] w fun e w' => e = .returned (.bool (agreeL R l)) ∧ Below w.heap.size w w' := by
  have eg : ∀ args w, (callFunc 35 args).run Try.prog w = .ok (.enter 35 args) w := enters_of Try.func35 (by kernel_rfl) rfl
  have hb0 : Below w.heap.size w (w.alloc (.cells #[lv] 29)) := (Below.refl _ w).alloc (Nat.le_refl _) _
  obtain ⟨A, c, rfl, _, _⟩ := hl.form
  have hc : (w.alloc (.cells #[.slice A l.length c] 29)).cell? ⟨w.heap.size, 0, none⟩ = some (.slice A l.length c) := by rw [(Blk.new_ w _ _ _ rfl).cell]; rfl
  have hlt : w.heap.size < (w.alloc (.cells #[.slice A l.length c] 29)).heap.size := by simp
  have hcon := contains_pair (badW l) 35 #[.pointer (some ⟨w.heap.size, 0, none⟩)] eg rv R _ (fun W x hb => agree1_any x A c w.heap.size l W (Nat.lt_of_lt_of_le hlt hb.size) ((hb.cell (p := ⟨w.heap.size, 0, none⟩) hlt).trans hc) ((hl.below hb0).below hb)) (hR.below hb0)
  unfold agreeL
  generalize R.any (badW l) = q at *
  obtain ⟨A2, c2, rfl, _, _⟩ := hR.form
  clear hR hl eg hc
  go_enter Try.func18, Try.ntmps18
  go_wp2_with (go_at_call 34; refine hcon.mono ?_; rintro e w' ⟨rfl, hb'⟩)
  go_ret
  exact ⟨rfl, hb0.trans (hb'.mono (by simp))⟩

/-- As PredB, of the elements alone. -/
def PredM (P : Program) {α : Type} (g : Nat) (lb : Array Value) (enc : α → Value) (p : α → Bool) (w : World) (zs : List α) : Prop :=
  ∀ (W : World) (x : α), x ∈ zs → Below w.heap.size w W → Calls P g (#[enc x] ++ lb) W fun e w' => e = .returned (.bool (p x)) ∧ Below W.heap.size W w'
set_option maxHeartbeats 1000000 in
theorem index_recm (p : Rx → Bool) (g : Nat) (lb : Array Value) (eg : ∀ args w, (callFunc g args).run Try.prog w = .ok (.enter g args) w) (v : Value) (zs : List (Rx)) (w : World)
    (hp : PredM Try.prog g lb (fun x : Rx => Value.agg (encRx x).toArray) p w zs) (hv : Sl w 10 v zs.length (zs.flatMap encRx)) :
    Calls Try.prog 36 #[v, .func (.func g) #[] lb] w fun e w' => e = .returned (.int .i64 (idxF p zs)) ∧ Below w.heap.size w w' := by
  have hk : ∀ x, (encRx x).length = 10 := fun _ => rfl
  obtain ⟨hl, ⟨rfl, hz⟩ | ⟨a, c, rfl, hc, hm, hr⟩⟩ := hv
  · obtain rfl : zs = [] := List.eq_nil_of_length_eq_zero hz
    clear hl hz
    go_enter Try.func36, Try.ntmps36
    go_wp2
    refine wp_loop_rounds 1 ?_
    rw [rounds_succ]
    go_wp2
    go_ret
    exact ⟨rfl, Below.refl _ _⟩
  · obtain ⟨n, hn⟩ : ∃ n, zs.length = n := ⟨_, rfl⟩
    rw [hn] at hl hc hr ⊢
    have hbig : n ≤ 9223372036854775807 := by unfold maxLen at hm; omega
    have hrow : ∀ (W : World), Below w.heap.size w W → ∀ j (hj : j < zs.length), a.spot = none ∧ ∀ i u, (encRx zs[j])[i]? = some u → W.cell? ⟨a.block, a.off + j * 10 + i, none⟩ = some u := fun W hW j hj => by
      obtain ⟨hs, hC⟩ := hr (by omega)
      refine ⟨hs, fun i u hi => ?_⟩
      rw [Nat.add_assoc]
      exact (hC.same hW).2 _ _ (flat_get encRx hk zs j hj i u hi)
    clear hr
    have HN := Lib.hid hn
    clear hn hl hk hm hc
    go_enter Try.func36, Try.ntmps36
    go_wp2
    go_loopg [5, 8] n (fun gg _ s8 wr => ∃ kk : Nat, kk ≤ n ∧ n - kk ≤ gg ∧ s8 = .int .i64 kk ∧ Hid (Below w.heap.size w wr) ∧ Hid (∀ j (h : j < zs.length), j < kk → p zs[j] = false))
    case atStart => exact ⟨0, Nat.zero_le _, by omega, rfl, Below.refl _ w, fun j _ hj => absurd hj (Nat.not_lt_zero _)⟩
    case round =>
      obtain ⟨kk, hkk, hg, rfl, BW, AA⟩ := hrel
      by_cases hlt : kk < n
      · have hltz : (kk : Int) < (n : Int) := by omega
        have hlt' : kk < zs.length := by rw [HN.out]; exact hlt
        obtain ⟨hs, l2⟩ := hrow wr BW.out kk hlt'
        have hcall := hp wr zs[kk] (List.getElem_mem _) BW.out
        clear hrow hp
        obtain ⟨b, o, s⟩ := a
        simp only at hs l2
        subst hs
        generalize hy : zs[kk] = y at l2 hcall
        have B : Hid (zs[kk] = y) := hy
        clear hy
        (have c0 := l2 0 _ rfl; have c1 := l2 1 _ rfl; have c2 := l2 2 _ rfl; have c3 := l2 3 _ rfl; have c4 := l2 4 _ rfl; have c5 := l2 5 _ rfl; have c6 := l2 6 _ rfl; have c7 := l2 7 _ rfl; have c8 := l2 8 _ rfl; have c9 := l2 9 _ rfl; simp only [Nat.add_zero] at c0)
        clear l2
        cases hq : p y with
        | true =>
          rw [hq] at hcall
          have HQ := Lib.hid hq
          clear hq
          go_wp2_with (go_at_fn g; refine hcall.mono ?_; rintro e w' ⟨rfl, hb'⟩)
          go_ret
          refine ⟨?_, BW.out.trans (hb'.mono BW.out.size)⟩
          rw [idxF_hit p zs kk hlt' (by rw [B.out]; exact HQ.out) (fun j hj => AA.out j (by omega) hj)]
          rfl
        | false =>
          rw [hq] at hcall
          have HQ := Lib.hid hq
          clear hq
          go_wp2_with (go_at_fn g; refine hcall.mono ?_; rintro e w' ⟨rfl, hb'⟩)
          go_roundg (n - (kk + 1))
          case measure => omega
          case rel =>
            refine ⟨kk + 1, by omega, by omega, by go_num, BW.out.trans (hb'.mono BW.out.size), (show Hid _ from fun j h hj => ?_)⟩
            by_cases e : j = kk
            · subst e
              rw [B.out]; exact HQ.out
            · exact AA.out j h (by omega)
      · have hltz : ¬ (kk : Int) < (n : Int) := by omega
        obtain rfl : n = kk := by omega
        go_wp2
        go_ret
        refine ⟨?_, BW.out⟩
        rw [idxF_miss p zs (fun j h => AA.out j h (by rw [HN.out] at h; exact h))]
        rfl
set_option maxHeartbeats 400000 in
theorem contains_recm (p : Rx → Bool) (g : Nat) (lb : Array Value) (eg : ∀ args w, (callFunc g args).run Try.prog w = .ok (.enter g args) w) (v : Value) (zs : List (Rx)) (w : World)
    (hp : PredM Try.prog g lb (fun x : Rx => Value.agg (encRx x).toArray) p w zs) (hv : Sl w 10 v zs.length (zs.flatMap encRx)) :
    Calls Try.prog 19 #[v, .func (.func g) #[] lb] w fun e w' => e = .returned (.bool (zs.any p)) ∧ Below w.heap.size w w' := by
  rw [← idxF_any]
  have hcon := index_recm p g lb eg v zs w hp hv
  clear hp hv eg
  generalize idxF p zs = r at hcon ⊢
  go_enter Try.func19, Try.ntmps19
  go_wp2_with (go_at_call 36; refine hcon.mono ?_; rintro e w' ⟨rfl, hb'⟩)
  go_ret
  exact ⟨rfl, hb'⟩

/-- Did a try not read what stood at its version? -/
def badO (n : Int) (h : List Rx) (x : Rx) : Bool := !agreeL x.R (stateL n h x.rv)
def opaqueL (n : Int) (h : List Rx) : Bool := !h.any (badO n h)

section
attribute [local go_sem ↓] Go.wp_at_zero Go.wp_at_succ
set_option maxRecDepth 100000 in
set_option maxHeartbeats 4000000 in
theorem opaque1_any (n : Int) (x : Rx) (h : List Rx) (A : Option Addr) (c Bn Bh : Nat) (w : World) (hl : h.length ≤ 100000) (hx : RxOk w x) (hBn : Bn < w.heap.size) (hBh : Bh < w.heap.size) (hcn : w.cell? ⟨Bn, 0, none⟩ = some (.int .i64 n)) (hch : w.cell? ⟨Bh, 0, none⟩ = some (.slice A h.length c)) (hv : RecsV w (.slice A h.length c) h) :
    Calls Try.prog 20 #[.agg (encRx x).toArray, .pointer (some ⟨Bn, 0, none⟩), .pointer (some ⟨Bh, 0, none⟩)] w fun e w' => e = .returned (.bool (badO n h x)) ∧ Below w.heap.size w w' := by
  have hb0 : Below w.heap.size w (w.alloc (.cells (encRx x).toArray 27)) := (Below.refl _ w).alloc (Nat.le_refl _) _
  have kB := Blk.new_ w 27 (encRx x).toArray _ rfl
  obtain ⟨w1, hw1⟩ : ∃ z, w.alloc (.cells (encRx x).toArray 27) = z := ⟨_, rfl⟩
  rw [hw1] at hb0 kB
  have HS := Lib.hid (fun W (hb : Below w.heap.size w W) => state_any n x.rv (.slice A h.length c) h W (hv.below hb) hl)
  have HA := Lib.hid (fun lv l W (hb : Below w.heap.size w W) h2 => agree_any (.slice x.rA x.R.length x.rc) lv x.R l W (hx.1.below hb) h2)
  have s0 := (hb0.cell (p := ⟨Bn, 0, none⟩) hBn).trans hcn
  have s1 := (hb0.cell (p := ⟨Bh, 0, none⟩) hBh).trans hch
  have p4 : w1.cell? ⟨w.heap.size, 4, none⟩ = some (.int .i64 x.rv) := by rw [kB.cell]; rfl
  have p6 : w1.cell? ⟨w.heap.size, 6, none⟩ = some (.slice x.rA x.R.length x.rc) := by rw [kB.cell]; rfl
  have l0 : Bn < w1.heap.size := Nat.lt_of_lt_of_le hBn hb0.size
  have l1 : Bh < w1.heap.size := Nat.lt_of_lt_of_le hBh hb0.size
  have l2 := kB.lt
  have HW := Lib.hid hw1
  have HB := Lib.hid hb0
  unfold badO
  obtain ⟨q, hq⟩ : ∃ q, q = agreeL x.R (stateL n h x.rv) := ⟨_, rfl⟩
  rw [← hq]
  have HQ := Lib.hid hq
  generalize h.length = m at *
  simp only [encRx] at HW ⊢
  clear hcn hch hv hx hw1 hb0 kB hq
  go_enter Try.func20, Try.ntmps20
  go_wp2_with fail
  rw [HW.out]
  refine wp_region_held_drew (S := fun w' => w'.cell? ⟨w.heap.size, 4, none⟩ = some (.int .i64 x.rv) ∧ w'.cell? ⟨w.heap.size, 6, none⟩ = some (.slice x.rA x.R.length x.rc) ∧ w'.cell? ⟨Bn, 0, none⟩ = some (.int .i64 n) ∧ w'.cell? ⟨Bh, 0, none⟩ = some (.slice A m c)) (by kernel_rfl) ?_ (fun hHelder => ?_)
  · exact ⟨p4, p6, s0, s1⟩
  refine tkW 0 { dst := some 5, op := Op.fieldAddr 27 (Operand.tmp 3) 6, type := 0, pos := "serial.go:49", after := _, guard := none } (v := ?ver0) rfl (Or.inl ⟨by rfl, ?hyer0⟩) ?rester0
  case hyer0 => (intro w hSw; (try dsimp only at hSw); go_simp <;> with_reducible rfl)
  try simp only [putW, setZ, setS]
  refine tkW 1 { dst := some 6, op := Op.load 25 (Operand.tmp 5), type := 25, pos := "serial.go:49", after := _, guard := none } (v := ?ver1) rfl (Or.inl ⟨by rfl, ?hyer1⟩) ?rester1
  case hyer1 => (intro w hSw; (try dsimp only at hSw); go_simp <;> with_reducible rfl)
  try simp only [putW, setZ, setS]
  refine tkW 2 { dst := some 7, op := Op.load 3 (Operand.tmp 1), type := 3, pos := "serial.go:49", after := _, guard := none } (v := ?ver2) rfl (Or.inl ⟨by rfl, ?hyer2⟩) ?rester2
  case hyer2 => (intro w hSw; (try dsimp only at hSw); go_simp <;> with_reducible rfl)
  try simp only [putW, setZ, setS]
  refine tkW 3 { dst := some 8, op := Op.load 22 (Operand.tmp 2), type := 22, pos := "serial.go:49", after := _, guard := none } (v := ?ver3) rfl (Or.inl ⟨by rfl, ?hyer3⟩) ?rester3
  case hyer3 => (intro w hSw; (try dsimp only at hSw); go_simp <;> with_reducible rfl)
  try simp only [putW, setZ, setS]
  refine tkW 4 { dst := some 9, op := Op.fieldAddr 27 (Operand.tmp 3) 4, type := 0, pos := "serial.go:49", after := _, guard := none } (v := ?ver4) rfl (Or.inl ⟨by rfl, ?hyer4⟩) ?rester4
  case hyer4 => (intro w hSw; (try dsimp only at hSw); go_simp <;> with_reducible rfl)
  try simp only [putW, setZ, setS]
  refine tkW 5 { dst := some 10, op := Op.load 3 (Operand.tmp 9), type := 3, pos := "serial.go:49", after := _, guard := none } (v := ?ver5) rfl (Or.inl ⟨by rfl, ?hyer5⟩) ?rester5
  case hyer5 => (intro w hSw; (try dsimp only at hSw); go_simp <;> with_reducible rfl)
  try simp only [putW, setZ, setS]
  refine wpAnyH_ready (rs := [6]) (by kernel_rfl) (by simp) ?_
  refine AllReadyH.cons (o := { dst := some 11, op := Op.call { callee := Callee.value (Operand.func 11), args := #[Operand.tmp 7, Operand.tmp 8, Operand.tmp 10], argTypes := #[3, 22, 3] }, type := 29, pos := "serial.go:49", after := _, guard := none }) rfl (fun K hK => ?_) AllReadyH.nil
  go_simp
  refine (HS.out _ HB.out.drew).mono ?_
  rintro e w3 ⟨v3, rfl, hv3, hb3⟩
  have hX := (Below.refl w1.heap.size w1).drew.trans (hb3.mono (Nat.le_refl _))
  try go_wp2_with fail
  refine hK.out _ _ ?_ (fun hHelder6 => ?_)
  · exact ⟨(hX.cell (p := ⟨w.heap.size, 4, none⟩) l2).trans p4, (hX.cell (p := ⟨w.heap.size, 6, none⟩) l2).trans p6, (hX.cell (p := ⟨Bn, 0, none⟩) l0).trans s0, (hX.cell (p := ⟨Bh, 0, none⟩) l1).trans s1⟩
  clear hK K hHelder
  try simp only [Act.put, List.setIfInBounds_toArray, List.set_cons_zero, List.set_cons_succ]
  refine wpAnyH_ready (rs := [7]) (by kernel_rfl) (by simp) ?_
  refine AllReadyH.cons (o := { dst := some 12, op := Op.call { callee := Callee.value (Operand.func 18), args := #[Operand.tmp 6, Operand.tmp 11], argTypes := #[25, 29] }, type := 4, pos := "serial.go:49", after := _, guard := none }) rfl (fun K hK => ?_) AllReadyH.nil
  go_simp
  refine (HA.out v3 _ _ (HB.out.trans (hX.mono HB.out.size)) hv3).mono ?_
  rintro e w4 ⟨rfl, hb4⟩
  have hY := hX.trans (hb4.mono hX.size)
  rw [← HQ.out]
  try go_wp2_with fail
  refine hK.out _ _ ?_ (fun hHelder7 => ?_)
  · exact ⟨(hY.cell (p := ⟨w.heap.size, 4, none⟩) l2).trans p4, (hY.cell (p := ⟨w.heap.size, 6, none⟩) l2).trans p6, (hY.cell (p := ⟨Bn, 0, none⟩) l0).trans s0, (hY.cell (p := ⟨Bh, 0, none⟩) l1).trans s1⟩
  clear hK K hHelder6
  try simp only [Act.put, List.setIfInBounds_toArray, List.set_cons_zero, List.set_cons_succ]
  refine tkW 8 { dst := some 13, op := Op.unOp UnOp.not 4 (Operand.tmp 12), type := 4, pos := "serial.go:49", after := _, guard := none } (v := ?ver8) rfl (Or.inl ⟨by rfl, ?hyer8⟩) ?rester8
  case hyer8 => (intro w hSw; (try dsimp only at hSw); go_simp <;> with_reducible rfl)
  try simp only [putW, setZ, setS]
  refine tkW 9 { dst := some 4, op := Op.assign (Operand.tmp 13), type := 4, pos := "serial.go:49", after := _, guard := none } (v := ?ver9) rfl (Or.inl ⟨by rfl, ?hyer9⟩) ?rester9
  case hyer9 => (intro w hSw; (try dsimp only at hSw); go_simp <;> with_reducible rfl)
  try simp only [putW, setZ, setS]
  refine wpAnyH_done (by kernel_rfl) ?_ _
  go_wp2
  go_ret
  exact ⟨rfl, HB.out.trans (hY.mono HB.out.size)⟩
end

set_option maxRecDepth 100000 in
set_option maxHeartbeats 2000000 in
theorem opaque_any (n : Int) (v : Value) (h : List Rx) (w : World) (hv : RecsV w v h) (hl : h.length ≤ 100000) :
    Calls Try.prog 13 #[.int .i64 n, v] w fun e w' => e = .returned (.bool (opaqueL n h)) ∧ Below w.heap.size w w' := by
  have eg : ∀ args w, (callFunc 20 args).run Try.prog w = .ok (.enter 20 args) w := enters_of Try.func20 (by kernel_rfl) rfl
  obtain ⟨A, c, rfl, _, _⟩ := hv.1.form
  obtain ⟨w1, hw1⟩ : ∃ z, (w.alloc (.cells #[.int .i64 n] 3)).alloc (.cells #[.slice A h.length c] 22) = z := ⟨_, rfl⟩
  have hb0 : Below w.heap.size w w1 := hw1 ▸ ((Below.refl _ w).alloc (Nat.le_refl _) _).alloc (by simp) _
  have k0 : Blk w1 w.heap.size 3 #[.int .i64 n] := hw1 ▸ (Blk.new_ w _ _ _ rfl).alloc _
  have k1 : Blk w1 (w.heap.size + 1) 22 #[.slice A h.length c] := hw1 ▸ Blk.new_ _ _ _ _ (by simp)
  have hc0 : w1.cell? ⟨w.heap.size, 0, none⟩ = some (.int .i64 n) := by rw [k0.cell]; rfl
  have hc1 : w1.cell? ⟨w.heap.size + 1, 0, none⟩ = some (.slice A h.length c) := by rw [k1.cell]; rfl
  have l0 := k0.lt
  have l1 := k1.lt
  have hcon := contains_recm (badO n h) 20 #[.pointer (some ⟨w.heap.size, 0, none⟩), .pointer (some ⟨w.heap.size + 1, 0, none⟩)] eg (.slice A h.length c) h w1 (fun W x hx hb => opaque1_any n x h A c _ _ W hl ((hv.2 x hx).below (hb0.trans (hb.mono hb0.size))) (Nat.lt_of_lt_of_le l0 hb.size) (Nat.lt_of_lt_of_le l1 hb.size) ((hb.cell (p := ⟨w.heap.size, 0, none⟩) l0).trans hc0) ((hb.cell (p := ⟨w.heap.size + 1, 0, none⟩) l1).trans hc1) (hv.below (hb0.trans (hb.mono hb0.size)))) (hv.1.below hb0)
  have HW := Lib.hid hw1
  have HB := Lib.hid hb0
  unfold opaqueL
  generalize h.any (badO n h) = q at *
  generalize h.length = m at *
  clear hv eg hw1 hb0 k0 k1
  go_enter Try.func13, Try.ntmps13
  go_upto_region 1 with fail
  rw [HW.out]
  go_wp2_with (go_at_call 19; refine hcon.mono ?_; rintro e w' ⟨rfl, hb'⟩)
  go_ret
  exact ⟨rfl, HB.out.trans (hb'.mono HB.out.size)⟩
end Go.Proofs.Ytmcbnpeihedcaaa
namespace Go.Proofs.Ytmcbnpeihedcaaa
set_option linter.unusedSimpArgs false
open Go Go.RowKit Go.Shelf
open Go.Maps (Keyed)
set_option linter.unusedVariables false
attribute [local go_sem] Oper.semAt_some

/-- A map int → bool that is true at these keys. -/
def MapB (W : World) (b : Nat) (l : List Int) : Prop :=
  ∃ D : DataW Unit, W.ownsMap Try.prog 3 (plainElem (H := Unit) Try.prog 4) b l.length D ∧ Maps.IsMap D ∧ ∀ y : Int, (Lit.int .i64 y).wf = true → D.atKey (.int .i64 y) (.lit (.bool false)) = .lit (.bool (l.contains y))
theorem keyedI : Keyed Try.prog 3 := Maps.int_keyed Try.underlying3
theorem MapB.made (w : World) : MapB (w.alloc (.map #[] 0)) w.heap.size [] :=
  ⟨_, World.ownsMap_made _ _ _ _, Maps.isMap_empty, fun y _ => rfl⟩
theorem MapB.kept {W W' : World} {b : Nat} {l : List Int} {row : Option Nat} (h : MapB W b l) (hg : W.grownBy W' row) (hne : some b ≠ row) : MapB W' b l := by
  obtain ⟨D, h1, h2⟩ := h
  exact ⟨D, h1.kept hg hne, h2⟩
theorem MapB.lt {W : World} {b : Nat} {l : List Int} (h : MapB W b l) : b < W.heap.size := by
  obtain ⟨D, h1, h2⟩ := h
  exact h1.lt
theorem MapB.keep {W W' : World} {b B : Nat} {l : List Int} (h : MapB W b l) (hb : Below B W W') (hB : b < B) : MapB W' b l := by
  obtain ⟨D, ⟨es, clock, h1, h2, h3⟩, h4⟩ := h
  exact ⟨D, ⟨es, clock, (hb.block b hB).trans h1, h2, h3⟩, h4⟩
theorem mapB_from {β : Type} {B b : Nat} (f : β → List Int) (hB : b < B) : OwnFrom B (fun s W => MapB W b (f s)) := by
  intro s W W' row hs hg hr
  refine hs.kept hg ?_
  intro e
  have := (hr _ e.symm).1
  omega
theorem zeroB (w : World) : (zeroValue 4).run Try.prog w = .ok (.bool false) w := by kernel_rfl
theorem plainElem_bool_inv {P : Program} {e : TypeId} (he : P.underlying e = some .bool) {v : Value} {z : DataW Unit × List MemPlace} (h : plainElem P e v = some z) : ∃ a, v = .bool a ∧ z = (.lit (.bool a), []) := by
  unfold plainElem at h
  rw [he] at h
  cases v <;> simp at h
  subst h
  exact ⟨_, rfl, rfl⟩
theorem MapB.look {W : World} {b : Nat} {l : List Int} (h : MapB W b l) {y : Int} (hy : (Lit.int .i64 y).wf = true) :
    (Instr.lookup 56 (.map (some b)) (.int .i64 y) false).run Try.prog W = .ok (.bool (l.contains y)) W := by
  obtain ⟨D, h1, h2, h3⟩ := h
  obtain ⟨v, ps, hrun, hv⟩ := h1.lookup keyedI Try.underlying56 (zeroB W) (plainElem_bool Try.underlying4 false) (Maps.keyOf_int_mk Try.underlying3 hy)
  obtain ⟨a, rfl, hz⟩ := plainElem_bool_inv Try.underlying4 hv
  rw [h3 y hy] at hz
  simp only [Prod.mk.injEq, DataW.lit.injEq, Lit.bool.injEq] at hz
  rw [hrun, hz.1]
theorem MapB.put {W' : World} {b : Nat} {l : List Int} {D : DataW Unit} {y : Int} (hy : (Lit.int .i64 y).wf = true) (h2 : Maps.IsMap D)
    (h3 : ∀ y : Int, (Lit.int .i64 y).wf = true → D.atKey (.int .i64 y) (.lit (.bool false)) = .lit (.bool (l.contains y)))
    (h : W'.ownsMap Try.prog 3 (plainElem (H := Unit) Try.prog 4) b (l.length + 1) (D.put (.int .i64 y) (.lit (.bool true)))) : MapB W' b (l ++ [y]) := by
  refine ⟨_, by simpa using h, h2.put _ _, fun z hz => ?_⟩
  by_cases e : z = y
  · subst e
    rw [Maps.atKey_put_same (k := .int .i64 z) h2 True.intro]
    simp
  · rw [Maps.atKey_put_other (by intro h; injection h; exact e ‹_›), h3 z hz]
    simp [e]

/-- Does a try not fit behind these? -/
def badS (n : Int) (h pre : List Rx) (x : Rx) : Bool := (pre.map Rx.wv).contains x.wv || (decide (x.wv ≤ x.rv) || !agreeL x.R (stateL n h (IntKind.i64.wrap (x.wv - 1))))
def serF (n : Int) (h : List Rx) : List Rx → List Rx → Bool
  | _, [] => true
  | pre, x :: xs => !badS n h pre x && serF n h (pre ++ [x]) xs
def serialL (n : Int) (h : List Rx) : Bool := serF n h [] (wsOf h)
theorem serF_append (n : Int) (h : List Rx) : ∀ (a pre b : List Rx), serF n h pre (a ++ b) = (serF n h pre a && serF n h (pre ++ a) b)
  | [], pre, b => by simp [serF]
  | x :: a, pre, b => by
    rw [List.cons_append, serF, serF, serF_append n h a]
    rw [Bool.and_assoc, List.append_assoc]
    rfl
theorem serF_snoc (n : Int) (h a : List Rx) (x : Rx) : serF n h [] (a ++ [x]) = (serF n h [] a && !badS n h a x) := by
  rw [serF_append]; simp [serF]
theorem serF_upto (n : Int) (h ws : List Rx) (k : Nat) (hk : serF n h [] (ws.take k) = false) : serF n h [] ws = false := by
  rw [← List.take_append_drop k ws, serF_append, hk]; rfl

set_option maxRecDepth 100000 in
theorem results_cellb {W : World} {g : Nat} {b : Bool} (tmps : Array Value) (hp : tmps.getD 4 undef = .pointer (some ⟨g, 0, none⟩)) (hc : W.cell? ⟨g, 0, none⟩ = some (.bool b)) : (results Try.f12 tmps).run Try.prog W = .ok (.bool b) W := by
  have hp' : tmps[4]?.getD undef = .pointer (some ⟨g, 0, none⟩) := by simpa using hp
  have hr : Try.f12.results = #[.cell 4 4] := rfl
  simp [results, hr, hp', asAddr]
  have h2 : (loadVar 4 ⟨g, 0, none⟩).run Try.prog W = .ok (.bool b) W := by
    simp only [loadVar]
    go_simp
  rw [h2]

/-- Between two rounds. -/
def SeI (w : World) (n : Int) (v : Value) (Z : Nat) {h : List Rx} (pre : List { x : Rx // x ∈ wsOf h }) (W : World) : Prop :=
  (Blk W w.heap.size 3 #[.int .i64 n] ∧ Blk W (w.heap.size + 1) 22 #[v] ∧ Blk W (w.heap.size + 2) 4 #[.bool false] ∧ Blk W (w.heap.size + 4) 56 #[.map (some (w.heap.size + 3))] ∧ MapB W (w.heap.size + 3) ((pre.map Subtype.val).map Rx.wv)) ∧
    Below w.heap.size w W ∧ Z ≤ W.heap.size ∧ serF n h [] (pre.map Subtype.val) = true
/-- A round has left: the last try does not fit. -/
def SeX (w : World) (n : Int) {h : List Rx} (c : Code) (pre : List { x : Rx // x ∈ wsOf h }) (W : World) : Prop :=
  Blk W (w.heap.size + 2) 4 #[.bool false] ∧ Below w.heap.size w W ∧ (c = .ret ∧ serF n h [] (pre.map Subtype.val) = false)
theorem seI_own {w : World} {n : Int} {v : Value} {Z : Nat} {h : List Rx} {B : Nat} (h1 : w.heap.size + 4 ≤ B) : OwnFrom B (SeI w n v Z (h := h)) :=
  OwnFrom.and (OwnFrom.and ((blk_own (fun _ => w.heap.size) (fun _ => _) (fun _ => _)).from B) (OwnFrom.and ((blk_own (fun _ => w.heap.size + 1) (fun _ => _) (fun _ => _)).from B) (OwnFrom.and ((blk_own (fun _ => w.heap.size + 2) (fun _ => _) (fun _ => _)).from B) (OwnFrom.and ((blk_own (fun _ => w.heap.size + 4) (fun _ => _) (fun _ => _)).from B) (mapB_from (fun pre : List { x : Rx // x ∈ wsOf h } => (pre.map Subtype.val).map Rx.wv) (by omega))))))
    (OwnFrom.and (ownFrom_below (Nat.le_refl _) (by omega)) (OwnFrom.and (fun s W W' row hs hg _ => Nat.le_trans hs hg.size) (ownFrom_pure B (fun pre : List { x : Rx // x ∈ wsOf h } => serF n h [] (pre.map Subtype.val) = true))))
theorem seX_own {w : World} {n : Int} {h : List Rx} {B : Nat} (h1 : w.heap.size ≤ B) (c : Code) : OwnFrom B (SeX w n (h := h) c) :=
  OwnFrom.and ((blk_own (fun _ => w.heap.size + 2) (fun _ => _) (fun _ => _)).from B)
    (OwnFrom.and (ownFrom_below (Nat.le_refl _) h1) (ownFrom_pure B (fun pre : List { x : Rx // x ∈ wsOf h } => c = .ret ∧ serF n h [] (pre.map Subtype.val) = false)))

theorem se_stop {w W X : World} {n : Int} {v : Value} {Z : Nat} {h : List Rx} {pre : List { x : Rx // x ∈ wsOf h }} {x : { x : Rx // x ∈ wsOf h }} (hI : SeI w n v Z pre W) (hX : Below W.heap.size W X) (hb : badS n h (pre.map Subtype.val) x.1 = true) :
    KeepsFrom Z W (X.setCell ⟨w.heap.size + 1 + 1, 0, none⟩ (.bool false)) ∧ SeX w n .ret (pre ++ [x]) (X.setCell ⟨w.heap.size + 1 + 1, 0, none⟩ (.bool false)) := by
  obtain ⟨⟨j0, j1, j2, j4, j3⟩, jB, jZ, jP⟩ := hI
  refine ⟨(keeps_below jZ hX).trans (keeps_setCell _ _ _ _), ?_, (jB.trans (hX.mono jB.size)).setCell (by simp; omega) _, rfl, ?_⟩
  · have h5 := (j2.keep hX).set_ 0 (.bool false)
    exact h5
  · rw [List.map_append, List.map_cons, List.map_nil, serF_snoc, jP, hb]; rfl
theorem se_next {w W X Y : World} {n : Int} {v : Value} {lo Z : Nat} {h : List Rx} {pre : List { x : Rx // x ∈ wsOf h }} {x : { x : Rx // x ∈ wsOf h }} (hlo : w.heap.size + 4 ≤ lo) (hZ : w.heap.size + 5 ≤ Z) (hI : SeI w n v Z pre W) (hX : Below W.heap.size W X) (hb : badS n h (pre.map Subtype.val) x.1 = false)
    (hg : X.grownBy Y (some (w.heap.size + 3))) (hM : MapB Y (w.heap.size + 3) ((pre.map Subtype.val).map Rx.wv ++ [x.1.wv])) : KeepsFrom Z W Y ∧ KpM lo Z W Y ∧ SeI w n v Z (pre ++ [x]) Y := by
  obtain ⟨⟨j0, j1, j2, j4, j3⟩, jB, jZ, jP⟩ := hI
  have k1 : w.heap.size + 3 < X.heap.size := Nat.lt_of_lt_of_le j3.lt hX.size
  have hh : Below w.heap.size w Y := (jB.trans (hX.mono jB.size)).grown hg (by have := jB.size; have := hX.size; omega) (fun k e => by cases e; omega)
  have hne : ∀ g, g ≠ w.heap.size + 3 → g < X.heap.size → Y.heap[g]? = X.heap[g]? := fun g h1 h2 => hg.block g h2 (fun e => by cases e; exact h1 rfl)
  refine ⟨(keeps_below jZ hX).trans (KeepsFrom.of_grownBy hg (fun j e => by cases e; omega)), ⟨Nat.le_trans hX.size hg.size, fun k h1 h2 => (hne k (by omega) (by have := hX.size; omega)).trans (hX.block k (by omega))⟩, ⟨?_, ?_, ?_, ?_, ?_⟩, hh, Nat.le_trans jZ (Nat.le_trans hX.size hg.size), ?_⟩
  · exact (hne _ (by omega) (j0.keep hX).lt).trans (j0.keep hX)
  · exact (hne _ (by omega) (j1.keep hX).lt).trans (j1.keep hX)
  · exact (hne _ (by omega) (j2.keep hX).lt).trans (j2.keep hX)
  · exact (hne _ (by omega) (j4.keep hX).lt).trans (j4.keep hX)
  · rw [List.map_append, List.map_append]; exact hM
  · rw [List.map_append, List.map_cons, List.map_nil, serF_snoc, jP, hb]; rfl

set_option maxRecDepth 100000 in
set_option maxHeartbeats 4000000 in
theorem serial_any (n : Int) (v : Value) (h : List Rx) (w : World) (hv : RecsV w v h) (hl : h.length ≤ 100000) (hwf : ∀ x ∈ h, (Lit.int .i64 x.wv).wf = true) :
    Calls Try.prog 12 #[.int .i64 n, v] w fun e w' => e = .returned (.bool (serialL n h)) ∧ Below w.heap.size w w' := by
  obtain ⟨A, c, rfl, _, _⟩ := hv.1.form
  obtain ⟨m, hm⟩ : ∃ m, m = h.length := ⟨_, rfl⟩
  have HV := Lib.hid hv
  have cW := fun W h' => writers_any (.slice A h.length c) h W (hv.below h') hl
  have CS := Lib.hid (fun ver W h' => state_any n ver (.slice A h.length c) h W (hv.below h') hl)
  have hin : ∀ x ∈ wsOf h, x ∈ h := fun x hx => by unfold wsOf at hx; rw [srtK_mem] at hx; exact (List.mem_filter.1 hx).1
  have HOK := Lib.hid (fun x (hx : x ∈ wsOf h) => And.intro (hv.2 x (hin x hx)) (hwf x (hin x hx)))
  have hwl : (wsOf h).length ≤ 100000 := by unfold wsOf; rw [srtK_len]; exact Nat.le_trans (List.length_filter_le _ _) hl
  have CW := Lib.hid cW
  have hmm := @run_makeMap Try.prog
  have hb : Below w.heap.size w (((((w.alloc (.cells #[.int .i64 n] 3)).alloc (.cells #[.slice A h.length c] 22)).alloc (.cells #[.bool false] 4)).alloc (.map #[] 0)).alloc (.cells #[.map (some (w.heap.size + 3))] 56)) := (((((Below.refl _ w).alloc (Nat.le_refl _) _).alloc (by simp) _).alloc (by simp; omega) _).alloc (by simp; omega) _).alloc (by simp; omega) _
  have HB := Lib.hid hb
  clear hv cW hin hb
  rw [← hm] at CW CS HB
  rw [← hm]
  have HM := Lib.hid hm
  clear hm
  refine (callsIn_wide (n := 6)).1 ?_
  refine callsIn_of_wp_marks Try.func12 rfl trivial ?_ rfl
  simp only [Try.ntmps12, List.size_toArray, List.length_cons, List.length_nil, Nat.reduceAdd, Nat.reduceSub, Array.replicate_succ, Array.replicate_zero, List.push_toArray, List.append_toArray, List.nil_append, List.cons_append]
  gi_wp2_with fail
  refine ⟨trivial, (callsIn_wide.2 (CW.out _ HB.out)).mono ?_⟩
  rintro e w1 ⟨v1, rfl, hW1, hB1⟩
  gi_wp2_with fail
  obtain ⟨Bx, sv, rfl, hBx, hBl, hOw⟩ := hW1
  obtain ⟨W0, hW0⟩ : ∃ W0, (((((w.alloc (.cells #[.int .i64 n] 3)).alloc (.cells #[.slice A m c] 22)).alloc (.cells #[.bool false] 4)).alloc (.map #[] 0)).alloc (.cells #[.map (some (w.heap.size + 3))] 56)) = W0 := ⟨_, rfl⟩
  have hsz : W0.heap.size = w.heap.size + 5 := by rw [← hW0]; simp
  have q0 : Blk W0 w.heap.size 3 #[.int .i64 n] := hW0 ▸ ((((Blk.new_ w _ _ _ rfl).alloc _).alloc _).alloc _).alloc _
  have q1 : Blk W0 (w.heap.size + 1) 22 #[.slice A m c] := hW0 ▸ (((Blk.new_ _ _ _ _ (by simp)).alloc _).alloc _).alloc _
  have q2 : Blk W0 (w.heap.size + 2) 4 #[.bool false] := hW0 ▸ ((Blk.new_ _ _ _ _ (by simp)).alloc _).alloc _
  have q3 : MapB W0 (w.heap.size + 3) [] := hW0 ▸ (by
    have := MapB.made (((w.alloc (.cells #[.int .i64 n] 3)).alloc (.cells #[.slice A m c] 22)).alloc (.cells #[.bool false] 4))
    rw [show ((((w.alloc (.cells #[.int .i64 n] 3)).alloc (.cells #[.slice A m c] 22)).alloc (.cells #[.bool false] 4))).heap.size = w.heap.size + 3 from by simp] at this
    exact this.kept (World.grownBy_alloc _ _ none) (by simp))
  have q4 : Blk W0 (w.heap.size + 4) 56 #[.map (some (w.heap.size + 3))] := hW0 ▸ Blk.new_ _ _ _ _ (by simp)
  have hBe := HB.out
  rw [hW0] at hBe hB1 hBx hOw
  have HI0 := Lib.hid (show SeI w n (.slice A m c) w1.heap.size (h := h) [] w1 from ⟨⟨q0.keep hB1, q1.keep hB1, q2.keep hB1, q4.keep hB1, q3.keep hB1 (by omega)⟩, hBe.trans (hB1.mono hBe.size), Nat.le_refl _, rfl⟩)
  have hz1 : w.heap.size + 5 ≤ w1.heap.size := by have := hB1.size; omega
  have hmap : ((wsOf h).attach.map Subtype.val) = wsOf h := List.attach_map_subtype_val _
  have hOw' : w1.ownsRow W0.heap.size 27 10 sv (wsOf h).attach.length (((wsOf h).attach.map Subtype.val).flatMap encRx) := by rw [hmap, List.length_attach]; exact hOw
  have HOw := Lib.hid hOw'
  have HBl := Lib.hid hBl
  clear q0 q1 q2 q3 q4 hBe hB1 hOw hOw' hBl hmap
  refine wpIn_rangeFunc_ownH rfl (by omega) (gf := 50) (lb := #[.pointer (some ⟨Bx, 0, none⟩)]) rfl trivial (enters_of Try.func50 (by kernel_rfl) rfl)
    (values_stops Subtype.val Fence.wide 5 trivial rfl (by omega) Bx W0.heap.size w1.heap.size sv (wsOf h).attach (by rw [List.length_attach]; exact hwl) w1 rfl HBl.out HOw.out) KpM.trans (fun W l o o' hl ho _ _ => KpM.putObj ho (Nat.le_refl _) hl o') (Below.refl _ _) (fun _ => rfl)
    (SeI w n (.slice A m c) w1.heap.size) (SeX w n) (seI_own (by omega)) (seX_own (by omega)) HI0.out
    (fun x a' W => ∃ B8, w1.heap.size ≤ B8 ∧ Blk W B8 27 (encRx x.1).toArray ∧ a' = { tmps := #[.int .i64 n, .slice A m c, .pointer (some ⟨w.heap.size, 0, none⟩), .pointer (some ⟨w.heap.size + 1, 0, none⟩), .pointer (some ⟨w.heap.size + 1 + 1, 0, none⟩), .pointer (some ⟨w.heap.size + 1 + 1 + 1 + 1, 0, none⟩), .pointer (some ⟨B8, 0, none⟩), .map (some (w.heap.size + 1 + 1 + 1)), .slice A m c, .func (.func 50) #[] #[.pointer (some ⟨Bx, 0, none⟩)], .agg (encRx x.1).toArray, undef, undef, undef, undef, undef, undef, undef, undef, undef, undef, undef, undef, undef, undef, undef, undef, undef, undef, undef, undef, undef, undef, undef, undef, undef, undef], defers := [] })
    ?hAx ?assign ?body ?done ?stop
  case hAx =>
    rintro x a' s W W' row ⟨B8, h1, h2, h3⟩ hg hr
    exact ⟨B8, h1, blk_own (β := Unit) (fun _ => B8) (fun _ => _) (fun _ => _) () W W' row h2 hg (fun r e => (hr r e).2), h3⟩
  case assign =>
    intro l pre x W K hi hK
    have hzW : w1.heap.size ≤ W.heap.size := hi.2.2.1
    simp only [encRx] at hK ⊢
    gi_wp2
    refine hK _ _ ((KeepsOthers.alloc _ _).from _) (KpM.alloc hzW _) ?_ ⟨W.heap.size, hzW, Blk.new _ _ _, rfl⟩
    obtain ⟨⟨j0, j1, j2, j4, j3⟩, jB, jZ, jP⟩ := hi
    exact ⟨⟨j0.alloc _, j1.alloc _, j2.alloc _, j4.alloc _, j3.kept (World.grownBy_alloc _ _ none) (by simp)⟩, jB.alloc jB.size _, by simp; omega, jP⟩
  case body =>
    rintro l pre x a' W hl ⟨r, hr⟩ hI ⟨B8, hB8, hX8, rfl⟩ hlen
    have HI := Lib.hid hI
    obtain ⟨⟨j0, j1, j2, j4, j3⟩, jB, jZ, jP⟩ := hI
    have f1 : W.cell? ⟨w.heap.size + 1, 0, none⟩ = some (.slice A m c) := by rw [j1.cell]; rfl
    have f0 : W.cell? ⟨w.heap.size, 0, none⟩ = some (.int .i64 n) := by rw [j0.cell]; rfl
    have f4 : W.cell? ⟨w.heap.size + 1 + 1 + 1 + 1, 0, none⟩ = some (.map (some (w.heap.size + 1 + 1 + 1))) := by rw [j4.cell]; rfl
    have x4 : W.cell? ⟨B8, 4, none⟩ = some (.int .i64 x.1.rv) := by rw [hX8.cell]; rfl
    have x5 : W.cell? ⟨B8, 5, none⟩ = some (.int .i64 x.1.wv) := by rw [hX8.cell]; rfl
    have x6 : W.cell? ⟨B8, 6, none⟩ = some (.slice x.1.rA x.1.R.length x.1.rc) := by rw [hX8.cell]; rfl
    have l0 := j0.lt
    have l1 := j1.lt
    have l4 : w.heap.size + 1 + 1 + 1 + 1 < W.heap.size := j4.lt
    have l8 := hX8.lt
    have hwx := (HOK.out x.1 x.2).2
    have HLOOK := Lib.hid (fun W' (hb : Below W.heap.size W W') => (j3.keep hb j3.lt).look hwx)
    have HA := Lib.hid (fun lv l W' (hb : Below W.heap.size W W') h2 => agree_any (.slice x.1.rA x.1.R.length x.1.rc) lv x.1.R l W' (((HOK.out x.1 x.2).1.below jB).1.below hb) h2)
    have HS := Lib.hid (fun ver W' (hb : Below W.heap.size W W') => CS.out ver W' (jB.trans (hb.mono jB.size)))
    have HX8 := Lib.hid hX8
    have HJB := Lib.hid jB
    obtain ⟨bd, hbd⟩ : ∃ bd, bd = badS n h (pre.map Subtype.val) x.1 := ⟨_, rfl⟩
    have HBD := Lib.hid hbd
    unfold badS at hbd
    obtain ⟨q, hq⟩ : ∃ q, q = ((pre.map Subtype.val).map Rx.wv).contains x.1.wv := ⟨_, rfl⟩
    rw [← hq] at hbd HLOOK
    obtain ⟨g, hg⟩ : ∃ g, g = agreeL x.1.R (stateL n h (IntKind.i64.wrap (x.1.wv - 1))) := ⟨_, rfl⟩
    rw [← hg] at hbd
    have HG := Lib.hid hg
    have HJ2 := Lib.hid (fun W' (hb : Below W.heap.size W W') => (show W'.cell? ⟨w.heap.size + 1 + 1, 0, none⟩ = some (.bool false) from by rw [(j2.keep hb).cell]; rfl))
    have HJF := Lib.hid (fun W' (hb : Below W.heap.size W W') => (j2.keep hb).free)
    have HM3 := Lib.hid (fun W' (hb : Below W.heap.size W W') => j3.keep hb j3.lt)
    have HKEY := Lib.hid (Maps.keyOf_int_mk Try.underlying3 hwx)
    have HWX := Lib.hid hwx
    have HLO := Lib.hid (show w.heap.size + 4 ≤ W0.heap.size from by omega)
    have HLT := Lib.hid (show ((pre.map Subtype.val).map Rx.wv).length < maxLen from by rw [List.length_map, List.length_map]; rw [List.length_attach] at hlen; unfold maxLen; omega)
    clear j0 j1 j3 j2 j4 jB jP hX8 hwx hq hg
    have HF := Lib.hid (And.intro f4 (And.intro x5 (And.intro x4 (And.intro x6 (And.intro f0 f1)))))
    cases q with
    | true =>
      rw [Bool.true_or] at hbd
      have hlk := HLOOK.out W (Below.refl _ _)
      gi_wp2_with fail
      refine wpIn_region_held_round (S := fun w' => w'.cell? ⟨w.heap.size + 1 + 1 + 1 + 1, 0, none⟩ = some (.map (some (w.heap.size + 1 + 1 + 1))) ∧ w'.cell? ⟨B8, 5, none⟩ = some (.int .i64 x.1.wv) ∧ (Instr.lookup 56 (.map (some (w.heap.size + 1 + 1 + 1))) (.int .i64 x.1.wv) false).run Try.prog w' = .ok (.bool true) w') (by kernel_rfl) (by kernel_rfl) ?_ (fun hHeldbr => ?_)
      · exact ⟨f4, x5, HLOOK.out _ ((Below.refl _ _).drew)⟩
      refine tkW 0 { dst := some 11, op := Op.load 56 (Operand.tmp 5), type := 56, pos := "serial.go:56", after := _, guard := none } (v := ?vbr0) rfl (Or.inl ⟨by rfl, ?hybr0⟩) ?restbr0
      case hybr0 => (intro w hSw; (try dsimp only at hSw); go_simp <;> with_reducible rfl)
      try simp only [putW, setZ, setS]
      refine tkW 1 { dst := some 12, op := Op.fieldAddr 27 (Operand.tmp 6) 5, type := 0, pos := "serial.go:56", after := _, guard := none } (v := ?vbr1) rfl (Or.inl ⟨by rfl, ?hybr1⟩) ?restbr1
      case hybr1 => (intro w hSw; (try dsimp only at hSw); go_simp <;> with_reducible rfl)
      try simp only [putW, setZ, setS]
      refine tkW 2 { dst := some 13, op := Op.load 3 (Operand.tmp 12), type := 3, pos := "serial.go:56", after := _, guard := none } (v := ?vbr2) rfl (Or.inl ⟨by rfl, ?hybr2⟩) ?restbr2
      case hybr2 => (intro w hSw; (try dsimp only at hSw); go_simp <;> with_reducible rfl)
      try simp only [putW, setZ, setS]
      refine tkW 3 { dst := some 14, op := Op.lookup 56 (Operand.tmp 11) (Operand.tmp 13) false, type := 4, pos := "serial.go:56", after := _, guard := none } (v := ?vbr3) rfl (Or.inl ⟨by rfl, ?hybr3⟩) ?restbr3
      case hybr3 => (intro w hSw; (try dsimp only at hSw); go_simp <;> with_reducible rfl)
      try simp only [putW, setZ, setS]
      refine tkW 4 { dst := some 15, op := Op.move (Operand.tmp 14), type := 4, pos := "serial.go:56", after := _, guard := none } (v := ?vbr4) rfl (Or.inl ⟨by rfl, ?hybr4⟩) ?restbr4
      case hybr4 => (intro w hSw; (try dsimp only at hSw); go_simp <;> with_reducible rfl)
      try simp only [putW, setZ, setS]
      refine tkW 5 { dst := some 16, op := Op.fieldAddr 27 (Operand.tmp 6) 5, type := 0, pos := "serial.go:56", after := _, guard := some (4, false) } rfl (Or.inr ⟨by rfl, rfl⟩) ?_
      try simp only [putW, setZ, setS]
      refine tkW 6 { dst := some 17, op := Op.load 3 (Operand.tmp 16), type := 3, pos := "serial.go:56", after := _, guard := some (4, false) } rfl (Or.inr ⟨by rfl, rfl⟩) ?_
      try simp only [putW, setZ, setS]
      refine tkW 7 { dst := some 18, op := Op.fieldAddr 27 (Operand.tmp 6) 4, type := 0, pos := "serial.go:56", after := _, guard := some (4, false) } rfl (Or.inr ⟨by rfl, rfl⟩) ?_
      try simp only [putW, setZ, setS]
      refine tkW 8 { dst := some 19, op := Op.load 3 (Operand.tmp 18), type := 3, pos := "serial.go:56", after := _, guard := some (4, false) } rfl (Or.inr ⟨by rfl, rfl⟩) ?_
      try simp only [putW, setZ, setS]
      refine tkW 9 { dst := some 20, op := Op.binOp BinOp.leq 3 (Operand.tmp 17) (Operand.tmp 19) 3, type := 4, pos := "serial.go:56", after := _, guard := some (4, false) } rfl (Or.inr ⟨by rfl, rfl⟩) ?_
      try simp only [putW, setZ, setS]
      refine tkW 10 { dst := some 21, op := Op.pick (Operand.tmp 15) (Operand.const (Value.bool true)) (Operand.tmp 20), type := 4, pos := "serial.go:56", after := _, guard := none } (v := ?vbr10) rfl (Or.inl ⟨by rfl, ?hybr10⟩) ?restbr10
      case hybr10 => (intro w hSw; (try dsimp only at hSw); go_simp <;> with_reducible rfl)
      try simp only [putW, setZ, setS]
      refine tkW 11 { dst := some 22, op := Op.move (Operand.tmp 21), type := 4, pos := "serial.go:56", after := _, guard := none } (v := ?vbr11) rfl (Or.inl ⟨by rfl, ?hybr11⟩) ?restbr11
      case hybr11 => (intro w hSw; (try dsimp only at hSw); go_simp <;> with_reducible rfl)
      try simp only [putW, setZ, setS]
      refine tkW 12 { dst := some 23, op := Op.fieldAddr 27 (Operand.tmp 6) 6, type := 0, pos := "serial.go:56", after := _, guard := some (11, false) } rfl (Or.inr ⟨by rfl, rfl⟩) ?_
      try simp only [putW, setZ, setS]
      refine tkW 13 { dst := some 24, op := Op.load 25 (Operand.tmp 23), type := 25, pos := "serial.go:56", after := _, guard := some (11, false) } rfl (Or.inr ⟨by rfl, rfl⟩) ?_
      try simp only [putW, setZ, setS]
      refine tkW 14 { dst := some 25, op := Op.load 3 (Operand.tmp 2), type := 3, pos := "serial.go:56", after := _, guard := some (11, false) } rfl (Or.inr ⟨by rfl, rfl⟩) ?_
      try simp only [putW, setZ, setS]
      refine tkW 15 { dst := some 26, op := Op.load 22 (Operand.tmp 3), type := 22, pos := "serial.go:56", after := _, guard := some (11, false) } rfl (Or.inr ⟨by rfl, rfl⟩) ?_
      try simp only [putW, setZ, setS]
      refine tkW 16 { dst := some 27, op := Op.fieldAddr 27 (Operand.tmp 6) 5, type := 0, pos := "serial.go:56", after := _, guard := some (11, false) } rfl (Or.inr ⟨by rfl, rfl⟩) ?_
      try simp only [putW, setZ, setS]
      refine tkW 17 { dst := some 28, op := Op.load 3 (Operand.tmp 27), type := 3, pos := "serial.go:56", after := _, guard := some (11, false) } rfl (Or.inr ⟨by rfl, rfl⟩) ?_
      try simp only [putW, setZ, setS]
      refine tkW 18 { dst := some 29, op := Op.binOp BinOp.sub 3 (Operand.tmp 28) (Operand.const (Value.int IntKind.i64 1)) 3, type := 3, pos := "serial.go:56", after := _, guard := some (11, false) } rfl (Or.inr ⟨by rfl, rfl⟩) ?_
      try simp only [putW, setZ, setS]
      refine tkW 19 { dst := some 30, op := Op.call { callee := Callee.value (Operand.func 11), args := #[Operand.tmp 25, Operand.tmp 26, Operand.tmp 29], argTypes := #[3, 22, 3] }, type := 29, pos := "serial.go:56", after := _, guard := some (11, false) } rfl (Or.inr ⟨by rfl, rfl⟩) ?_
      try simp only [putW, setZ, setS]
      refine tkW 20 { dst := some 31, op := Op.call { callee := Callee.value (Operand.func 18), args := #[Operand.tmp 24, Operand.tmp 30], argTypes := #[25, 29] }, type := 4, pos := "serial.go:56", after := _, guard := some (11, false) } rfl (Or.inr ⟨by rfl, rfl⟩) ?_
      try simp only [putW, setZ, setS]
      refine tkW 21 { dst := some 32, op := Op.unOp UnOp.not 4 (Operand.tmp 31), type := 4, pos := "serial.go:56", after := _, guard := some (11, false) } rfl (Or.inr ⟨by rfl, rfl⟩) ?_
      try simp only [putW, setZ, setS]
      refine tkW 22 { dst := some 33, op := Op.pick (Operand.tmp 22) (Operand.const (Value.bool true)) (Operand.tmp 32), type := 4, pos := "serial.go:56", after := _, guard := none } (v := ?vbr22) rfl (Or.inl ⟨by rfl, ?hybr22⟩) ?restbr22
      case hybr22 => (intro w hSw; (try dsimp only at hSw); go_simp <;> with_reducible rfl)
      try simp only [putW, setZ, setS]
      refine wpAnyH_done (by kernel_rfl) ?_ _
      simp only [NormOnly]
      have f2 := HJ2.out W.drew (Below.refl _ _).drew
      have hf2 := HJF.out W.drew (Below.refl _ _).drew
      gi_wp2
      exact se_stop HI.out ((Below.refl _ _).drew) (HBD.out.symm.trans hbd)
    | false =>
      rw [Bool.false_or] at hbd
      by_cases hle : x.1.wv ≤ x.1.rv
      · rw [decide_eq_true hle, Bool.true_or] at hbd
        gi_wp2_with fail
        refine wpIn_region_held_round (S := fun w' => w'.cell? ⟨w.heap.size + 1 + 1 + 1 + 1, 0, none⟩ = some (.map (some (w.heap.size + 1 + 1 + 1))) ∧ w'.cell? ⟨B8, 5, none⟩ = some (.int .i64 x.1.wv) ∧ (Instr.lookup 56 (.map (some (w.heap.size + 1 + 1 + 1))) (.int .i64 x.1.wv) false).run Try.prog w' = .ok (.bool false) w' ∧ w'.cell? ⟨B8, 4, none⟩ = some (.int .i64 x.1.rv)) (by kernel_rfl) (by kernel_rfl) ?_ (fun hHeldcr => ?_)
        · exact ⟨f4, x5, HLOOK.out _ ((Below.refl _ _).drew), x4⟩
        refine tkW 0 { dst := some 11, op := Op.load 56 (Operand.tmp 5), type := 56, pos := "serial.go:56", after := _, guard := none } (v := ?vcr0) rfl (Or.inl ⟨by rfl, ?hycr0⟩) ?restcr0
        case hycr0 => (intro w hSw; (try dsimp only at hSw); go_simp <;> with_reducible rfl)
        try simp only [putW, setZ, setS]
        refine tkW 1 { dst := some 12, op := Op.fieldAddr 27 (Operand.tmp 6) 5, type := 0, pos := "serial.go:56", after := _, guard := none } (v := ?vcr1) rfl (Or.inl ⟨by rfl, ?hycr1⟩) ?restcr1
        case hycr1 => (intro w hSw; (try dsimp only at hSw); go_simp <;> with_reducible rfl)
        try simp only [putW, setZ, setS]
        refine tkW 2 { dst := some 13, op := Op.load 3 (Operand.tmp 12), type := 3, pos := "serial.go:56", after := _, guard := none } (v := ?vcr2) rfl (Or.inl ⟨by rfl, ?hycr2⟩) ?restcr2
        case hycr2 => (intro w hSw; (try dsimp only at hSw); go_simp <;> with_reducible rfl)
        try simp only [putW, setZ, setS]
        refine tkW 3 { dst := some 14, op := Op.lookup 56 (Operand.tmp 11) (Operand.tmp 13) false, type := 4, pos := "serial.go:56", after := _, guard := none } (v := ?vcr3) rfl (Or.inl ⟨by rfl, ?hycr3⟩) ?restcr3
        case hycr3 => (intro w hSw; (try dsimp only at hSw); go_simp <;> with_reducible rfl)
        try simp only [putW, setZ, setS]
        refine tkW 4 { dst := some 15, op := Op.move (Operand.tmp 14), type := 4, pos := "serial.go:56", after := _, guard := none } (v := ?vcr4) rfl (Or.inl ⟨by rfl, ?hycr4⟩) ?restcr4
        case hycr4 => (intro w hSw; (try dsimp only at hSw); go_simp <;> with_reducible rfl)
        try simp only [putW, setZ, setS]
        refine tkW 5 { dst := some 16, op := Op.fieldAddr 27 (Operand.tmp 6) 5, type := 0, pos := "serial.go:56", after := _, guard := some (4, false) } (v := ?vcr5) rfl (Or.inl ⟨by rfl, ?hycr5⟩) ?restcr5
        case hycr5 => (intro w hSw; (try dsimp only at hSw); go_simp <;> with_reducible rfl)
        try simp only [putW, setZ, setS]
        refine tkW 6 { dst := some 17, op := Op.load 3 (Operand.tmp 16), type := 3, pos := "serial.go:56", after := _, guard := some (4, false) } (v := ?vcr6) rfl (Or.inl ⟨by rfl, ?hycr6⟩) ?restcr6
        case hycr6 => (intro w hSw; (try dsimp only at hSw); go_simp <;> with_reducible rfl)
        try simp only [putW, setZ, setS]
        refine tkW 7 { dst := some 18, op := Op.fieldAddr 27 (Operand.tmp 6) 4, type := 0, pos := "serial.go:56", after := _, guard := some (4, false) } (v := ?vcr7) rfl (Or.inl ⟨by rfl, ?hycr7⟩) ?restcr7
        case hycr7 => (intro w hSw; (try dsimp only at hSw); go_simp <;> with_reducible rfl)
        try simp only [putW, setZ, setS]
        refine tkW 8 { dst := some 19, op := Op.load 3 (Operand.tmp 18), type := 3, pos := "serial.go:56", after := _, guard := some (4, false) } (v := ?vcr8) rfl (Or.inl ⟨by rfl, ?hycr8⟩) ?restcr8
        case hycr8 => (intro w hSw; (try dsimp only at hSw); go_simp <;> with_reducible rfl)
        try simp only [putW, setZ, setS]
        refine tkW 9 { dst := some 20, op := Op.binOp BinOp.leq 3 (Operand.tmp 17) (Operand.tmp 19) 3, type := 4, pos := "serial.go:56", after := _, guard := some (4, false) } (v := .bool true) rfl (Or.inl ⟨by rfl, ?hycr9⟩) ?restcr9
        case hycr9 => (intro w hSw; (try dsimp only at hSw); go_simp <;> first | done | with_reducible rfl | omega | (simp; done) | (simp; omega) | (simp [*]; done) | (simp [*]; omega) | exact decide_eq_false (by omega) | exact decide_eq_true (by omega))
        try simp only [putW, setZ, setS]
        refine tkW 10 { dst := some 21, op := Op.pick (Operand.tmp 15) (Operand.const (Value.bool true)) (Operand.tmp 20), type := 4, pos := "serial.go:56", after := _, guard := none } (v := ?vcr10) rfl (Or.inl ⟨by rfl, ?hycr10⟩) ?restcr10
        case hycr10 => (intro w hSw; (try dsimp only at hSw); go_simp <;> with_reducible rfl)
        try simp only [putW, setZ, setS]
        refine tkW 11 { dst := some 22, op := Op.move (Operand.tmp 21), type := 4, pos := "serial.go:56", after := _, guard := none } (v := ?vcr11) rfl (Or.inl ⟨by rfl, ?hycr11⟩) ?restcr11
        case hycr11 => (intro w hSw; (try dsimp only at hSw); go_simp <;> with_reducible rfl)
        try simp only [putW, setZ, setS]
        refine tkW 12 { dst := some 23, op := Op.fieldAddr 27 (Operand.tmp 6) 6, type := 0, pos := "serial.go:56", after := _, guard := some (11, false) } rfl (Or.inr ⟨by rfl, rfl⟩) ?_
        try simp only [putW, setZ, setS]
        refine tkW 13 { dst := some 24, op := Op.load 25 (Operand.tmp 23), type := 25, pos := "serial.go:56", after := _, guard := some (11, false) } rfl (Or.inr ⟨by rfl, rfl⟩) ?_
        try simp only [putW, setZ, setS]
        refine tkW 14 { dst := some 25, op := Op.load 3 (Operand.tmp 2), type := 3, pos := "serial.go:56", after := _, guard := some (11, false) } rfl (Or.inr ⟨by rfl, rfl⟩) ?_
        try simp only [putW, setZ, setS]
        refine tkW 15 { dst := some 26, op := Op.load 22 (Operand.tmp 3), type := 22, pos := "serial.go:56", after := _, guard := some (11, false) } rfl (Or.inr ⟨by rfl, rfl⟩) ?_
        try simp only [putW, setZ, setS]
        refine tkW 16 { dst := some 27, op := Op.fieldAddr 27 (Operand.tmp 6) 5, type := 0, pos := "serial.go:56", after := _, guard := some (11, false) } rfl (Or.inr ⟨by rfl, rfl⟩) ?_
        try simp only [putW, setZ, setS]
        refine tkW 17 { dst := some 28, op := Op.load 3 (Operand.tmp 27), type := 3, pos := "serial.go:56", after := _, guard := some (11, false) } rfl (Or.inr ⟨by rfl, rfl⟩) ?_
        try simp only [putW, setZ, setS]
        refine tkW 18 { dst := some 29, op := Op.binOp BinOp.sub 3 (Operand.tmp 28) (Operand.const (Value.int IntKind.i64 1)) 3, type := 3, pos := "serial.go:56", after := _, guard := some (11, false) } rfl (Or.inr ⟨by rfl, rfl⟩) ?_
        try simp only [putW, setZ, setS]
        refine tkW 19 { dst := some 30, op := Op.call { callee := Callee.value (Operand.func 11), args := #[Operand.tmp 25, Operand.tmp 26, Operand.tmp 29], argTypes := #[3, 22, 3] }, type := 29, pos := "serial.go:56", after := _, guard := some (11, false) } rfl (Or.inr ⟨by rfl, rfl⟩) ?_
        try simp only [putW, setZ, setS]
        refine tkW 20 { dst := some 31, op := Op.call { callee := Callee.value (Operand.func 18), args := #[Operand.tmp 24, Operand.tmp 30], argTypes := #[25, 29] }, type := 4, pos := "serial.go:56", after := _, guard := some (11, false) } rfl (Or.inr ⟨by rfl, rfl⟩) ?_
        try simp only [putW, setZ, setS]
        refine tkW 21 { dst := some 32, op := Op.unOp UnOp.not 4 (Operand.tmp 31), type := 4, pos := "serial.go:56", after := _, guard := some (11, false) } rfl (Or.inr ⟨by rfl, rfl⟩) ?_
        try simp only [putW, setZ, setS]
        refine tkW 22 { dst := some 33, op := Op.pick (Operand.tmp 22) (Operand.const (Value.bool true)) (Operand.tmp 32), type := 4, pos := "serial.go:56", after := _, guard := none } (v := ?vcr22) rfl (Or.inl ⟨by rfl, ?hycr22⟩) ?restcr22
        case hycr22 => (intro w hSw; (try dsimp only at hSw); go_simp <;> with_reducible rfl)
        try simp only [putW, setZ, setS]
        refine wpAnyH_done (by kernel_rfl) ?_ _
        simp only [NormOnly]
        have f2 := HJ2.out W.drew (Below.refl _ _).drew
        have hf2 := HJF.out W.drew (Below.refl _ _).drew
        gi_wp2
        exact se_stop HI.out ((Below.refl _ _).drew) (HBD.out.symm.trans hbd)
      · rw [decide_eq_false hle, Bool.false_or] at hbd
        gi_wp2_with fail
        refine wpIn_region_held_round (S := fun w' => w'.cell? ⟨w.heap.size + 1 + 1 + 1 + 1, 0, none⟩ = some (.map (some (w.heap.size + 1 + 1 + 1))) ∧ w'.cell? ⟨B8, 5, none⟩ = some (.int .i64 x.1.wv) ∧ (Instr.lookup 56 (.map (some (w.heap.size + 1 + 1 + 1))) (.int .i64 x.1.wv) false).run Try.prog w' = .ok (.bool false) w' ∧ w'.cell? ⟨B8, 4, none⟩ = some (.int .i64 x.1.rv) ∧ w'.cell? ⟨B8, 6, none⟩ = some (.slice x.1.rA x.1.R.length x.1.rc) ∧ w'.cell? ⟨w.heap.size, 0, none⟩ = some (.int .i64 n) ∧ w'.cell? ⟨w.heap.size + 1, 0, none⟩ = some (.slice A m c)) (by kernel_rfl) (by kernel_rfl) ?_ (fun hHelddr => ?_)
        · exact ⟨f4, x5, HLOOK.out _ ((Below.refl _ _).drew), x4, x6, f0, f1⟩
        refine tkW 0 { dst := some 11, op := Op.load 56 (Operand.tmp 5), type := 56, pos := "serial.go:56", after := _, guard := none } (v := ?vdr0) rfl (Or.inl ⟨by rfl, ?hydr0⟩) ?restdr0
        case hydr0 => (intro w hSw; (try dsimp only at hSw); go_simp <;> with_reducible rfl)
        try simp only [putW, setZ, setS]
        refine tkW 1 { dst := some 12, op := Op.fieldAddr 27 (Operand.tmp 6) 5, type := 0, pos := "serial.go:56", after := _, guard := none } (v := ?vdr1) rfl (Or.inl ⟨by rfl, ?hydr1⟩) ?restdr1
        case hydr1 => (intro w hSw; (try dsimp only at hSw); go_simp <;> with_reducible rfl)
        try simp only [putW, setZ, setS]
        refine tkW 2 { dst := some 13, op := Op.load 3 (Operand.tmp 12), type := 3, pos := "serial.go:56", after := _, guard := none } (v := ?vdr2) rfl (Or.inl ⟨by rfl, ?hydr2⟩) ?restdr2
        case hydr2 => (intro w hSw; (try dsimp only at hSw); go_simp <;> with_reducible rfl)
        try simp only [putW, setZ, setS]
        refine tkW 3 { dst := some 14, op := Op.lookup 56 (Operand.tmp 11) (Operand.tmp 13) false, type := 4, pos := "serial.go:56", after := _, guard := none } (v := ?vdr3) rfl (Or.inl ⟨by rfl, ?hydr3⟩) ?restdr3
        case hydr3 => (intro w hSw; (try dsimp only at hSw); go_simp <;> with_reducible rfl)
        try simp only [putW, setZ, setS]
        refine tkW 4 { dst := some 15, op := Op.move (Operand.tmp 14), type := 4, pos := "serial.go:56", after := _, guard := none } (v := ?vdr4) rfl (Or.inl ⟨by rfl, ?hydr4⟩) ?restdr4
        case hydr4 => (intro w hSw; (try dsimp only at hSw); go_simp <;> with_reducible rfl)
        try simp only [putW, setZ, setS]
        refine tkW 5 { dst := some 16, op := Op.fieldAddr 27 (Operand.tmp 6) 5, type := 0, pos := "serial.go:56", after := _, guard := some (4, false) } (v := ?vdr5) rfl (Or.inl ⟨by rfl, ?hydr5⟩) ?restdr5
        case hydr5 => (intro w hSw; (try dsimp only at hSw); go_simp <;> with_reducible rfl)
        try simp only [putW, setZ, setS]
        refine tkW 6 { dst := some 17, op := Op.load 3 (Operand.tmp 16), type := 3, pos := "serial.go:56", after := _, guard := some (4, false) } (v := ?vdr6) rfl (Or.inl ⟨by rfl, ?hydr6⟩) ?restdr6
        case hydr6 => (intro w hSw; (try dsimp only at hSw); go_simp <;> with_reducible rfl)
        try simp only [putW, setZ, setS]
        refine tkW 7 { dst := some 18, op := Op.fieldAddr 27 (Operand.tmp 6) 4, type := 0, pos := "serial.go:56", after := _, guard := some (4, false) } (v := ?vdr7) rfl (Or.inl ⟨by rfl, ?hydr7⟩) ?restdr7
        case hydr7 => (intro w hSw; (try dsimp only at hSw); go_simp <;> with_reducible rfl)
        try simp only [putW, setZ, setS]
        refine tkW 8 { dst := some 19, op := Op.load 3 (Operand.tmp 18), type := 3, pos := "serial.go:56", after := _, guard := some (4, false) } (v := ?vdr8) rfl (Or.inl ⟨by rfl, ?hydr8⟩) ?restdr8
        case hydr8 => (intro w hSw; (try dsimp only at hSw); go_simp <;> with_reducible rfl)
        try simp only [putW, setZ, setS]
        refine tkW 9 { dst := some 20, op := Op.binOp BinOp.leq 3 (Operand.tmp 17) (Operand.tmp 19) 3, type := 4, pos := "serial.go:56", after := _, guard := some (4, false) } (v := .bool false) rfl (Or.inl ⟨by rfl, ?hydr9⟩) ?restdr9
        case hydr9 => (intro w hSw; (try dsimp only at hSw); go_simp <;> first | done | with_reducible rfl | omega | (simp; done) | (simp; omega) | (simp [*]; done) | (simp [*]; omega) | exact decide_eq_false (by omega) | exact decide_eq_true (by omega))
        try simp only [putW, setZ, setS]
        refine tkW 10 { dst := some 21, op := Op.pick (Operand.tmp 15) (Operand.const (Value.bool true)) (Operand.tmp 20), type := 4, pos := "serial.go:56", after := _, guard := none } (v := ?vdr10) rfl (Or.inl ⟨by rfl, ?hydr10⟩) ?restdr10
        case hydr10 => (intro w hSw; (try dsimp only at hSw); go_simp <;> with_reducible rfl)
        try simp only [putW, setZ, setS]
        refine tkW 11 { dst := some 22, op := Op.move (Operand.tmp 21), type := 4, pos := "serial.go:56", after := _, guard := none } (v := ?vdr11) rfl (Or.inl ⟨by rfl, ?hydr11⟩) ?restdr11
        case hydr11 => (intro w hSw; (try dsimp only at hSw); go_simp <;> with_reducible rfl)
        try simp only [putW, setZ, setS]
        refine tkW 12 { dst := some 23, op := Op.fieldAddr 27 (Operand.tmp 6) 6, type := 0, pos := "serial.go:56", after := _, guard := some (11, false) } (v := ?vdr12) rfl (Or.inl ⟨by rfl, ?hydr12⟩) ?restdr12
        case hydr12 => (intro w hSw; (try dsimp only at hSw); go_simp <;> with_reducible rfl)
        try simp only [putW, setZ, setS]
        refine tkW 13 { dst := some 24, op := Op.load 25 (Operand.tmp 23), type := 25, pos := "serial.go:56", after := _, guard := some (11, false) } (v := ?vdr13) rfl (Or.inl ⟨by rfl, ?hydr13⟩) ?restdr13
        case hydr13 => (intro w hSw; (try dsimp only at hSw); go_simp <;> with_reducible rfl)
        try simp only [putW, setZ, setS]
        refine tkW 14 { dst := some 25, op := Op.load 3 (Operand.tmp 2), type := 3, pos := "serial.go:56", after := _, guard := some (11, false) } (v := ?vdr14) rfl (Or.inl ⟨by rfl, ?hydr14⟩) ?restdr14
        case hydr14 => (intro w hSw; (try dsimp only at hSw); go_simp <;> with_reducible rfl)
        try simp only [putW, setZ, setS]
        refine tkW 15 { dst := some 26, op := Op.load 22 (Operand.tmp 3), type := 22, pos := "serial.go:56", after := _, guard := some (11, false) } (v := ?vdr15) rfl (Or.inl ⟨by rfl, ?hydr15⟩) ?restdr15
        case hydr15 => (intro w hSw; (try dsimp only at hSw); go_simp <;> with_reducible rfl)
        try simp only [putW, setZ, setS]
        refine tkW 16 { dst := some 27, op := Op.fieldAddr 27 (Operand.tmp 6) 5, type := 0, pos := "serial.go:56", after := _, guard := some (11, false) } (v := ?vdr16) rfl (Or.inl ⟨by rfl, ?hydr16⟩) ?restdr16
        case hydr16 => (intro w hSw; (try dsimp only at hSw); go_simp <;> with_reducible rfl)
        try simp only [putW, setZ, setS]
        refine tkW 17 { dst := some 28, op := Op.load 3 (Operand.tmp 27), type := 3, pos := "serial.go:56", after := _, guard := some (11, false) } (v := ?vdr17) rfl (Or.inl ⟨by rfl, ?hydr17⟩) ?restdr17
        case hydr17 => (intro w hSw; (try dsimp only at hSw); go_simp <;> with_reducible rfl)
        try simp only [putW, setZ, setS]
        refine tkW 18 { dst := some 29, op := Op.binOp BinOp.sub 3 (Operand.tmp 28) (Operand.const (Value.int IntKind.i64 1)) 3, type := 3, pos := "serial.go:56", after := _, guard := some (11, false) } (v := ?vdr18) rfl (Or.inl ⟨by rfl, ?hydr18⟩) ?restdr18
        case hydr18 => (intro w hSw; (try dsimp only at hSw); go_simp <;> with_reducible rfl)
        try simp only [putW, setZ, setS]
        refine wpAnyH_ready (rs := [19]) (by kernel_rfl) (by simp) ?_
        refine AllReadyH.cons (o := { dst := some 30, op := Op.call { callee := Callee.value (Operand.func 11), args := #[Operand.tmp 25, Operand.tmp 26, Operand.tmp 29], argTypes := #[3, 22, 3] }, type := 29, pos := "serial.go:56", after := _, guard := some (11, false) }) rfl (fun K hK => ?_) AllReadyH.nil
        go_simp
        refine (HS.out _ _ (Below.refl _ _).drew).mono ?_
        rintro e w3 ⟨v3, rfl, hv3, hb3⟩
        have hX := (Below.refl W.heap.size W).drew.trans (hb3.mono (Nat.le_refl _))
        try go_wp2_with fail
        refine hK.out _ _ ?_ (fun hHelddr19 => ?_)
        · exact ⟨(hX.cell (p := ⟨w.heap.size + 1 + 1 + 1 + 1, 0, none⟩) l4).trans f4, (hX.cell (p := ⟨B8, 5, none⟩) l8).trans x5, HLOOK.out _ hX, (hX.cell (p := ⟨B8, 4, none⟩) l8).trans x4, (hX.cell (p := ⟨B8, 6, none⟩) l8).trans x6, (hX.cell (p := ⟨w.heap.size, 0, none⟩) l0).trans f0, (hX.cell (p := ⟨w.heap.size + 1, 0, none⟩) l1).trans f1⟩
        clear hK K hHelddr
        try simp only [Act.put, List.setIfInBounds_toArray, List.set_cons_zero, List.set_cons_succ]
        refine wpAnyH_ready (rs := [20]) (by kernel_rfl) (by simp) ?_
        refine AllReadyH.cons (o := { dst := some 31, op := Op.call { callee := Callee.value (Operand.func 18), args := #[Operand.tmp 24, Operand.tmp 30], argTypes := #[25, 29] }, type := 4, pos := "serial.go:56", after := _, guard := some (11, false) }) rfl (fun K hK => ?_) AllReadyH.nil
        go_simp
        refine (HA.out v3 _ _ hX hv3).mono ?_
        rintro e w4 ⟨rfl, hb4⟩
        have hY := hX.trans (hb4.mono hX.size)
        rw [← HG.out]
        try go_wp2_with fail
        refine hK.out _ _ ?_ (fun hHelddr20 => ?_)
        · exact ⟨(hY.cell (p := ⟨w.heap.size + 1 + 1 + 1 + 1, 0, none⟩) l4).trans f4, (hY.cell (p := ⟨B8, 5, none⟩) l8).trans x5, HLOOK.out _ hY, (hY.cell (p := ⟨B8, 4, none⟩) l8).trans x4, (hY.cell (p := ⟨B8, 6, none⟩) l8).trans x6, (hY.cell (p := ⟨w.heap.size, 0, none⟩) l0).trans f0, (hY.cell (p := ⟨w.heap.size + 1, 0, none⟩) l1).trans f1⟩
        clear hK K hHelddr19
        try simp only [Act.put, List.setIfInBounds_toArray, List.set_cons_zero, List.set_cons_succ]
        refine tkW 21 { dst := some 32, op := Op.unOp UnOp.not 4 (Operand.tmp 31), type := 4, pos := "serial.go:56", after := _, guard := some (11, false) } (v := ?vdr21) rfl (Or.inl ⟨by rfl, ?hydr21⟩) ?restdr21
        case hydr21 => (intro w hSw; (try dsimp only at hSw); go_simp <;> with_reducible rfl)
        try simp only [putW, setZ, setS]
        refine tkW 22 { dst := some 33, op := Op.pick (Operand.tmp 22) (Operand.const (Value.bool true)) (Operand.tmp 32), type := 4, pos := "serial.go:56", after := _, guard := none } (v := ?vdr22) rfl (Or.inl ⟨by rfl, ?hydr22⟩) ?restdr22
        case hydr22 => (intro w hSw; (try dsimp only at hSw); go_simp <;> with_reducible rfl)
        try simp only [putW, setZ, setS]
        refine wpAnyH_done (by kernel_rfl) ?_ _
        simp only [NormOnly]
        cases g with
        | true =>
          obtain ⟨D, m1, m2, m3⟩ := HM3.out w4 hY
          have hkey := HKEY.out
          have f4 := (hY.cell (p := ⟨w.heap.size + 1 + 1 + 1 + 1, 0, none⟩) l4).trans f4
          have x5 := (hY.cell (p := ⟨B8, 5, none⟩) l8).trans x5
          gi_wp2_with (gi_at_mapUpdate; refine wpListIn_mapUpdate_own _ rfl _ _ _ 56 rfl 3 4 keyedI Try.underlying56 _ (w.heap.size + 1 + 1 + 1) _ D rfl m1 HLT.out _ _ _ rfl rfl hkey _ [] (plainElem_bool Try.underlying4 true) ?_; intro w5 hown5 hgrow5)
          exact se_next HLO.out hz1 HI.out hY (HBD.out.symm.trans hbd) hgrow5 (MapB.put HWX.out m2 m3 hown5)
        | false =>
          have f2 := HJ2.out w4 hY
          have hf2 := HJF.out w4 hY
          gi_wp2
          exact se_stop HI.out hY (HBD.out.symm.trans hbd)
  case done =>
    rintro D ys W hD rfl hI hK
    obtain ⟨⟨j0, j1, j2, j4, j3⟩, jB, jZ, jP⟩ := hI
    rw [List.attach_map_subtype_val] at jP
    have f2 : W.cell? ⟨w.heap.size + 1 + 1, 0, none⟩ = some (.bool false) := by rw [j2.cell]; rfl
    have hf := j2.free
    have HJ := Lib.hid (And.intro j2 (And.intro jB jP))
    have HK := Lib.hid hK
    clear j0 j1 j3 j2 j4 jB jP hK
    gi_wp2
    show LeavesInM Fence.wide 6 _ _ _ _ ((D :: ([] : List Nat)).map markD) _ _
    refine leaves_marks (F := Fence.wide) (n := 6) (B := w.heap.size) (D :: []) _ (by simp) (fun D' hD' => ?_) fun W' hq => ?_
    · simp at hD'; subst hD'; exact ⟨by omega, mark_far HK.out (by omega)⟩
    · obtain ⟨j2, jB, jP⟩ := HJ.out
      have h5 := j2.set_ 0 (.bool true)
      have hcells := hq.1 _ _ _ h5
      refine ⟨_, results_cellb _ rfl (by rw [hcells.cell]; rfl), ?_, (jB.setCell (by simp; omega) _).trans (hq.2)⟩
      rw [show serialL n h = true from jP]
  case stop =>
    rintro D c' pre W hD ⟨k, hk, rfl⟩ ⟨j2, jB, rfl, jP⟩ hK
    have f2 : W.cell? ⟨w.heap.size + 1 + 1, 0, none⟩ = some (.bool false) := by rw [j2.cell]; rfl
    rw [List.map_take, List.attach_map_subtype_val] at jP
    have jQ := serF_upto n h _ _ jP
    have HJ := Lib.hid (And.intro j2 (And.intro jB jQ))
    have HK := Lib.hid hK
    clear j2 jB jP hK jQ
    gi_wp2
    show LeavesInM Fence.wide 6 _ _ _ _ ((D :: ([] : List Nat)).map markD) _ _
    refine leaves_marks (F := Fence.wide) (n := 6) (B := w.heap.size) (D :: []) _ (by simp) (fun D' hD' => ?_) fun W' hq => ?_
    · simp at hD'; subst hD'; exact ⟨by omega, HK.out⟩
    · obtain ⟨j2, jB, jQ⟩ := HJ.out
      have hcells := hq.1 _ _ _ j2
      refine ⟨_, results_cellb _ rfl (by rw [hcells.cell]; rfl), ?_, jB.trans (hq.2)⟩
      rw [show serialL n h = false from jQ]
end Go.Proofs.Ytmcbnpeihedcaaa
