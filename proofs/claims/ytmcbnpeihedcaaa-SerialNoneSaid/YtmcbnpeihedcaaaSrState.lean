/- serial.State. -/
import Derived.Test.YtmcbnpeihedcaaaSrVals
import Derived.Test.YtmcbnpeihedcaaaRfRegion
import Derived.Laws.MakeOwn
import Derived.Test.YtmcbnpeihedcaaaCopy
import Derived.WalkMore
namespace Go.Proofs.Ytmcbnpeihedcaaa
open Go Go.RowKit Go.Shelf
set_option linter.unusedVariables false
attribute [local go_sem] Oper.semAt_some

theorem wpIn_scope_wide {P : Program} {n : Nat} {c : Code} {Q : Exit → Act → World → Prop} {a : Act} {w : World} (h : c.wpIn Fence.wide n P (Exit.noGoto Q) a w) : (Code.scope c).wpIn Fence.wide n P Q a w :=
  wpIn_wide.2 (wp_scope_straight (wpIn_wide.1 h))

def encI (x : Int) : List Value := [.int .i64 x]
theorem encI_len : ∀ x : Int, (encI x).length = 1 := fun _ => rfl
theorem encI_one (t : List Int) : ∀ u ∈ t.flatMap encI, u.oneCell' = true := by
  intro u hu
  rw [List.mem_flatMap] at hu
  obtain ⟨x, _, hx⟩ := hu
  simp [encI] at hx
  subst hx; rfl
theorem flat_encI (t : List Int) : t.flatMap encI = t.map (Value.int .i64) := by
  induction t with
  | nil => rfl
  | cons x t ih => rw [List.flatMap_cons, ih]; rfl
theorem encI_get (t : List Int) (j : Nat) (hj : j < t.length) : (t.flatMap encI)[j]? = some (.int .i64 t[j]) := by
  rw [flat_encI, List.getElem?_map, List.getElem?_eq_getElem hj]; rfl

/-- One pair is written. -/
def putP (n : Nat) (o : List Int) (p : Pr) : List Int := if 0 ≤ p.at_ ∧ p.at_ < (n : Int) then o.set p.at_.toNat p.v else o
def applyW (n : Nat) (o : List Int) (W : List Pr) : List Int := W.foldl (putP n) o
/-- What words are behind some tries. -/
def foldS (n : Nat) (ws : List Rx) : List Int := ws.foldl (fun o x => applyW n o x.W) (List.replicate n 0)
def stateL (n : Int) (h : List Rx) (ver : Int) : List Int := if n < 1 ∨ 8 < n then [] else foldS n.toNat ((wsOf h).takeWhile (fun x => decide (x.wv ≤ ver)))
theorem putP_len (n : Nat) (o : List Int) (p : Pr) : (putP n o p).length = o.length := by unfold putP; split <;> simp
theorem applyW_len (n : Nat) (o : List Int) (W : List Pr) : (applyW n o W).length = o.length := by
  unfold applyW
  induction W generalizing o with
  | nil => rfl
  | cons p W ih => rw [List.foldl_cons, ih, putP_len]
theorem foldS_len (n : Nat) (ws : List Rx) : (foldS n ws).length = n := by
  unfold foldS
  have : ∀ (ws : List Rx) (o : List Int), (ws.foldl (fun o x => applyW n o x.W) o).length = o.length := by
    intro ws
    induction ws with
    | nil => intro o; rfl
    | cons x ws ih => intro o; rw [List.foldl_cons, ih, applyW_len]
  rw [this, List.length_replicate]
theorem foldS_snoc (n : Nat) (ws : List Rx) (x : Rx) : foldS n (ws ++ [x]) = applyW n (foldS n ws) x.W := by simp [foldS]
theorem applyW_snoc (n : Nat) (o : List Int) (W : List Pr) (p : Pr) : applyW n o (W ++ [p]) = putP n (applyW n o W) p := by simp [applyW]
def cellsI (l : List Int) : Array Value := (l.flatMap encI).toArray
theorem cellsI_at (l : List Int) (i : Nat) (hi : i < l.length) : (cellsI l)[i]? = some (.int .i64 l[i]) := by unfold cellsI; rw [List.getElem?_toArray, encI_get l i hi]
theorem cellsI_set (l : List Int) (i : Nat) (v : Int) : (cellsI l).setIfInBounds i (.int .i64 v) = cellsI (l.set i v) := by
  apply Array.toList_inj.1
  unfold cellsI
  simp only [List.setIfInBounds_toArray, flat_encI, List.map_set]
theorem made_ints (n : Nat) : madeCells (Value.int .i64 0).cells (n * 1) = cellsI (List.replicate n 0) := by
  apply Array.toList_inj.1
  rw [Nat.mul_one, show (Value.int .i64 0).cells = #[.int .i64 0] from rfl, toList_madeCells_one]
  unfold cellsI
  rw [flat_encI, List.map_replicate]

theorem ints_info : (Try.prog.info? 3).map (fun i => (i.zero, i.size, i.bytes)) = some (some (.int .i64 0), 1, 8) := by kernel_rfl

/-- What State hands back. -/
def StatePost (l : List Int) (w : World) (e : Ending) (w' : World) : Prop := ∃ v', e = .returned v' ∧ Sl w' 1 v' l.length (l.flatMap encI) ∧ Below w.heap.size w w'

theorem takeW_all {α : Type} {p : α → Bool} {l : List α} (h : ∀ x ∈ l, p x = true) : l.takeWhile p = l := by
  induction l with
  | nil => rfl
  | cons x l ih => rw [List.takeWhile_cons, if_pos (h x (by simp)), ih fun y hy => h y (by simp [hy])]
theorem takeW_upto {α : Type} {p : α → Bool} : ∀ {l : List α} {k : Nat} (hk : k < l.length), (∀ x ∈ l.take k, p x = true) → p l[k] = false → l.takeWhile p = l.take k
  | x :: l, 0, hk, _, h => by rw [List.takeWhile_cons, if_neg (by simpa using h)]; rfl
  | x :: l, k + 1, hk, h1, h2 => by
    rw [List.takeWhile_cons, if_pos (h1 x (by simp)), takeW_upto (l := l) (k := k) (by simpa using hk) (fun y hy => h1 y (by simp [hy])) (by simpa using h2)]
    rfl
theorem sl_ints {W : World} {g n : Nat} {ws : List Rx} (h : Blk W g 3 (cellsI (foldS n ws))) (h8 : n ≤ 8) : Sl W 1 (.slice (some ⟨g, 0, none⟩) n n) (foldS n ws).length ((foldS n ws).flatMap encI) := by
  refine ⟨flat_len encI encI_len _, .inr ⟨_, n, by rw [foldS_len], by rw [foldS_len]; exact Nat.le_refl _, by unfold maxLen; omega, fun _ => ⟨rfl, h.lt, fun j u hu => ?_⟩⟩⟩
  rw [Nat.zero_add, h.cell]
  unfold cellsI
  rw [List.getElem?_toArray]
  exact hu

/-- Between two rounds: the words, as those tries leave them. -/
def StI (w : World) (n Z : Nat) (ver : Int) {h : List Rx} (pre : List { x : Rx // x ∈ wsOf h }) (W : World) : Prop :=
  (Blk W w.heap.size 3 #[.int .i64 n] ∧ Blk W (w.heap.size + 1) 3 #[.int .i64 ver] ∧ Blk W (w.heap.size + 3) 29 #[.slice (some ⟨w.heap.size + 2, 0, none⟩) n n] ∧ Blk W (w.heap.size + 2) 3 (cellsI (foldS n (pre.map Subtype.val)))) ∧
    Below w.heap.size w W ∧ Z ≤ W.heap.size ∧ ∀ x ∈ pre, x.1.wv ≤ ver
/-- A round has left: the last try is too new. -/
def StX (w : World) (n : Nat) (ver : Int) {h : List Rx} (c : Code) (pre : List { x : Rx // x ∈ wsOf h }) (W : World) : Prop :=
  (Blk W (w.heap.size + 3) 29 #[.slice (some ⟨w.heap.size + 2, 0, none⟩) n n] ∧ Blk W (w.heap.size + 2) 3 (cellsI (foldS n (pre.dropLast.map Subtype.val)))) ∧ Below w.heap.size w W ∧ (c = .exit 0 ∧ (∀ x ∈ pre.dropLast, x.1.wv ≤ ver) ∧ ∃ x ∈ pre.getLast?, ver < x.1.wv)
theorem stI_own {w : World} {n Z : Nat} {ver : Int} {h : List Rx} {B : Nat} (h1 : w.heap.size ≤ B) : OwnFrom B (StI w n Z ver (h := h)) :=
  OwnFrom.and (OwnFrom.and ((blk_own (fun _ => w.heap.size) (fun _ => _) (fun _ => _)).from B) (OwnFrom.and ((blk_own (fun _ => w.heap.size + 1) (fun _ => _) (fun _ => _)).from B) (OwnFrom.and ((blk_own (fun _ => w.heap.size + 3) (fun _ => _) (fun _ => _)).from B) ((blk_own (fun _ => w.heap.size + 2) (fun _ => _) (fun pre : List { x : Rx // x ∈ wsOf h } => cellsI (foldS n (pre.map Subtype.val)))).from B))))
    (OwnFrom.and (ownFrom_below (Nat.le_refl _) h1) (OwnFrom.and (fun s W W' row hs hg _ => Nat.le_trans hs hg.size) (ownFrom_pure B (fun pre : List { x : Rx // x ∈ wsOf h } => ∀ x ∈ pre, x.1.wv ≤ ver))))
theorem stX_own {w : World} {n : Nat} {ver : Int} {h : List Rx} {B : Nat} (h1 : w.heap.size ≤ B) (c : Code) : OwnFrom B (StX w n ver (h := h) c) :=
  OwnFrom.and (OwnFrom.and ((blk_own (fun _ => w.heap.size + 3) (fun _ => _) (fun _ => _)).from B) ((blk_own (fun _ => w.heap.size + 2) (fun _ => _) (fun pre : List { x : Rx // x ∈ wsOf h } => cellsI (foldS n (pre.dropLast.map Subtype.val)))).from B))
    (OwnFrom.and (ownFrom_below (Nat.le_refl _) h1) (ownFrom_pure B (fun pre : List { x : Rx // x ∈ wsOf h } => c = .exit 0 ∧ (∀ x ∈ pre.dropLast, x.1.wv ≤ ver) ∧ ∃ x ∈ pre.getLast?, ver < x.1.wv)))

/-- In a round, behind k of the try's pairs. -/
def StJ (w : World) (n Z : Nat) (ver : Int) (lo : Nat) (W : World) {h : List Rx} (pre : List { x : Rx // x ∈ wsOf h }) (x : { x : Rx // x ∈ wsOf h }) (k : Nat) (wr : World) : Prop :=
  (Blk wr w.heap.size 3 #[.int .i64 n] ∧ Blk wr (w.heap.size + 1) 3 #[.int .i64 ver] ∧ Blk wr (w.heap.size + 3) 29 #[.slice (some ⟨w.heap.size + 2, 0, none⟩) n n] ∧ Blk wr (w.heap.size + 2) 3 (cellsI (applyW n (foldS n (pre.map Subtype.val)) (x.1.W.take k)))) ∧
    Below w.heap.size w wr ∧ Z ≤ wr.heap.size ∧ KeepsFrom Z W wr ∧ KpM lo Z W wr

set_option maxRecDepth 100000 in
set_option maxHeartbeats 1000000 in
theorem state_no (n ver : Int) (v : Value) (w : World) (hn : n < 1 ∨ 8 < n) : Calls Try.prog 11 #[.int .i64 n, v, .int .i64 ver] w (StatePost [] w) := by
  refine (callsIn_wide (n := 6)).1 ?_
  refine callsIn_of_wp_marks Try.func11 rfl trivial ?_ rfl
  simp only [Try.ntmps11, List.size_toArray, List.length_cons, List.length_nil, Nat.reduceAdd, Nat.reduceSub, Array.replicate_succ, Array.replicate_zero, List.push_toArray, List.append_toArray, List.nil_append, List.cons_append]
  have hb : Below w.heap.size w ((w.alloc (.cells #[.int .i64 n] 3)).alloc (.cells #[.int .i64 ver] 3)) := ((Below.refl _ w).alloc (Nat.le_refl _) _).alloc (by simp) _
  gi_wp2
  refine wpIn_scope_wide ?_
  by_cases h1 : n < 1
  · gi_wp2
    refine leaves_marks (F := Fence.wide) (n := 6) (B := w.heap.size) [] _ List.nodup_nil (fun D h => absurd h (by simp)) fun W' hq => ?_
    exact ⟨_, results_tmp rfl _ _ _, _, rfl, Sl.nil _ _, hb.trans hq.2⟩
  · have h2 : 8 < n := by omega
    gi_wp2
    show LeavesInM Fence.wide 6 _ _ _ _ (([] : List Nat).map markD) _ _
    refine leaves_marks (F := Fence.wide) (n := 6) (B := w.heap.size) [] _ List.nodup_nil (fun D h => absurd h (by simp)) fun W' hq => ?_
    exact ⟨_, results_tmp rfl _ _ _, _, rfl, Sl.nil _ _, hb.trans hq.2⟩

set_option maxRecDepth 100000 in
set_option maxHeartbeats 4000000 in
theorem state_main (n : Nat) (ver : Int) (v : Value) (h : List Rx) (w : World) (hv : RecsV w v h) (hl : h.length ≤ 100000) (h1 : 1 ≤ n) (h8 : n ≤ 8) : Calls Try.prog 11 #[.int .i64 (n : Int), v, .int .i64 ver] w (StatePost (foldS n ((wsOf h).takeWhile (fun x => decide (x.wv ≤ ver)))) w) := by
  have HV := Lib.hid hv
  have cW := fun W h' => writers_any v h W (hv.below h') hl
  have hok : ∀ x ∈ wsOf h, RxOk w x := fun x hx => hv.2 x (by unfold wsOf at hx; rw [srtK_mem] at hx; exact (List.mem_filter.1 hx).1)
  have hwl : (wsOf h).length ≤ 100000 := by unfold wsOf; rw [srtK_len]; exact Nat.le_trans (List.length_filter_le _ _) hl
  have HOK := Lib.hid hok
  have CW := Lib.hid cW
  obtain ⟨i0, hi0, iz0, iz1, iz2⟩ := info_parts ints_info
  have hmk : ∀ (w : World) (kl kc : IntKind), (Instr.makeSlice 29 (.int kl (n : Int)) (.int kc (n : Int))).run Try.prog w = .ok (.slice (some ⟨w.heap.size, 0, none⟩) n n) (w.alloc (.cells (cellsI (List.replicate n 0)) 3)) := fun w kl kc => by
    have := run_make (P := Try.prog) w 29 3 i0 _ Try.underlying29 hi0 iz0 kl kc (n : Int) (n : Int) (by omega) (Int.le_refl _) (by rw [iz2]; omega) (by omega)
    rw [this, Int.toNat_natCast, iz1, made_ints]
  clear hi0 iz0 iz1 iz2 hv cW hok
  have hn1 : ¬ (n : Int) < 1 := by omega
  have hn8 : ¬ (8 : Int) < (n : Int) := by omega
  have hb : Below w.heap.size w ((((w.alloc (.cells #[.int .i64 n] 3)).alloc (.cells #[.int .i64 ver] 3)).alloc (.cells (cellsI (List.replicate n 0)) 3)).alloc (.cells #[.slice (some ⟨w.heap.size + 2, 0, none⟩) n n] 29)) := ((((Below.refl _ w).alloc (Nat.le_refl _) _).alloc (by simp) _).alloc (by simp; omega) _).alloc (by simp; omega) _
  have HB := Lib.hid hb
  refine (callsIn_wide (n := 6)).1 ?_
  refine callsIn_of_wp_marks Try.func11 rfl trivial ?_ rfl
  simp only [Try.ntmps11, List.size_toArray, List.length_cons, List.length_nil, Nat.reduceAdd, Nat.reduceSub, Array.replicate_succ, Array.replicate_zero, List.push_toArray, List.append_toArray, List.nil_append, List.cons_append]
  gi_wp2
  refine wpIn_scope_wide ?_
  gi_wp2
  refine wpIn_label ?_
  gi_wp2_with (refine ⟨trivial, ?_⟩; gi_at_call 17; refine (callsIn_wide.2 (CW.out _ HB.out)).mono ?_; rintro e w1 ⟨v1, rfl, hW1, hB1⟩)
  obtain ⟨Bx, sv, rfl, hBx, hBl, hOw⟩ := hW1
  obtain ⟨W0, hW0⟩ : ∃ W0, ((((w.alloc (.cells #[.int .i64 n] 3)).alloc (.cells #[.int .i64 ver] 3)).alloc (.cells (cellsI (List.replicate n 0)) 3)).alloc (.cells #[.slice (some ⟨w.heap.size + 2, 0, none⟩) n n] 29)) = W0 := ⟨_, rfl⟩
  have hsz : W0.heap.size = w.heap.size + 4 := by rw [← hW0]; simp
  have q0 : Blk W0 w.heap.size 3 #[.int .i64 n] := hW0 ▸ (((Blk.new_ w _ _ _ rfl).alloc _).alloc _).alloc _
  have q1 : Blk W0 (w.heap.size + 1) 3 #[.int .i64 ver] := hW0 ▸ ((Blk.new_ _ _ _ _ (by simp)).alloc _).alloc _
  have q2 : Blk W0 (w.heap.size + 2) 3 (cellsI (List.replicate n 0)) := hW0 ▸ (Blk.new_ _ _ _ _ (by simp)).alloc _
  have q3 : Blk W0 (w.heap.size + 3) 29 #[.slice (some ⟨w.heap.size + 2, 0, none⟩) n n] := hW0 ▸ Blk.new_ _ _ _ _ (by simp)
  have hBe := HB.out
  rw [hW0] at hBe hB1 hBx hOw
  have HI0 := Lib.hid (show StI w n w1.heap.size ver (h := h) [] w1 from ⟨⟨q0.keep hB1, q1.keep hB1, q3.keep hB1, q2.keep hB1⟩, hBe.trans (hB1.mono hBe.size), Nat.le_refl _, fun x hx => absurd hx (by simp)⟩)
  have hz1 : w.heap.size + 4 ≤ w1.heap.size := by have := hB1.size; omega
  have hmap : ((wsOf h).attach.map Subtype.val) = wsOf h := List.attach_map_subtype_val _
  have hOw' : w1.ownsRow W0.heap.size 27 10 sv (wsOf h).attach.length (((wsOf h).attach.map Subtype.val).flatMap encRx) := by rw [hmap, List.length_attach]; exact hOw
  have HOw := Lib.hid hOw'
  have HBl := Lib.hid hBl
  clear q0 q1 q2 q3 hBe hB1 hOw hOw' hBl hb hmk hmap
  refine wpIn_rangeFunc_ownH rfl (by omega) (gf := 50) (lb := #[.pointer (some ⟨Bx, 0, none⟩)]) rfl trivial (enters_of Try.func50 (by kernel_rfl) rfl)
    (values_stops Subtype.val Fence.wide 5 trivial rfl (by omega) Bx W0.heap.size w1.heap.size sv (wsOf h).attach (by rw [List.length_attach]; exact hwl) w1 rfl HBl.out HOw.out) KpM.trans (fun W l o o' hl ho _ _ => KpM.putObj ho (Nat.le_refl _) hl o') (Below.refl _ _) (fun _ => rfl)
    (StI w n w1.heap.size ver) (StX w n ver) (stI_own (by omega)) (stX_own (by omega)) HI0.out
    (fun x a' W => ∃ B8, w1.heap.size ≤ B8 ∧ Blk W B8 27 (encRx x.1).toArray ∧ a' = { tmps := #[.int .i64 n, v, .int .i64 ver, .pointer (some ⟨w.heap.size, 0, none⟩), undef, .pointer (some ⟨w.heap.size + 1, 0, none⟩), .slice none 0 0, .pointer (some ⟨w.heap.size + 1 + 1 + 1, 0, none⟩), .pointer (some ⟨B8, 0, none⟩), undef, undef, .int .i64 n, .bool (decide ((n : Int) < 1)), .bool (decide ((n : Int) < 1)), .int .i64 n, .bool (decide ((8 : Int) < n)), .bool (decide ((n : Int) < 1) || decide ((8 : Int) < n)), .int .i64 n, .slice (some ⟨w.heap.size + 1 + 1, 0, none⟩) n n, v, .func (.func 50) #[] #[.pointer (some ⟨Bx, 0, none⟩)], .agg (encRx x.1).toArray, undef, undef, undef, undef, undef, undef, undef, undef, undef, undef, undef, undef, undef, undef, undef, undef, undef, undef, undef, undef, undef, undef, undef, undef, undef, undef, undef, undef], defers := [] })
    ?hAx ?assign ?body ?done ?stop
  case hAx =>
    rintro x a' s W W' row ⟨B8, h1, h2, h3⟩ hg hr
    exact ⟨B8, h1, blk_own (β := Unit) (fun _ => B8) (fun _ => _) (fun _ => _) () W W' row h2 hg (fun r e => (hr r e).2), h3⟩
  case assign =>
    intro l pre x W K hi hK
    have hzW : w1.heap.size ≤ W.heap.size := hi.2.2.1
    simp only [encRx] at hK ⊢
    gi_wp2
    refine hK _ _ ((KeepsOthers.alloc _ _).from _) (KpM.alloc hzW _) ?_ ⟨W.heap.size, hzW, Blk.new _ _ _, rfl⟩
    obtain ⟨⟨j0, j1, j3, j2⟩, jB, jZ, jP⟩ := hi
    exact ⟨⟨j0.alloc _, j1.alloc _, j3.alloc _, j2.alloc _⟩, jB.alloc jB.size _, by simp; omega, jP⟩
  case body =>
    rintro l pre x a' W hl ⟨r, hr⟩ hI ⟨B8, hB8, hX8, rfl⟩ hlen
    have HI := Lib.hid hI
    obtain ⟨⟨j0, j1, j3, j2⟩, jB, jZ, jP⟩ := hI
    have f0 : W.cell? ⟨w.heap.size, 0, none⟩ = some (.int .i64 n) := by rw [j0.cell]; rfl
    have f1 : W.cell? ⟨w.heap.size + 1, 0, none⟩ = some (.int .i64 ver) := by rw [j1.cell]; rfl
    have f3 : W.cell? ⟨w.heap.size + 1 + 1 + 1, 0, none⟩ = some (.slice (some ⟨w.heap.size + 2, 0, none⟩) n n) := by rw [j3.cell]; rfl
    have x5 : W.cell? ⟨B8, 5, none⟩ = some (.int .i64 x.1.wv) := by rw [hX8.cell]; rfl
    have x7 : W.cell? ⟨B8, 7, none⟩ = some (.slice x.1.wA x.1.W.length x.1.wc) := by rw [hX8.cell]; rfl
    have HX8 := Lib.hid hX8
    have hok := (HOK.out x.1 x.2).below jB
    have HOX := Lib.hid hok
    clear j0 j1 j3 j2 jB jP hX8 hok
    obtain ⟨m, hm⟩ : ∃ m, m = x.1.W.length := ⟨_, rfl⟩
    rw [← hm] at x7
    have HM := Lib.hid hm
    have hbig : m ≤ 9223372036854775807 := by obtain ⟨A', c', e', h1', h2'⟩ := (HOK.out x.1 x.2).2.form; injection e' with _ _ e3; unfold maxLen at h2'; omega
    clear hm
    by_cases hgt : ver < x.1.wv
    · gi_wp2
      obtain ⟨⟨j0, j1, j3, j2⟩, jB, jZ, jP⟩ := HI.out
      exact ⟨⟨Nat.le_refl _, fun _ _ _ h _ => h⟩, ⟨j3, by rw [List.dropLast_concat]; exact j2⟩, jB, rfl, by rw [List.dropLast_concat]; exact jP, x, by simp, hgt⟩
    · have HL0 := Lib.hid (show StJ w n w1.heap.size ver W0.heap.size W pre x 0 W from by
        obtain ⟨⟨j0, j1, j3, j2⟩, jB, jZ, jP⟩ := HI.out
        exact ⟨⟨j0, j1, j3, j2⟩, jB, jZ, KeepsFrom.refl _ _, KpM.refl _ _ _⟩)
      have HGT := Lib.hid hgt
      gi_wp2
      clear x5 f1 f3
      gi_loopw [29] (fun i wr => ∃ k : Nat, k ≤ m ∧ i = .int .i64 k ∧ Hid (StJ w n w1.heap.size ver W0.heap.size W pre x k wr)) (fun i _ => m - (intOf i).toNat)
      case atStart => exact ⟨0, Nat.zero_le _, by go_num, HL0.out⟩
      case round =>
        obtain ⟨k, hk, rfl, HJ⟩ := hrel
        clear f0 x7 HL0
        obtain ⟨⟨j0, j1, j3, j2⟩, jB, jZ, jK, jM⟩ := HJ.out
        have f0 : wr.cell? ⟨w.heap.size, 0, none⟩ = some (.int .i64 n) := by rw [j0.cell]; rfl
        have f3 : wr.cell? ⟨w.heap.size + 1 + 1 + 1, 0, none⟩ = some (.slice (some ⟨w.heap.size + 2, 0, none⟩) n n) := by rw [j3.cell]; rfl
        have l0 := j0.lt
        have l3 : w.heap.size + 1 + 1 + 1 < wr.heap.size := j3.lt
        have l2 : w.heap.size + 1 + 1 < wr.heap.size := j2.lt
        by_cases hlt : k < m
        · have hkW : k < x.1.W.length := by have := HM.out; omega
          obtain ⟨b, o, hA, hbl, hel⟩ := Sl.pos encPr encPr_len (HOK.out x.1 x.2).2 (by omega)
          rw [hA]
          have hel := hel wr jB k hkW
          obtain ⟨p, hp⟩ : ∃ p, p = x.1.W[k] := ⟨_, rfl⟩
          rw [← hp] at hel
          have HT := Lib.hid (show x.1.W.take (k + 1) = x.1.W.take k ++ [p] from by rw [List.take_succ_eq_append_getElem hkW, hp])
          have e0 := hel 0 _ rfl
          have e1 := hel 1 _ rfl
          simp only [Nat.add_zero] at e0
          have hlb : b < wr.heap.size := Nat.lt_of_lt_of_le hbl jB.size
          have hlen2 := applyW_len n (foldS n (pre.map Subtype.val)) (x.1.W.take k)
          rw [foldS_len] at hlen2
          have HLEN := Lib.hid hlen2
          have hk0 : (0 : Int) ≤ (k : Int) := by omega
          have hk1 : (k : Int) < (m : Int) := by omega
          have hzr := jB.size
          have hBA : Below w.heap.size w (wr.alloc (.cells #[.int .i64 p.at_, .int .i64 p.v] 34)) := jB.alloc jB.size _
          have hKA : KeepsFrom w1.heap.size W (wr.alloc (.cells #[.int .i64 p.at_, .int .i64 p.v] 34)) := jK.trans ((KeepsOthers.alloc _ _).from _)
          have hMA : KpM W0.heap.size w1.heap.size W (wr.alloc (.cells #[.int .i64 p.at_, .int .i64 p.v] 34)) := jM.trans (KpM.alloc jZ _)
          have hSame : putP n (applyW n (foldS n (pre.map Subtype.val)) (x.1.W.take k)) p = applyW n (foldS n (pre.map Subtype.val)) (x.1.W.take k) → StJ w n w1.heap.size ver W0.heap.size W pre x (k + 1) (wr.alloc (.cells #[.int .i64 p.at_, .int .i64 p.v] 34)) := fun he =>
            ⟨⟨j0.alloc _, j1.alloc _, j3.alloc _, by rw [HT.out, applyW_snoc, he]; exact j2.alloc _⟩, hBA, by simp; omega, hKA, hMA⟩
          have HSAME := Lib.hid hSame
          have HJJ := Lib.hid (And.intro j0 (And.intro j1 (And.intro j3 (And.intro j2 (And.intro jB (And.intro jK jM))))))
          have g2 := fun i => j2.cell i
          have g2f := j2.free
          clear hel hp hlen2 hA hBA hKA hMA hSame j0 j1 j3 j2 jB jK jM
          by_cases y0 : 0 ≤ p.at_
          · obtain ⟨q, hq⟩ := Int.eq_ofNat_of_zero_le y0
            by_cases yn : p.at_ < (n : Int)
            · have hqn : q < n := by omega
              have g0 : wr.cell? ⟨w.heap.size + 2, q, none⟩ = some (.int .i64 ((applyW n (foldS n (pre.map Subtype.val)) (x.1.W.take k))[q]'(by rw [HLEN.out]; exact hqn))) := by rw [g2, cellsI_at]
              have gf := g2f q
              have HP := Lib.hid (show putP n (applyW n (foldS n (pre.map Subtype.val)) (x.1.W.take k)) p = (applyW n (foldS n (pre.map Subtype.val)) (x.1.W.take k)).set q p.v from by unfold putP; rw [if_pos ⟨y0, yn⟩, hq]; rfl)
              clear g2 g2f
              rw [hq] at e0 yn y0 HSAME
              clear hq
              gi_wp2
              go_roundw
              case measure => simp [intOf]; omega
              case rel =>
                refine ⟨k + 1, by omega, by go_num, ?_⟩
                obtain ⟨j0, j1, j3, j2, jB, jK, jM⟩ := HJJ.out
                refine ⟨⟨(j0.far (by simp) _).alloc _, (j1.far (by simp) _).alloc _, (j3.far (by simp) _).alloc _, ?_⟩, (jB.setCell (by simp) _).alloc (by simp; omega) _, by simp; omega, (jK.trans (keeps_setCell _ _ _ _)).trans ((KeepsOthers.alloc _ _).from _), (jM.trans (KpM.setCell (.inl (by simp; omega)) _)).trans (KpM.alloc (by simp; omega) _)⟩
                have h5 := (j2.set_ q (.int .i64 p.v)).alloc (.cells #[.int .i64 (q : Int), .int .i64 p.v] 34)
                rw [cellsI_set] at h5
                rw [HT.out, applyW_snoc, HP.out]
                exact h5
            · have HP := Lib.hid (HSAME.out (by unfold putP; rw [if_neg (fun h => yn h.2)]))
              clear g2 g2f hq
              gi_wp2
              go_roundw
              case measure => simp [intOf]; omega
              case rel => exact ⟨k + 1, by omega, by go_num, HP⟩
          · have HP := Lib.hid (HSAME.out (by unfold putP; rw [if_neg (fun h => y0 h.1)]))
            clear g2 g2f
            gi_wp2
            go_roundw
            case measure => simp [intOf]; omega
            case rel => exact ⟨k + 1, by omega, by go_num, HP⟩
        · obtain rfl : k = m := by omega
          clear j0 j1 j3 j2 jB jZ jK jM f0 f3
          gi_wp2
          obtain ⟨⟨j0, j1, j3, j2⟩, jB, jZ, jK, jM⟩ := HJ.out
          obtain ⟨_, _, _, jP⟩ := HI.out
          refine ⟨jK, jM, ⟨j0, j1, j3, ?_⟩, jB, jZ, ?_⟩
          · rw [List.map_append, List.map_cons, List.map_nil, foldS_snoc]
            rw [List.take_of_length_le (by have := HM.out; omega)] at j2
            exact j2
          · intro y hy
            rw [List.mem_append] at hy
            rcases hy with hy | hy
            · exact jP y hy
            · simp at hy; subst hy; have := HGT.out; omega
  case done =>
    rintro D ys W hD rfl hI hK
    obtain ⟨⟨j0, j1, j3, j2⟩, jB, jZ, jP⟩ := hI
    have f3 : W.cell? ⟨w.heap.size + 1 + 1 + 1, 0, none⟩ = some (.slice (some ⟨w.heap.size + 2, 0, none⟩) n n) := by rw [j3.cell]; rfl
    have HJ := Lib.hid (And.intro j2 (And.intro jB jP))
    have HK := Lib.hid hK
    clear j0 j1 j3 j2 jB jP hK
    gi_wp2
    show LeavesInM Fence.wide 6 _ _ _ _ ((D :: ([] : List Nat)).map markD) _ _
    refine leaves_marks (F := Fence.wide) (n := 6) (B := w.heap.size) (D :: []) _ (by simp) (fun D' hD' => ?_) fun W' hq => ?_
    · simp at hD'; subst hD'; exact ⟨by omega, HK.out⟩
    · obtain ⟨j2, jB, jP⟩ := HJ.out
      have hcells := hq.1 _ _ _ j2
      have e : (wsOf h).takeWhile (fun x => decide (x.wv ≤ ver)) = (wsOf h).attach.map Subtype.val := by
        rw [List.attach_map_subtype_val, takeW_all]
        intro x hx
        exact decide_eq_true (jP ⟨x, hx⟩ (List.mem_attach _ _))
      refine ⟨_, results_tmp rfl _ _ _, ?_⟩
      rw [e]
      exact ⟨_, rfl, sl_ints hcells h8, jB.trans hq.2⟩
  case stop =>
    rintro D c pre W hD ⟨k, hk, rfl⟩ ⟨⟨j3, j2⟩, jB, rfl, jP, y, hy, hyv⟩ hK
    have f3 : W.cell? ⟨w.heap.size + 1 + 1 + 1, 0, none⟩ = some (.slice (some ⟨w.heap.size + 2, 0, none⟩) n n) := by rw [j3.cell]; rfl
    have e : (wsOf h).takeWhile (fun x => decide (x.wv ≤ ver)) = ((wsOf h).attach.take (k + 1)).dropLast.map Subtype.val := by
      have hk2 : k < (wsOf h).length := by rw [List.length_attach] at hk; exact hk
      have e1 : ((wsOf h).attach.take (k + 1)).dropLast = (wsOf h).attach.take k := by
        rw [List.take_succ_eq_append_getElem hk, List.dropLast_concat]
      have e2 : (wsOf h)[k] = y.1 := by
        rw [List.take_succ_eq_append_getElem hk, List.getLast?_concat] at hy
        have := Option.some.inj hy
        rw [← this]
        simp
      rw [e1] at jP ⊢
      rw [List.map_take, List.attach_map_subtype_val]
      refine takeW_upto hk2 (fun x hx => ?_) (by rw [e2]; exact decide_eq_false (by omega))
      have hx2 : x ∈ ((wsOf h).attach.take k).map Subtype.val := by rw [List.map_take, List.attach_map_subtype_val]; exact hx
      rw [List.mem_map] at hx2
      obtain ⟨z, hz, rfl⟩ := hx2
      exact decide_eq_true (jP z hz)
    have HJ := Lib.hid (And.intro j2 (And.intro jB e))
    have HK := Lib.hid hK
    clear j3 j2 jB jP hK hy hyv e
    gi_wp2
    show LeavesInM Fence.wide 6 _ _ _ _ ((D :: ([] : List Nat)).map markD) _ _
    refine leaves_marks (F := Fence.wide) (n := 6) (B := w.heap.size) (D :: []) _ (by simp) (fun D' hD' => ?_) fun W' hq => ?_
    · simp at hD'; subst hD'; exact ⟨by omega, HK.out⟩
    · obtain ⟨j2, jB, e⟩ := HJ.out
      refine ⟨_, results_tmp rfl _ _ _, ?_⟩
      rw [e]
      exact ⟨_, rfl, sl_ints (hq.1 _ _ _ j2) h8, jB.trans hq.2⟩

theorem state_any (n ver : Int) (v : Value) (h : List Rx) (w : World) (hv : RecsV w v h) (hl : h.length ≤ 100000) : Calls Try.prog 11 #[.int .i64 n, v, .int .i64 ver] w (StatePost (stateL n h ver) w) := by
  unfold stateL
  by_cases hn : n < 1 ∨ 8 < n
  · rw [if_pos hn]; exact state_no n ver v w hn
  · rw [if_neg hn]
    obtain ⟨m, rfl⟩ : ∃ m : Nat, n = (m : Int) := ⟨n.toNat, by omega⟩
    rw [Int.toNat_natCast]
    exact state_main m ver v h w hv hl (by omega) (by omega)
end Go.Proofs.Ytmcbnpeihedcaaa
