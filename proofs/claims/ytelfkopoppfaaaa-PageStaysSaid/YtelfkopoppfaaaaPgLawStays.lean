/- The walk of PageStays. -/
import Derived.Test.YtelfkopoppfaaaaPgLawStays1
import Derived.Test.YtelfkopoppfaaaaPgLawStays2
import Derived.Test.YtelfkopoppfaaaaPgLawStays3
import Derived.Test.YtelfkopoppfaaaaPgLawStays4
namespace Go.Proofs.Ytelfkopoppfaaaa
open Go Go.RowKit

theorem pageStays_walk (w : World) (v0 : Value) (cap0 : Int) (ps0 : List Pg) (hst0 : StV w v0 cap0 ps0) (_wc0 : okI cap0) (_hok0 : ∀ q ∈ ps0, pgOk q) (p : Int) (_w1 : (Lit.int .i64 p).wf = true)
    (i : Int) (_w2 : (Lit.int .i64 i).wf = true) (v : Int) (_w3 : (Lit.int .i64 v).wf = true) :
    Calls Try.prog 8 #[v0, .int .i64 p, .int .i64 i, .int .i64 v] w fun e w' => e = .returned (.bool true) ∧ Below w.heap.size w w' := by
  obtain ⟨A0, c0, rfl, hst0⟩ := hst0.form
  cases hm : mayP cap0 ps0 with
  | false =>
    have hmay := fun W (hb : Below w.heap.size w W) => may_any cap0 _ ps0 W (hst0.below hb).sl
    rw [hm] at hmay
    clear hm hst0
    generalize ps0.length = n at *
    go_enter Try.func8, Try.ntmps8
    go_wp2_with fail
    refine (awake_any _).mono ?_
    rintro e w1 ⟨rfl, hb1⟩
    obtain ⟨hc1, -⟩ := bcell hb1
    have hB1 : Below w.heap.size w w1 := ((Below.refl _ w).alloc (Nat.le_refl _) _).trans (hb1.mono (by simp))
    go_wp2_with fail
    refine (hmay _ hB1).mono ?_
    rintro e w2 ⟨rfl, hb2⟩
    go_wp2
    go_ret
    exact ⟨rfl, hB1.trans (hb2.mono hB1.size)⟩
  | true =>
    rcases hA : allocX cap0 ps0 with ⟨atA, eA, qsA⟩
    rcases hB : shareL cap0 ps0 p with ⟨eB, qsB⟩
    rcases hC : freeX cap0 ps0 p with ⟨eC, qsC⟩
    rcases hD : writeL cap0 ps0 p i v with ⟨atD, eD, qsD⟩
    have hmA : mayP cap0 qsA = true := by have := allocX_may hm; rwa [hA] at this
    have hmB : mayP cap0 qsB = true := by have := shareL_may hm p; rwa [hB] at this
    have hmC : mayP cap0 qsC = true := by have := freeX_may hm p; rwa [hC] at this
    have hmD : mayP cap0 qsD = true := by have := writeL_may hm p i v; rwa [hD] at this
    have hsA : (eA != 0) = true → qsA = ps0 := fun h => by have := allocX_err hm (by rw [hA]; simpa using h); rwa [hA] at this
    have hsB : (eB != 0) = true → qsB = ps0 := fun h => by have := shareL_err (cap := cap0) (ps := ps0) (p := p) (by rw [hB]; simpa using h); rwa [hB] at this
    have hsC : (eC != 0) = true → qsC = ps0 := fun h => by have := freeX_err (cap := cap0) (ps := ps0) (p := p) (by rw [hC]; simpa using h); rwa [hC] at this
    have hsD : (eD != 0) = true → qsD = ps0 := fun h => by have := (writeL_err (cap := cap0) (ps := ps0) (p := p) (i := i) (v := v) (by rw [hD]; simpa using h)).2; rwa [hD] at this
    cases kA : (eA != 0) <;> cases kB : (eB != 0) <;> cases kC : (eC != 0) <;> cases kD : (eD != 0)
    · exact stays_oooo w A0 c0 cap0 ps0 qsA qsB qsC qsD p i v atA atD eA eB eC eD hst0 hm hA hB hC hD hmA hmB hmC hmD hsA hsB hsC hsD kA kB kC kD
    · exact stays_ooox w A0 c0 cap0 ps0 qsA qsB qsC qsD p i v atA atD eA eB eC eD hst0 hm hA hB hC hD hmA hmB hmC hmD hsA hsB hsC hsD kA kB kC kD
    · exact stays_ooxo w A0 c0 cap0 ps0 qsA qsB qsC qsD p i v atA atD eA eB eC eD hst0 hm hA hB hC hD hmA hmB hmC hmD hsA hsB hsC hsD kA kB kC kD
    · exact stays_ooxx w A0 c0 cap0 ps0 qsA qsB qsC qsD p i v atA atD eA eB eC eD hst0 hm hA hB hC hD hmA hmB hmC hmD hsA hsB hsC hsD kA kB kC kD
    · exact stays_oxoo w A0 c0 cap0 ps0 qsA qsB qsC qsD p i v atA atD eA eB eC eD hst0 hm hA hB hC hD hmA hmB hmC hmD hsA hsB hsC hsD kA kB kC kD
    · exact stays_oxox w A0 c0 cap0 ps0 qsA qsB qsC qsD p i v atA atD eA eB eC eD hst0 hm hA hB hC hD hmA hmB hmC hmD hsA hsB hsC hsD kA kB kC kD
    · exact stays_oxxo w A0 c0 cap0 ps0 qsA qsB qsC qsD p i v atA atD eA eB eC eD hst0 hm hA hB hC hD hmA hmB hmC hmD hsA hsB hsC hsD kA kB kC kD
    · exact stays_oxxx w A0 c0 cap0 ps0 qsA qsB qsC qsD p i v atA atD eA eB eC eD hst0 hm hA hB hC hD hmA hmB hmC hmD hsA hsB hsC hsD kA kB kC kD
    · exact stays_xooo w A0 c0 cap0 ps0 qsA qsB qsC qsD p i v atA atD eA eB eC eD hst0 hm hA hB hC hD hmA hmB hmC hmD hsA hsB hsC hsD kA kB kC kD
    · exact stays_xoox w A0 c0 cap0 ps0 qsA qsB qsC qsD p i v atA atD eA eB eC eD hst0 hm hA hB hC hD hmA hmB hmC hmD hsA hsB hsC hsD kA kB kC kD
    · exact stays_xoxo w A0 c0 cap0 ps0 qsA qsB qsC qsD p i v atA atD eA eB eC eD hst0 hm hA hB hC hD hmA hmB hmC hmD hsA hsB hsC hsD kA kB kC kD
    · exact stays_xoxx w A0 c0 cap0 ps0 qsA qsB qsC qsD p i v atA atD eA eB eC eD hst0 hm hA hB hC hD hmA hmB hmC hmD hsA hsB hsC hsD kA kB kC kD
    · exact stays_xxoo w A0 c0 cap0 ps0 qsA qsB qsC qsD p i v atA atD eA eB eC eD hst0 hm hA hB hC hD hmA hmB hmC hmD hsA hsB hsC hsD kA kB kC kD
    · exact stays_xxox w A0 c0 cap0 ps0 qsA qsB qsC qsD p i v atA atD eA eB eC eD hst0 hm hA hB hC hD hmA hmB hmC hmD hsA hsB hsC hsD kA kB kC kD
    · exact stays_xxxo w A0 c0 cap0 ps0 qsA qsB qsC qsD p i v atA atD eA eB eC eD hst0 hm hA hB hC hD hmA hmB hmC hmD hsA hsB hsC hsD kA kB kC kD
    · exact stays_xxxx w A0 c0 cap0 ps0 qsA qsB qsC qsD p i v atA atD eA eB eC eD hst0 hm hA hB hC hD hmA hmB hmC hmD hsA hsB hsC hsD kA kB kC kD
end Go.Proofs.Ytelfkopoppfaaaa
