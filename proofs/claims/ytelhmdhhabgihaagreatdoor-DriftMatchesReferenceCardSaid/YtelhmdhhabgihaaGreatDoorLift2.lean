/-
  What the row's list says of the table of primes.
-/
import Derived.Test.YtelhmdhhabgihaaGreatDoorLift
import Derived.Test.YtelhmdhhabgihaaGreatDoorFrac
namespace Go.Proofs.YtelhmdhhabgihaaGreatDoor
open Go.ChangeShapes Go.WideShapes Go.ChangeAt Go.RowKit

theorem gPrimes : Tryz.prog.globalNamed "schisma/pitch.primes" = some 1 := by kernel_rfl
theorem gPrimesType : (Tryz.prog.globals[1]?).map (·.type) = some 52 := by kernel_rfl
theorem primes_of {W : World} {l : List (String × DataW Unit)} (h : laidMet Tryz.prog l W) (hm : ("schisma/pitch.primes", Rows.laid_schisma_pitch_primes) ∈ l) : Primes W := by
  obtain ⟨ps, hl, -, -⟩ := h
  obtain ⟨g, t, cs, fuel, p, h1, h2, h3, h4⟩ := laid_mem hl hm
  obtain rfl := Option.some.inj (gPrimes.symm.trans h1)
  obtain rfl := Option.some.inj (gPrimesType.symm.trans h2)
  have hcell := World.var?_cell gPrimes h3
  obtain ⟨xs, m, -, hx, hlen, hxl, hi⟩ := DataW.trod_array Tryz.underlying52 h4
  simp only [Prod.mk.injEq, Rows.laid_schisma_pitch_primes, DataW.agg.injEq] at hx
  obtain ⟨hx, -⟩ := hx
  have key : ∀ (i : Nat) (a : Int), i < 6 → (xs.map (·.1))[i]? = some (.lit (.int .i64 a)) → cs[i]? = some (.int .i64 a) := by
    intro i a hi6 he
    have h := hi i hi6
    rw [List.getElem?_map] at he
    obtain ⟨y, hy, hy1⟩ := Option.map_eq_some_iff.1 he
    rw [hy] at h
    obtain ⟨y1, y2⟩ := y
    dsimp only at hy1
    subst hy1
    obtain ⟨b, e, f, -⟩ := DataW.trod_int Tryz.underlying3 h
    obtain rfl : a = b := by simpa using (Prod.mk.inj f).1
    have := congrArg (·[0]?) e
    rw [cellsInt] at this
    simpa [List.getElem?_take, List.getElem?_drop] using this
  rw [← hx] at key
  have cells : ∀ k, k < 6 → W.cell? ⟨1, k, none⟩ = some (.int .i64 (primeI k)) := by
    intro k hk
    refine (hcell k).trans (key k _ hk ?_)
    obtain rfl | rfl | rfl | rfl | rfl | rfl : k = 0 ∨ k = 1 ∨ k = 2 ∨ k = 3 ∨ k = 4 ∨ k = 5 := by omega
    all_goals rfl
  refine ⟨?_, cells⟩
  have := cells 0 (by omega)
  rcases Nat.lt_or_ge 1 W.heap.size with h0 | h0
  · exact h0
  · exfalso
    simp only [World.cell?] at this
    rw [Array.getElem?_eq_none (by omega)] at this
    cases this
end Go.Proofs.YtelhmdhhabgihaaGreatDoor
