import Derived.Test.YtelhmdhhabgihaaGreatDoorGap
namespace Go.Proofs.YtelhmdhhabgihaaGreatDoor
open Go.RowKit

theorem allIn_mono {v : V6} {b c : Int} (h : allIn v b 6 = true) (hb : b ≤ c) : allIn v c 6 = true := by
  have g := allIn_get h
  have g0 := g 0 (by omega); have g1 := g 1 (by omega); have g2 := g 2 (by omega); have g3 := g 3 (by omega); have g4 := g 4 (by omega); have g5 := g 5 (by omega)
  simp only [V6.get] at *
  simp only [allIn, V6.get, Bool.and_eq_true, decide_eq_true_eq, true_and]
  refine ⟨⟨⟨⟨⟨⟨⟨⟨⟨⟨⟨?_, ?_⟩, ?_⟩, ?_⟩, ?_⟩, ?_⟩, ?_⟩, ?_⟩, ?_⟩, ?_⟩, ?_⟩, ?_⟩ <;> omega

end Go.Proofs.YtelhmdhhabgihaaGreatDoor
