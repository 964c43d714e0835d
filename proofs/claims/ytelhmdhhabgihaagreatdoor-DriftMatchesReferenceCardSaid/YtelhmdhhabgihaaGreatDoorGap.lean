import Derived.Test.YtelhmdhhabgihaaGreatDoorExps
namespace Go.Proofs.YtelhmdhhabgihaaGreatDoor
open Go.RowKit

/-- The difference of six numbers and six others. -/

theorem sub_in {u v : V6} (hu : allIn u 576 6 = true) (hv : allIn v 576 6 = true) : allIn (u.sub v) 1152 6 = true := by
  have g := allIn_get hu
  have h := allIn_get hv
  have g0 := g 0 (by omega); have g1 := g 1 (by omega); have g2 := g 2 (by omega); have g3 := g 3 (by omega); have g4 := g 4 (by omega); have g5 := g 5 (by omega)
  have h0 := h 0 (by omega); have h1 := h 1 (by omega); have h2 := h 2 (by omega); have h3 := h 3 (by omega); have h4 := h 4 (by omega); have h5 := h 5 (by omega)
  simp only [V6.get] at *
  simp only [allIn, V6.get, V6.sub, Bool.and_eq_true, decide_eq_true_eq, true_and]
  refine ⟨⟨⟨⟨⟨⟨⟨⟨⟨⟨⟨?_, ?_⟩, ?_⟩, ?_⟩, ?_⟩, ?_⟩, ?_⟩, ?_⟩, ?_⟩, ?_⟩, ?_⟩, ?_⟩ <;> omega

/-- Six numbers of which the first k are those of one, the rest those of another. -/
def mixTo (u v : Nat → Int) (k : Nat) (j : Nat) : Int := if j < k then u j else v j
theorem mixTo_step (u v : Nat → Int) (k : Nat) (j : Nat) : (if j = k then u k else mixTo u v k j) = mixTo u v (k + 1) j := by
  unfold mixTo
  by_cases h : j = k
  · subst h; simp
  · rw [if_neg h]
    by_cases h' : j < k
    · rw [if_pos h', if_pos (by omega)]
    · rw [if_neg h', if_neg (by omega)]

theorem sub_in' {a0 a1 a2 a3 a4 a5 b0 b1 b2 b3 b4 b5 : Int} (ha : allIn ⟨a0, a1, a2, a3, a4, a5⟩ 576 6 = true) (hb : allIn ⟨b0, b1, b2, b3, b4, b5⟩ 576 6 = true) : allIn ⟨a0 - b0, a1 - b1, a2 - b2, a3 - b3, a4 - b4, a5 - b5⟩ 1152 6 = true := by
  have := sub_in ha hb
  simpa only [V6.sub] using this

end Go.Proofs.YtelhmdhhabgihaaGreatDoor
