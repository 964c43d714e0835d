/-
  package voice: what a singer finds: plain laws.
-/
import Derived.Test.YtiogfohjepobkaaDoorRN
import Derived.Test.YtiogfohjepobkaaDoorV1
namespace Go.Proofs.YtiogfohjepobkaaDoor

theorem finds_iff (st : Int) (x y : V6) : findsB st x y = true ↔ -10000 * st ≤ sumLo ((atV y).sub (atV x)) 6 ∧ sumHi ((atV y).sub (atV x)) 6 ≤ 10000 * st := by
  unfold findsB
  constructor
  · intro h; exact surely_one (by simpa using h)
  · intro h; rw [surely_mk h]; rfl
theorem finds_self {st : Int} (h : 0 ≤ st) (x : V6) : findsB st x x = true := by
  rw [finds_iff]
  have e : (atV x).sub (atV x) = ⟨0, 0, 0, 0, 0, 0⟩ := by simp [V6.sub]
  rw [e, show sumLo ⟨0, 0, 0, 0, 0, 0⟩ 6 = 0 by rfl, show sumHi ⟨0, 0, 0, 0, 0, 0⟩ 6 = 0 by rfl]
  omega
theorem finds_swap (st : Int) (x y : V6) : findsB st x y = findsB st y x := by
  rw [Bool.eq_iff_iff, finds_iff, finds_iff]
  obtain ⟨h1, h2⟩ := sum_swap (atV x) (atV y) 6 (by omega)
  omega
theorem finds_more {st st' : Int} (h : st ≤ st') {x y : V6} (hf : findsB st x y = true) : findsB st' x y = true := by
  rw [finds_iff] at hf ⊢
  omega
theorem finds_tri {st more : Int} {x y z : V6} (h : findsB st x y = true) (k : findsB more y z = true) : findsB (st + more) x z = true := by
  rw [finds_iff] at h k ⊢
  have t := sum_tri (atV z) (atV y) (atV x)
  omega
end Go.Proofs.YtiogfohjepobkaaDoor
