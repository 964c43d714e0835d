/-
  The functions of package brass, at every input.
-/
import Derived.Test.YtbaopniofhbjdaaDoorHas
namespace Go.Proofs.YtbaopniofhbjdaaDoor
open Go.RowKit

/-- A blow of a horn. -/
def isBlow (n : Nat) (most x s : Int) : Prop := 1 ≤ x ∧ x ≤ most ∧ 0 ≤ s ∧ s < ((2 ^ n : Nat) : Int)
instance (n : Nat) (most x s : Int) : Decidable (isBlow n most x s) := by unfold isBlow; infer_instance
/-- What Sound returns. -/
def SndAll (base : V6) (f : Nat → Nat → Int) (n : Nat) (most tol x s : Int) (z : V6) (ez : Int) : Prop :=
  (hornOk base n f most tol = false ∧ z = ⟨0, 0, 0, 0, 0, 0⟩ ∧ ez = 1) ∨ (hornOk base n f most tol = true ∧ ¬ isBlow n most x s ∧ z = ⟨0, 0, 0, 0, 0, 0⟩ ∧ ez = 1) ∨
  (hornOk base n f most tol = true ∧ isBlow n most x s ∧ allIn (soundV base f n x.toNat s.toNat) 576 6 = true ∧ z = soundV base f n x.toNat s.toNat ∧ ez = 0) ∨
  (hornOk base n f most tol = true ∧ isBlow n most x s ∧ allIn (soundV base f n x.toNat s.toNat) 576 6 = false ∧ z = ⟨0, 0, 0, 0, 0, 0⟩ ∧ ez = 3)
/-- What every call of this package wants of the world. -/
structure Tabs (w : World) : Prop where
  logs : Logs w
  primes : Primes w
  bprimes : BPrimes w
theorem Tabs.keep {w w' : World} (h : Tabs w) (g : Gr w w') : Tabs w' := ⟨h.logs.keep g, h.primes.keep g, h.bprimes.keep g⟩
theorem hornOk_most {base : V6} {n : Nat} {f : Nat → Nat → Int} {most tol : Int} (h : hornOk base n f most tol = true) : most = ((most.toNat : Nat) : Int) := by
  obtain ⟨-, -, h1, -, -, -, -⟩ := hornOk_parts h
  omega
theorem Sound_all (b0 b1 b2 b3 b4 b5 most tol x s : Int) (A : Option Addr) (n c : Nat) (f : Nat → Nat → Int) (hn : n ≤ 9223372036854775807) :
    ∃ z0 z1 z2 z3 z4 z5 ez : Int, (∀ w, Tabs w → RowsAt w 6 A n f → Calls Tryd.prog 15 #[.agg #[.int .i64 b0, .int .i64 b1, .int .i64 b2, .int .i64 b3, .int .i64 b4, .int .i64 b5, .slice A n c, .int .i64 most, .int .i64 tol], .agg #[.int .i64 x, .int .i64 s]] w
      fun e w' => e = .returned (.tuple #[.agg #[.int .i64 z0, .int .i64 z1, .int .i64 z2, .int .i64 z3, .int .i64 z4, .int .i64 z5], .int .i64 ez]) ∧ Gr w w') ∧ SndAll ⟨b0, b1, b2, b3, b4, b5⟩ f n most tol x s ⟨z0, z1, z2, z3, z4, z5⟩ ez := by
  cases hok : hornOk ⟨b0, b1, b2, b3, b4, b5⟩ n f most tol with
  | false => exact ⟨0, 0, 0, 0, 0, 0, 1, fun w hT hV => Sound_bad _ _ _ _ _ _ _ _ _ _ _ _ _ f w hT.primes hV hn hok, .inl ⟨hok, rfl, rfl⟩⟩
  | true =>
    have hm := hornOk_most hok
    have hok' := hok
    rw [hm] at hok'
    have key := fun z0 z1 z2 z3 z4 z5 ez hz w (hT : Tabs w) hV => Sound_ok b0 b1 b2 b3 b4 b5 tol x s z0 z1 z2 z3 z4 z5 ez A n c most.toNat (2 ^ n) f w hT.primes hT.bprimes hV hok' rfl hz
    rw [← hm] at key
    by_cases hB : isBlow n most x s
    · obtain ⟨h1, h2, h3, h4⟩ := hB
      cases hs : allIn (soundV ⟨b0, b1, b2, b3, b4, b5⟩ f n x.toNat s.toNat) 576 6 with
      | true =>
        refine ⟨_, _, _, _, _, _, 0, key _ _ _ _ _ _ 0 ⟨fun i j hi hj e1 e2 => ?_, fun h => ?_⟩, .inr (.inr (.inl ⟨hok, ⟨h1, h2, h3, h4⟩, hs, rfl, rfl⟩))⟩
        · have ei : x.toNat = i + 1 := by omega
          have ej : s.toNat = j := by omega
          rw [ei, ej] at hs ⊢
          exact .inl ⟨hs, rfl, rfl, rfl, rfl, rfl, rfl, rfl⟩
        · exact (h (x.toNat - 1) s.toNat (by omega) (by omega) (by constructor <;> omega)).elim
      | false =>
        refine ⟨0, 0, 0, 0, 0, 0, 3, key _ _ _ _ _ _ 3 ⟨fun i j hi hj e1 e2 => ?_, fun h => ?_⟩, .inr (.inr (.inr ⟨hok, ⟨h1, h2, h3, h4⟩, hs, rfl, rfl⟩))⟩
        · have ei : x.toNat = i + 1 := by omega
          have ej : s.toNat = j := by omega
          rw [ei, ej] at hs
          exact .inr ⟨hs, rfl, rfl, rfl, rfl, rfl, rfl, rfl⟩
        · exact (h (x.toNat - 1) s.toNat (by omega) (by omega) (by constructor <;> omega)).elim
    · refine ⟨0, 0, 0, 0, 0, 0, 1, key _ _ _ _ _ _ 1 ⟨fun i j hi hj e1 e2 => (hB ?_).elim, fun _ => ⟨rfl, rfl, rfl, rfl, rfl, rfl, rfl⟩⟩, .inr (.inl ⟨hok, hB, rfl, rfl⟩)⟩
      exact ⟨by omega, by omega, by omega, by omega⟩

/-- A horn and an interval at which Find returns no error. -/
def goodFV (base : V6) (f : Nat → Nat → Int) (n : Nat) (most tol : Int) (v : V6) : Bool := hornOk base n f most tol && allIn v 48 6
/-- The blows that Find returns. -/
def findAll (base : V6) (f : Nat → Nat → Int) (n : Nat) (most tol : Int) (v : V6) : List (BlowIx most.toNat (2 ^ n)) := if goodFV base f n most tol v then findL base f n tol v (blowsTo most.toNat (2 ^ n) most.toNat) else []
/-- A list of blows is returned. -/
def FindR {m Q : Nat} (E : Int) (L : List (BlowIx m Q)) (w : World) (e : Ending) (w' : World) : Prop :=
  ∃ A c, e = .returned (.tuple #[.slice A L.length c, .int .i64 E]) ∧ RowsAt w' 2 A L.length (blowF L) ∧ L.length ≤ 9223372036854775807 ∧ Gr w w'
theorem findAll_yes {base : V6} {f : Nat → Nat → Int} {n : Nat} {most tol : Int} {v : V6} (h : goodFV base f n most tol v = true) : findAll base f n most tol v = findL base f n tol v (blowsTo most.toNat (2 ^ n) most.toNat) := by rw [findAll, if_pos h]
theorem findAll_no {base : V6} {f : Nat → Nat → Int} {n : Nat} {most tol : Int} {v : V6} (h : goodFV base f n most tol v = false) : findAll base f n most tol v = [] := by rw [findAll, if_neg (by rw [h]; exact Bool.false_ne_true)]
theorem findR_of {m Q : Nat} {L : List (BlowIx m Q)} {w : World} (e : Ending) (w' : World) (h : FindRes L w e w') : FindR 0 L w e w' := by
  obtain ⟨v, rfl, hrow, -, hg⟩ := h
  obtain ⟨A, c, rfl, hr, hl⟩ := rows_of_own hrow (blowF L) (fun i j hi hj => pairCells_at _ _ L i j hi hj)
  exact ⟨A, c, rfl, hr, hl, hg⟩
theorem Find_all (b0 b1 b2 b3 b4 b5 most tol v0 v1 v2 v3 v4 v5 : Int) (A : Option Addr) (n c : Nat) (f : Nat → Nat → Int) (hn : n ≤ 9223372036854775807) :
    ∃ E : Int, (∀ w, Tabs w → RowsAt w 6 A n f → Calls Tryd.prog 17 #[.agg #[.int .i64 b0, .int .i64 b1, .int .i64 b2, .int .i64 b3, .int .i64 b4, .int .i64 b5, .slice A n c, .int .i64 most, .int .i64 tol], .agg #[.int .i64 v0, .int .i64 v1, .int .i64 v2, .int .i64 v3, .int .i64 v4, .int .i64 v5]] w (FindR E (findAll ⟨b0, b1, b2, b3, b4, b5⟩ f n most tol ⟨v0, v1, v2, v3, v4, v5⟩) w)) ∧
      ((goodFV ⟨b0, b1, b2, b3, b4, b5⟩ f n most tol ⟨v0, v1, v2, v3, v4, v5⟩ = true ∧ E = 0) ∨ (goodFV ⟨b0, b1, b2, b3, b4, b5⟩ f n most tol ⟨v0, v1, v2, v3, v4, v5⟩ = false ∧ E = 1)) := by
  have bad : ∀ w, (∀ e w', e = Ending.returned (.tuple #[.slice none 0 0, .int .i64 1]) ∧ Gr w w' → FindR 1 ([] : List (BlowIx most.toNat (2 ^ n))) w e w') := by
    rintro w e w' ⟨rfl, hg⟩
    exact ⟨none, 0, rfl, RowsAt.nil _ _ _ _, by simp, hg⟩
  cases hv : allIn ⟨v0, v1, v2, v3, v4, v5⟩ 48 6 with
  | false =>
    have e : goodFV ⟨b0, b1, b2, b3, b4, b5⟩ f n most tol ⟨v0, v1, v2, v3, v4, v5⟩ = false := by simp [goodFV, hv]
    rw [findAll_no e]
    exact ⟨1, fun w hT hV => (Find_bad1 _ _ _ _ _ _ _ _ _ _ _ _ _ _ _ _ _ w hv).mono (bad w), .inr ⟨e, rfl⟩⟩
  | true =>
    cases hok : hornOk ⟨b0, b1, b2, b3, b4, b5⟩ n f most tol with
    | false =>
      have e : goodFV ⟨b0, b1, b2, b3, b4, b5⟩ f n most tol ⟨v0, v1, v2, v3, v4, v5⟩ = false := by simp [goodFV, hok]
      rw [findAll_no e]
      exact ⟨1, fun w hT hV => (Find_bad2 _ _ _ _ _ _ _ _ _ _ _ _ _ _ _ _ _ f w hT.primes hV hn hv hok).mono (bad w), .inr ⟨e, rfl⟩⟩
    | true =>
      have e : goodFV ⟨b0, b1, b2, b3, b4, b5⟩ f n most tol ⟨v0, v1, v2, v3, v4, v5⟩ = true := by simp [goodFV, hok, hv]
      rw [findAll_yes e]
      have hm := hornOk_most hok
      have hok' := hok
      rw [hm] at hok'
      refine ⟨0, fun w hT hV => ?_, .inl ⟨e, rfl⟩⟩
      have := Find_ok b0 b1 b2 b3 b4 b5 tol v0 v1 v2 v3 v4 v5 A n c most.toNat (2 ^ n) f w hT.logs hT.primes hT.bprimes hV hv hok' rfl
      rw [← hm] at this
      exact this.mono findR_of

theorem playsB_in {base : V6} {f : Nat → Nat → Int} {n : Nat} {tol : Int} {v : V6} {x s : Nat} (h : playsB base f n tol v x s = true) : allIn (soundV base f n x s) 576 6 = true := by
  simp only [playsB, Bool.and_eq_true] at h; exact h.1
theorem mem_findL {m Q : Nat} {base : V6} {f : Nat → Nat → Int} {n : Nat} {tol : Int} {v : V6} {pre : List (BlowIx m Q)} {p : BlowIx m Q} : p ∈ findL base f n tol v pre ↔ p ∈ pre ∧ playsB base f n tol v (p.1.1 + 1) p.1.2 = true := by
  simp [findL, List.mem_filter]
/-- What Best returns. -/
def BestAll (base : V6) (f : Nat → Nat → Int) (n : Nat) (most tol : Int) (v : V6) (X S E : Int) : Prop :=
  (goodFV base f n most tol v = false ∧ X = 0 ∧ S = 0 ∧ E = 1) ∨ (goodFV base f n most tol v = true ∧ BestRes base f n v (findAll base f n most tol v) X S E)
theorem Best_all (b0 b1 b2 b3 b4 b5 most tol v0 v1 v2 v3 v4 v5 : Int) (A : Option Addr) (n c : Nat) (f : Nat → Nat → Int) (hn : n ≤ 9223372036854775807) :
    ∃ X S E : Int, (∀ w, Tabs w → RowsAt w 6 A n f → Calls Tryd.prog 20 #[.agg #[.int .i64 b0, .int .i64 b1, .int .i64 b2, .int .i64 b3, .int .i64 b4, .int .i64 b5, .slice A n c, .int .i64 most, .int .i64 tol], .agg #[.int .i64 v0, .int .i64 v1, .int .i64 v2, .int .i64 v3, .int .i64 v4, .int .i64 v5]] w fun e w' => e = .returned (.tuple #[.agg #[.int .i64 X, .int .i64 S], .int .i64 E]) ∧ Gr w w') ∧
      BestAll ⟨b0, b1, b2, b3, b4, b5⟩ f n most tol ⟨v0, v1, v2, v3, v4, v5⟩ X S E := by
  cases e : goodFV ⟨b0, b1, b2, b3, b4, b5⟩ f n most tol ⟨v0, v1, v2, v3, v4, v5⟩ with
  | false =>
    refine ⟨0, 0, 1, fun w hT hV => Best_bad _ _ _ _ _ _ _ _ _ _ _ _ _ _ _ _ _ w fun W hg => ?_, .inl ⟨e, rfl, rfl, rfl⟩⟩
    cases hv : allIn ⟨v0, v1, v2, v3, v4, v5⟩ 48 6 with
    | false => exact Find_bad1 _ _ _ _ _ _ _ _ _ _ _ _ _ _ _ _ _ W hv
    | true =>
      cases hok : hornOk ⟨b0, b1, b2, b3, b4, b5⟩ n f most tol with
      | false => exact Find_bad2 _ _ _ _ _ _ _ _ _ _ _ _ _ _ _ _ _ f W (hT.keep hg).primes (hV.keep hg) hn hv hok
      | true => simp [goodFV, hv, hok] at e
  | true =>
    obtain ⟨X, S, E, hres⟩ := bestRes_is ⟨b0, b1, b2, b3, b4, b5⟩ f n ⟨v0, v1, v2, v3, v4, v5⟩ (findAll ⟨b0, b1, b2, b3, b4, b5⟩ f n most tol ⟨v0, v1, v2, v3, v4, v5⟩)
    refine ⟨X, S, E, fun w hT hV => ?_, .inr ⟨e, hres⟩⟩
    rw [findAll_yes e] at hres
    have e' := e
    simp only [goodFV, Bool.and_eq_true] at e'
    obtain ⟨hok, hv⟩ := e'
    have hm := hornOk_most hok
    have hok' := hok
    rw [hm] at hok'
    have hF := fun W (hg : Gr w W) => Find_ok b0 b1 b2 b3 b4 b5 tol v0 v1 v2 v3 v4 v5 A n c most.toNat (2 ^ n) f W (hT.keep hg).logs (hT.keep hg).primes (hT.keep hg).bprimes (hV.keep hg) hv hok' rfl
    by_cases hL : findL ⟨b0, b1, b2, b3, b4, b5⟩ f n tol ⟨v0, v1, v2, v3, v4, v5⟩ (blowsTo most.toNat (2 ^ n) most.toNat) = []
    · obtain ⟨rfl, rfl, rfl⟩ := hres.empty hL
      refine Best_none _ _ _ _ _ _ _ _ _ _ _ _ _ _ _ _ _ w fun W hg => ?_
      have h := hF W hg
      rw [← hm] at h
      refine h.mono ?_
      rintro e w' ⟨v, rfl, -, hn, hg'⟩
      rw [hn.2 hL]
      exact ⟨rfl, hg'⟩
    · have h := Best_some b0 b1 b2 b3 b4 b5 tol v0 v1 v2 v3 v4 v5 X S E A n c most.toNat (2 ^ n) f _ w hT.primes hT.bprimes hV hv hok' hF hL (fun p hp => playsB_in (mem_findL.1 hp).2) hres
      rw [← hm] at h
      exact h
end Go.Proofs.YtbaopniofhbjdaaDoor
