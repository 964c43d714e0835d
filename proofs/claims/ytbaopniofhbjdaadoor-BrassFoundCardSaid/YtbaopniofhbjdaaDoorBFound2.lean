/-
  The law BrassFound returns true for every input.
-/
import Derived.Test.YtbaopniofhbjdaaDoorBFound
import Derived.Test.YtbaopniofhbjdaaDoorBPlain
import Derived.Test.YtbaopniofhbjdaaDoorLDist
namespace Go.Proofs.YtbaopniofhbjdaaDoor
open Go.RowKit

theorem playsB_near {base : V6} {f : Nat → Nat → Int} {n : Nat} {tol : Int} {v : V6} {x s : Nat} (h : allIn (soundV base f n x s) 576 6 = true) : playsB base f n tol v x s = (surelyI (sumLo ((atV v).sub (soundV base f n x s)) 6) (sumHi ((atV v).sub (soundV base f n x s)) 6) (-10000 * tol) (10000 * tol) == 1) := by
  simp [playsB, h]
set_option maxHeartbeats 2000000 in
theorem found_law (b0 b1 b2 b3 b4 b5 most tol v0 v1 v2 v3 v4 v5 x s : Int) (A : Option Addr) (n c : Nat) (f : Nat → Nat → Int) (hn : n ≤ 9223372036854775807) (w : World) (hT : Tabs w) (hV : RowsAt w 6 A n f) :
    Calls Tryd.prog 4 #[.agg #[.int .i64 b0, .int .i64 b1, .int .i64 b2, .int .i64 b3, .int .i64 b4, .int .i64 b5, .slice A n c, .int .i64 most, .int .i64 tol], .agg #[.int .i64 v0, .int .i64 v1, .int .i64 v2, .int .i64 v3, .int .i64 v4, .int .i64 v5], .agg #[.int .i64 x, .int .i64 s]] w fun e w' => e = .returned (.bool true) ∧ Gr w w' := by
  obtain ⟨E, hF, hE⟩ := Find_all b0 b1 b2 b3 b4 b5 most tol v0 v1 v2 v3 v4 v5 A n c f hn
  have hVal := fun W (g : Gr w W) => hornValid_any b0 b1 b2 b3 b4 b5 most tol A n c f W (hT.keep g).primes (hV.keep g) hn
  rcases hE with ⟨hg, rfl⟩ | ⟨hg, rfl⟩
  · have hg' := hg
    simp only [goodFV, Bool.and_eq_true] at hg'
    obtain ⟨hok, hv⟩ := hg'
    rw [hok] at hVal
    obtain ⟨z0, z1, z2, z3, z4, z5, ez, hS, hsa⟩ := Sound_all b0 b1 b2 b3 b4 b5 most tol x s A n c f hn
    have hso : SortedR (blowF (findAll ⟨b0, b1, b2, b3, b4, b5⟩ f n most tol ⟨v0, v1, v2, v3, v4, v5⟩)) (findAll ⟨b0, b1, b2, b3, b4, b5⟩ f n most tol ⟨v0, v1, v2, v3, v4, v5⟩).length := fun k hk => blowF_sorted (findAll_sorted _ _ _ _ _ _) k hk
    have hhas := hasAll_iff ⟨b0, b1, b2, b3, b4, b5⟩ f n most tol ⟨v0, v1, v2, v3, v4, v5⟩ x s
    have hlen : (findAll ⟨b0, b1, b2, b3, b4, b5⟩ f n most tol ⟨v0, v1, v2, v3, v4, v5⟩).length ≤ 9223372036854775807 := by
      rw [findAll_yes hg]
      have h1 := List.length_filter_le (fun p : BlowIx most.toNat (2 ^ n) => playsB ⟨b0, b1, b2, b3, b4, b5⟩ f n tol ⟨v0, v1, v2, v3, v4, v5⟩ (p.1.1 + 1) p.1.2) (blowsTo most.toNat (2 ^ n) most.toNat)
      have h2 := blowsTo_len most.toNat (2 ^ n) most.toNat
      obtain ⟨-, hn4, -, hm16, -, -, -⟩ := hornOk_parts hok
      have h3 : 2 ^ n ≤ 16 := Nat.pow_le_pow_right (by omega) hn4
      have h4 : most.toNat * 2 ^ n ≤ 16 * 16 := Nat.mul_le_mul (by omega) h3
      unfold findL
      omega
    obtain ⟨-, -, -, -, ht0, ht1, -⟩ := hornOk_parts hok
    generalize findAll ⟨b0, b1, b2, b3, b4, b5⟩ f n most tol ⟨v0, v1, v2, v3, v4, v5⟩ = L at *
    refine found_good b0 b1 b2 b3 b4 b5 most tol v0 v1 v2 v3 v4 v5 x s _ _ _ _ _ _ z0 z1 z2 z3 z4 z5 ez A n c _ _ w hT (fun W g => (hF W (hT.keep g) (hV.keep g)).mono ?_) hVal (fun W => by have := pinterval_any v0 v1 v2 v3 v4 v5 W; rwa [hv] at this) (fun W => pof_ok _ _ _ _ _ _ W hv) (fun W g => hS W (hT.keep g) (hV.keep g)) hlen hso ?_
    · rintro e w' ⟨A1, c1, rfl, hr, -, hb⟩
      exact ⟨A1, c1, rfl, hr, hb⟩
    · have no : ¬ (isBlow n most x s ∧ playsB ⟨b0, b1, b2, b3, b4, b5⟩ f n tol ⟨v0, v1, v2, v3, v4, v5⟩ x.toNat s.toNat = true) → hasR (blowF L) x s L.length = false := by
        intro h
        rw [← Bool.not_eq_true, hhas]
        exact fun h' => h h'.2
      rcases hsa with ⟨h, -⟩ | ⟨-, h, -, rfl⟩ | ⟨-, hB, hs, hz, rfl⟩ | ⟨-, -, hs, -, rfl⟩
      · rw [hok] at h; cases h
      · exact .inl ⟨by decide, no fun h' => h h'.1⟩
      · have hvA : allIn ⟨v0 * 12, v1 * 12, v2 * 12, v3 * 12, v4 * 12, v5 * 12⟩ 576 6 = true := atV_in (v := ⟨v0, v1, v2, v3, v4, v5⟩) hv
        have hzA : allIn ⟨z0, z1, z2, z3, z4, z5⟩ 576 6 = true := by rw [hz]; exact hs
        have hnr := fun W (g : Gr w W) => near_ok (v0 * 12) (v1 * 12) (v2 * 12) (v3 * 12) (v4 * 12) (v5 * 12) z0 z1 z2 z3 z4 z5 tol W (hT.keep g).logs hvA hzA ht0 (by omega)
        have hp := playsB_near (tol := tol) (v := ⟨v0, v1, v2, v3, v4, v5⟩) hs
        rw [← hz] at hp
        change playsB ⟨b0, b1, b2, b3, b4, b5⟩ f n tol ⟨v0, v1, v2, v3, v4, v5⟩ x.toNat s.toNat = (surelyI (sumLo ⟨v0 * 12 - z0, v1 * 12 - z1, v2 * 12 - z2, v3 * 12 - z3, v4 * 12 - z4, v5 * 12 - z5⟩ 6) (sumHi ⟨v0 * 12 - z0, v1 * 12 - z1, v2 * 12 - z2, v3 * 12 - z3, v4 * 12 - z4, v5 * 12 - z5⟩ 6) (-10000 * tol) (10000 * tol) == 1) at hp
        generalize surelyI (sumLo ⟨v0 * 12 - z0, v1 * 12 - z1, v2 * 12 - z2, v3 * 12 - z3, v4 * 12 - z4, v5 * 12 - z5⟩ 6) (sumHi ⟨v0 * 12 - z0, v1 * 12 - z1, v2 * 12 - z2, v3 * 12 - z3, v4 * 12 - z4, v5 * 12 - z5⟩ 6) (-10000 * tol) (10000 * tol) = X at hnr hp
        refine .inr ⟨rfl, X, hnr, ?_⟩
        cases hpl : playsB ⟨b0, b1, b2, b3, b4, b5⟩ f n tol ⟨v0, v1, v2, v3, v4, v5⟩ x.toNat s.toNat with
        | true =>
          rw [hpl] at hp
          exact .inl ⟨hhas.2 ⟨hg, hB, hpl⟩, beq_iff_eq.1 hp.symm⟩
        | false =>
          rw [hpl] at hp
          exact .inr ⟨no (fun h' => by rw [hpl] at h'; exact Bool.noConfusion h'.2), beq_eq_false_iff_ne.1 hp.symm⟩
      · exact .inl ⟨by decide, no fun h' => by rw [playsB_in h'.2] at hs; cases hs⟩
  · have e : findAll ⟨b0, b1, b2, b3, b4, b5⟩ f n most tol ⟨v0, v1, v2, v3, v4, v5⟩ = [] := findAll_no hg
    refine found_bad b0 b1 b2 b3 b4 b5 most tol v0 v1 v2 v3 v4 v5 x s _ _ A n c w hT (fun W g => (hF W (hT.keep g) (hV.keep g)).mono ?_) hVal (fun W => pinterval_any v0 v1 v2 v3 v4 v5 W) ?_
    · rintro e w' ⟨A1, c1, rfl, -, -, hb⟩
      refine ⟨A1, c1, ?_, hb⟩
      rw [findAll_no hg]; rfl
    · cases h1 : hornOk ⟨b0, b1, b2, b3, b4, b5⟩ n f most tol with
      | false => exact .inl rfl
      | true =>
        refine .inr ⟨rfl, ?_⟩
        simpa [goodFV, h1] using hg
end Go.Proofs.YtbaopniofhbjdaaDoor
