/-
  The law BrassExchanged.
-/
import Derived.Test.YtbaopniofhbjdaaDoorBExch2
namespace Go.Proofs.YtbaopniofhbjdaaDoor
open Go.RowKit

theorem exl_tf (b : Bool) : b = true ∨ b = false := by cases b <;> simp
theorem sndAll_uniq {base : V6} {f : Nat → Nat → Int} {n : Nat} {most tol x s : Int} {z z' : V6} {e e' : Int} (h : SndAll base f n most tol x s z e) (h' : SndAll base f n most tol x s z' e') : z = z' ∧ e = e' := by
  rcases h with ⟨a1, a2, a3⟩ | ⟨a1, a4, a2, a3⟩ | ⟨a1, a4, a5, a2, a3⟩ | ⟨a1, a4, a5, a2, a3⟩ <;> rcases h' with ⟨b1, b2, b3⟩ | ⟨b1, b4, b2, b3⟩ | ⟨b1, b4, b5, b2, b3⟩ | ⟨b1, b4, b5, b2, b3⟩
  all_goals first
    | exact ⟨a2.trans b2.symm, a3.trans b3.symm⟩
    | (rw [a1] at b1; cases b1; done)
    | exact (a4 b4).elim
    | exact (b4 a4).elim
    | (rw [a5] at b5; cases b5; done)
theorem sndAll_ex {base : V6} {f : Nat → Nat → Int} {n s i k : Nat} {most tol x : Int} {z : V6} {e : Int} (hok : hornOk base n f most tol = true) (hi : i < n) (hk : k < n) (hne : i ≠ k) (hs : s < 2 ^ n) (h : SndAll base f n most tol x s z e) : SndAll base (exF f i k) n most tol x (swapI s i k) z e := by
  have hn := (hornOk_parts hok).2.1
  have hok' := hornOk_ex (i := i) (k := k) hok hi hk
  have hs16 : s < 16 := Nat.lt_of_lt_of_le hs (pow_le16 hn)
  have h0 := swap_nonneg (s := s) (i := i) (k := k) hs16 (by omega) (by omega)
  have h1 := (swap_lt hn hi hk hs).1
  have hb : isBlow n most x s ↔ isBlow n most x (swapI s i k) := by unfold isBlow; omega
  have hsd := sound_ex base f hn hi hk hne hs16 x.toNat
  unfold SndAll at h ⊢
  rw [hok'] at *
  rw [hok] at h
  rw [Int.toNat_natCast] at h
  rw [hsd, ← hb]
  exact h

theorem exch_law (b0 b1 b2 b3 b4 b5 most tol v0 v1 v2 v3 v4 v5 x s i k : Int) (A : Option Addr) (n c : Nat) (f : Nat → Nat → Int) (hn : n ≤ 9223372036854775807) (w : World) (hT : Tabs w) (hR : RowsAt w 6 A n f) :
    Calls Tryd.prog 8 #[.agg #[.int .i64 b0, .int .i64 b1, .int .i64 b2, .int .i64 b3, .int .i64 b4, .int .i64 b5, .slice A n c, .int .i64 most, .int .i64 tol], .agg #[.int .i64 v0, .int .i64 v1, .int .i64 v2, .int .i64 v3, .int .i64 v4, .int .i64 v5], .agg #[.int .i64 x, .int .i64 s], .int .i64 i, .int .i64 k] w fun e w' => e = .returned (.bool true) ∧ Gr w w' := by
  have hV := fun W (hg : Gr w W) => hornValid_any b0 b1 b2 b3 b4 b5 most tol A n c f W (hT.keep hg).primes (hR.keep hg) hn
  have hI := fun W => pinterval_any v0 v1 v2 v3 v4 v5 W
  have hn4 : hornOk ⟨b0, b1, b2, b3, b4, b5⟩ n f most tol = true → n ≤ 4 := fun h => (hornOk_parts h).2.1
  rcases exl_tf (hornOk ⟨b0, b1, b2, b3, b4, b5⟩ n f most tol) with hok | hok
  · rcases exl_tf (allIn ⟨v0, v1, v2, v3, v4, v5⟩ 48 6) with hv | hv
    · by_cases h1 : i < 0
      · exact exch_skip b0 b1 b2 b3 b4 b5 most tol v0 v1 v2 v3 v4 v5 x s i k _ _ A n c w hn4 hT hV hI (.inr (.inr (.inl ⟨hok, hv, by simpa using h1⟩)))
      by_cases h2 : i ≥ (n : Int)
      · exact exch_skip b0 b1 b2 b3 b4 b5 most tol v0 v1 v2 v3 v4 v5 x s i k _ _ A n c w hn4 hT hV hI (.inr (.inr (.inr (.inl ⟨hok, hv, by simpa using h1, by simpa using h2⟩))))
      by_cases h3 : k < 0
      · exact exch_skip b0 b1 b2 b3 b4 b5 most tol v0 v1 v2 v3 v4 v5 x s i k _ _ A n c w hn4 hT hV hI (.inr (.inr (.inr (.inr (.inl ⟨hok, hv, by simpa using h1, by simpa using h2, by simpa using h3⟩)))))
      by_cases h4 : k ≥ (n : Int)
      · exact exch_skip b0 b1 b2 b3 b4 b5 most tol v0 v1 v2 v3 v4 v5 x s i k _ _ A n c w hn4 hT hV hI (.inr (.inr (.inr (.inr (.inr (.inl ⟨hok, hv, by simpa using h1, by simpa using h2, by simpa using h3, by simpa using h4⟩))))))
      by_cases h5 : i = k
      · exact exch_skip b0 b1 b2 b3 b4 b5 most tol v0 v1 v2 v3 v4 v5 x s i k _ _ A n c w hn4 hT hV hI (.inr (.inr (.inr (.inr (.inr (.inr (.inl ⟨hok, hv, by simpa using h1, by simpa using h2, by simpa using h3, by simpa using h4, by simpa using h5⟩)))))))
      by_cases h6 : s < 0
      · exact exch_skip b0 b1 b2 b3 b4 b5 most tol v0 v1 v2 v3 v4 v5 x s i k _ _ A n c w hn4 hT hV hI (.inr (.inr (.inr (.inr (.inr (.inr (.inr (.inl ⟨hok, hv, by simpa using h1, by simpa using h2, by simpa using h3, by simpa using h4, by simpa using h5, by simpa using h6⟩))))))))
      by_cases h7 : s ≥ (2 : Int) ^ n
      · exact exch_skip b0 b1 b2 b3 b4 b5 most tol v0 v1 v2 v3 v4 v5 x s i k _ _ A n c w hn4 hT hV hI (.inr (.inr (.inr (.inr (.inr (.inr (.inr (.inr ⟨hok, hv, by simpa using h1, by simpa using h2, by simpa using h3, by simpa using h4, by simpa using h5, by simpa using h6, by simpa using h7⟩))))))))
      have h7' : s < ((2 ^ n : Nat) : Int) := by rw [show ((2 ^ n : Nat) : Int) = (2 : Int) ^ n by simp]; omega
      clear h7
      obtain ⟨i, rfl⟩ : ∃ m : Nat, i = (m : Int) := ⟨i.toNat, by omega⟩
      obtain ⟨k, rfl⟩ : ∃ m : Nat, k = (m : Int) := ⟨k.toNat, by omega⟩
      obtain ⟨s, rfl⟩ : ∃ m : Nat, s = (m : Int) := ⟨s.toNat, by omega⟩
      have hi : i < n := by omega
      have hk : k < n := by omega
      have hne : i ≠ k := by omega
      have hs : s < 2 ^ n := by omega
      have hs16 : s < 16 := Nat.lt_of_lt_of_le hs (pow_le16 (hn4 hok))
      have hok' := hornOk_ex (i := i) (k := k) hok hi hk
      have hg : goodFV ⟨b0, b1, b2, b3, b4, b5⟩ f n most tol ⟨v0, v1, v2, v3, v4, v5⟩ = true := by simp [goodFV, hok, hv]
      have hg' : goodFV ⟨b0, b1, b2, b3, b4, b5⟩ (exF f i k) n most tol ⟨v0, v1, v2, v3, v4, v5⟩ = true := by simp [goodFV, hok', hv]
      obtain ⟨z0, z1, z2, z3, z4, z5, ez, hS, hSA⟩ := Sound_all b0 b1 b2 b3 b4 b5 most tol x s A n c f hn
      have hSA' := sndAll_ex hok hi hk hne hs hSA
      have hlen := findAll_ex hok hv hi hk hne
      refine exch_good b0 b1 b2 b3 b4 b5 most tol v0 v1 v2 v3 v4 v5 x z0 z1 z2 z3 z4 z5 ez (findAll ⟨b0, b1, b2, b3, b4, b5⟩ f n most tol ⟨v0, v1, v2, v3, v4, v5⟩).length (blowF (findAll ⟨b0, b1, b2, b3, b4, b5⟩ f n most tol ⟨v0, v1, v2, v3, v4, v5⟩)) (blowF (findAll ⟨b0, b1, b2, b3, b4, b5⟩ (exF f i k) n most tol ⟨v0, v1, v2, v3, v4, v5⟩)) s i k A n c f w (hn4 hok) hT hR hi hk hne hs (by rwa [hok] at hV) (by rwa [hv] at hI) (fun W g => hS W (hT.keep g) (hR.keep g)) ?_ ?_ ?_ ?_
      · intro W A' c' g hR'
        obtain ⟨y0, y1, y2, y3, y4, y5, ey, hY, hYA⟩ := Sound_all b0 b1 b2 b3 b4 b5 most tol x (swapI s i k) A' n c' (exF f i k) hn
        obtain ⟨e1, rfl⟩ := sndAll_uniq hSA' hYA
        injection e1 with q0 q1 q2 q3 q4 q5
        subst q0 q1 q2 q3 q4 q5
        exact hY W (hT.keep g) hR'
      · intro W g
        obtain ⟨E, hF, hE⟩ := Find_all b0 b1 b2 b3 b4 b5 most tol v0 v1 v2 v3 v4 v5 A n c f hn
        rcases hE with ⟨-, rfl⟩ | ⟨h, -⟩
        · exact hF W (hT.keep g) (hR.keep g)
        · rw [hg] at h; cases h
      · intro W A' c' g hR'
        obtain ⟨E, hF, hE⟩ := Find_all b0 b1 b2 b3 b4 b5 most tol v0 v1 v2 v3 v4 v5 A' n c' (exF f i k) hn
        rcases hE with ⟨-, rfl⟩ | ⟨h, -⟩
        · have h := hF W (hT.keep g) hR'
          unfold FindR at h
          rw [hlen] at h
          exact h
        · rw [hg'] at h; cases h
      · have e1 := hasAll_iff ⟨b0, b1, b2, b3, b4, b5⟩ f n most tol ⟨v0, v1, v2, v3, v4, v5⟩ x s
        have e2 := hasAll_iff ⟨b0, b1, b2, b3, b4, b5⟩ (exF f i k) n most tol ⟨v0, v1, v2, v3, v4, v5⟩ x (swapI s i k)
        have h0 := swap_nonneg (s := s) (i := i) (k := k) hs16 (by have := hn4 hok; omega) (by have := hn4 hok; omega)
        have h1 := (swap_lt (hn4 hok) hi hk hs).1
        have hb : isBlow n most x s ↔ isBlow n most x (swapI s i k) := by unfold isBlow; omega
        have hp := plays_ex ⟨b0, b1, b2, b3, b4, b5⟩ f (hn4 hok) hi hk hne hs16 tol ⟨v0, v1, v2, v3, v4, v5⟩ x.toNat
        rw [hlen] at e2
        rw [Bool.eq_iff_iff, e1, e2, hp, Int.toNat_natCast, hg, hg', hb]
    · exact exch_skip b0 b1 b2 b3 b4 b5 most tol v0 v1 v2 v3 v4 v5 x s i k _ _ A n c w hn4 hT hV hI (.inr (.inl ⟨hok, hv⟩))
  · exact exch_skip b0 b1 b2 b3 b4 b5 most tol v0 v1 v2 v3 v4 v5 x s i k _ _ A n c w hn4 hT hV hI (.inl hok)
end Go.Proofs.YtbaopniofhbjdaaDoor
