/-
  The law BrassValves returns true for every input.
-/
import Derived.Test.YtbaopniofhbjdaaDoorBValvIn
import Derived.Test.YtbaopniofhbjdaaDoorBPlain
namespace Go.Proofs.YtbaopniofhbjdaaDoor
open Go.RowKit

theorem vsum_zero (f : Nat → Nat → Int) (i k : Nat) : vsum f 0 i k = 0 := by
  induction k with
  | zero => rfl
  | succ k ih => rw [vsum_no (by simp [bitOn]), ih]
theorem sound_one (b : V6) (f : Nat → Nat → Int) (n : Nat) : soundV b f n 1 0 = b := by
  have h : ∀ i, i < 6 → pvI 1 i = 0 := by decide +kernel
  cases b
  simp only [soundV, soundF, vsum_zero, V6.mk.injEq, V6.get]
  rw [h 0 (by omega), h 1 (by omega), h 2 (by omega), h 3 (by omega), h 4 (by omega), h 5 (by omega)]
  refine ⟨?_, ?_, ?_, ?_, ?_, ?_⟩ <;> omega
/-- One valve more. -/
def bitChk (s k j : Nat) : Bool := !(s / 2 ^ k % 2 == 0) || (j == k) || (bitOn (s + 2 ^ k) j == bitOn s j)
theorem bitChk_all : ∀ s, s < 16 → ∀ k, k < 4 → ∀ j, j < 4 → bitChk s k j = true := by decide +kernel
theorem bit_other (s : Nat) (hs : s < 16) (k : Nat) (hk : k < 4) (j : Nat) (hj : j < 4) (h : s / 2 ^ k % 2 = 0) (hne : j ≠ k) : bitOn (s + 2 ^ k) j = bitOn s j := by
  have := bitChk_all s hs k hk j hj
  simpa [bitChk, h, hne] using this
def bitChk2 (s k : Nat) : Bool := !(s / 2 ^ k % 2 == 0) || (bitOn (s + 2 ^ k) k && !bitOn s k)
theorem bitChk2_all : ∀ s, s < 16 → ∀ k, k < 4 → bitChk2 s k = true := by decide +kernel
theorem bit_same (s : Nat) (hs : s < 16) (k : Nat) (hk : k < 4) (h : s / 2 ^ k % 2 = 0) : bitOn (s + 2 ^ k) k = true ∧ bitOn s k = false := by
  have := bitChk2_all s hs k hk
  simpa [bitChk2, h] using this
theorem vsum_more (f : Nat → Nat → Int) (s k i n : Nat) (hs : s < 16) (hk : k < 4) (h : s / 2 ^ k % 2 = 0) (hn : n ≤ 4) : vsum f (s + 2 ^ k) i n = vsum f s i n + (if k < n then f k i else 0) := by
  induction n with
  | zero => simp [vsum]
  | succ n ih =>
    have ih := ih (by omega)
    by_cases e : n = k
    · subst e
      obtain ⟨h1, h2⟩ := bit_same s hs n hk h
      rw [vsum_yes h1, vsum_no h2, ih, if_neg (by omega), if_pos (by omega)]; omega
    · have h1 := bit_other s hs k hk n (by omega) h e
      have e2 : (if k < n + 1 then f k i else 0) = (if k < n then f k i else 0) := by
        by_cases h : k < n
        · rw [if_pos h, if_pos (by omega)]
        · rw [if_neg h, if_neg (by omega)]
      cases hb : bitOn s n with
      | true => rw [vsum_yes hb, vsum_yes (h1.trans hb), ih, e2]; omega
      | false => rw [vsum_no hb, vsum_no (h1.trans hb), ih, e2]
set_option maxHeartbeats 2000000 in
theorem valves_law (b0 b1 b2 b3 b4 b5 most tol x s v : Int) (A : Option Addr) (n c : Nat) (f : Nat → Nat → Int) (hn : n ≤ 9223372036854775807) (hsb : s ≤ 9223372036854775807) (w : World) (hT : Tabs w) (hR : RowsAt w 6 A n f) :
    Calls Tryd.prog 9 #[.agg #[.int .i64 b0, .int .i64 b1, .int .i64 b2, .int .i64 b3, .int .i64 b4, .int .i64 b5, .slice A n c, .int .i64 most, .int .i64 tol], .agg #[.int .i64 x, .int .i64 s], .int .i64 v] w fun e w' => e = .returned (.bool true) ∧ Gr w w' := by
  have hVal := fun W (g : Gr w W) => hornValid_any b0 b1 b2 b3 b4 b5 most tol A n c f W (hT.keep g).primes (hR.keep g) hn
  cases hok : hornOk ⟨b0, b1, b2, b3, b4, b5⟩ n f most tol with
  | false =>
    rw [hok] at hVal
    exact valves_bad b0 b1 b2 b3 b4 b5 most tol x s v A n c w hT hVal
  | true =>
    rw [hok] at hVal
    obtain ⟨hbase, hn4, hm1, hm16, ht0, ht1, hval⟩ := hornOk_parts hok
    have hpn : 1 ≤ 2 ^ n ∧ 2 ^ n ≤ 16 := ⟨Nat.one_le_two_pow, Nat.pow_le_pow_right (by omega) hn4⟩
    have h0 : ∀ W, Gr w W → Calls Tryd.prog 15 #[.agg #[.int .i64 b0, .int .i64 b1, .int .i64 b2, .int .i64 b3, .int .i64 b4, .int .i64 b5, .slice A n c, .int .i64 most, .int .i64 tol], .agg #[.int .i64 1, .int .i64 0]] W fun e w' => e = .returned (.tuple #[.agg #[.int .i64 b0, .int .i64 b1, .int .i64 b2, .int .i64 b3, .int .i64 b4, .int .i64 b5], .int .i64 0]) ∧ Gr W w' := by
      obtain ⟨z0, z1, z2, z3, z4, z5, ez, h, ha⟩ := Sound_all b0 b1 b2 b3 b4 b5 most tol 1 0 A n c f hn
      have hB : isBlow n most 1 0 := ⟨by omega, by omega, by omega, by omega⟩
      have e := sound_one ⟨b0, b1, b2, b3, b4, b5⟩ f n
      rcases ha with ⟨h1, -⟩ | ⟨-, h1, -⟩ | ⟨-, -, -, hz, rfl⟩ | ⟨-, -, h1, -⟩
      · rw [hok] at h1; cases h1
      · exact (h1 hB).elim
      · rw [show (1 : Int).toNat = 1 from rfl, show (0 : Int).toNat = 0 from rfl, e] at hz
        injection hz with a0 a1 a2 a3 a4 a5
        subst a0 a1 a2 a3 a4 a5
        exact fun W g => h W (hT.keep g) (hR.keep g)
      · rw [show (1 : Int).toNat = 1 from rfl, show (0 : Int).toNat = 0 from rfl, e, hbase] at h1; cases h1
    have skip := fun h => valves_skip b0 b1 b2 b3 b4 b5 most tol x s v A n c w hT hVal h0 h
    rcases (by omega : v < 0 ∨ (0 ≤ v ∧ (n : Int) ≤ v) ∨ (0 ≤ v ∧ v < (n : Int) ∧ s < 0) ∨ (0 ≤ v ∧ v < (n : Int) ∧ 0 ≤ s)) with h | h | h | ⟨hv1, hv2, hs0⟩
    · exact skip (.inl h)
    · exact skip (.inr (.inl h))
    · exact skip (.inr (.inr h))
    · obtain ⟨k, rfl⟩ : ∃ k : Nat, v = (k : Int) := ⟨v.toNat, by omega⟩
      have hk : k < n := by omega
      by_cases hon : s / 2 ^ k % 2 = 1
      · exact valves_on b0 b1 b2 b3 b4 b5 most tol x s A n c k w hn4 hk hT hVal h0 hs0 hsb hon
      · obtain ⟨z0, z1, z2, z3, z4, z5, ez, h1, ha1⟩ := Sound_all b0 b1 b2 b3 b4 b5 most tol x s A n c f hn
        by_cases hez : ez = 0
        · subst hez
          obtain ⟨hB, hin, hz⟩ : isBlow n most x s ∧ allIn (soundV ⟨b0, b1, b2, b3, b4, b5⟩ f n x.toNat s.toNat) 576 6 = true ∧ (⟨z0, z1, z2, z3, z4, z5⟩ : V6) = soundV ⟨b0, b1, b2, b3, b4, b5⟩ f n x.toNat s.toNat := by
            rcases ha1 with ⟨-, -, h⟩ | ⟨-, -, -, h⟩ | ⟨-, h2, h3, h4, -⟩ | ⟨-, -, -, -, h⟩
            · omega
            · omega
            · exact ⟨h2, h3, h4⟩
            · omega
          obtain ⟨hx1, hx2, hs1, hs2⟩ := hB
          obtain ⟨t0, t1, t2, t3, t4, t5, et, h2, ha2⟩ := Sound_all b0 b1 b2 b3 b4 b5 most tol x (s + 2 ^ k) A n c f hn
          obtain ⟨S, rfl⟩ : ∃ S : Nat, s = (S : Int) := ⟨s.toNat, by omega⟩
          have hoff : S / 2 ^ k % 2 = 0 := by
            have hc : ((S : Int) / 2 ^ k % 2) = ((S / 2 ^ k % 2 : Nat) : Int) := by simp
            rw [hc] at hon
            omega
          refine valves_in b0 b1 b2 b3 b4 b5 most tol x S z0 z1 z2 z3 z4 z5 t0 t1 t2 t3 t4 t5 et A n c k f w hn4 hk hT hR hVal h0 (fun W g => h1 W (hT.keep g) (hR.keep g)) (fun W g => h2 W (hT.keep g) (hR.keep g)) ?_ hs0 (by omega) hon
          by_cases het : et = 0
          · subst het
            refine .inr ⟨rfl, fun W => ?_⟩
            obtain ⟨hin2, ht⟩ : allIn (soundV ⟨b0, b1, b2, b3, b4, b5⟩ f n x.toNat (S + 2 ^ k)) 576 6 = true ∧ (⟨t0, t1, t2, t3, t4, t5⟩ : V6) = soundV ⟨b0, b1, b2, b3, b4, b5⟩ f n x.toNat (S + 2 ^ k) := by
              have ec : ((S : Int) + 2 ^ k).toNat = S + 2 ^ k := by
                have : ((S : Int) + 2 ^ k) = ((S + 2 ^ k : Nat) : Int) := by simp
                rw [this]; rfl
              rw [SndAll, ec] at ha2
              rcases ha2 with ⟨-, -, h⟩ | ⟨-, -, -, h⟩ | ⟨-, -, h3, h4, -⟩ | ⟨-, -, -, -, h⟩
              · omega
              · omega
              · exact ⟨h3, h4⟩
              · omega
            have hvk := (valvesOk_at hval hk).1
            rw [Int.toNat_natCast] at hz hin
            have key : ∀ i, soundF ⟨b0, b1, b2, b3, b4, b5⟩ f n x.toNat (S + 2 ^ k) i + f k i = soundF ⟨b0, b1, b2, b3, b4, b5⟩ f n x.toNat S i := fun i => by
              unfold soundF
              rw [vsum_more f S k i n (by omega) (by omega) hoff hn4, if_pos hk]
              omega
            have hti : allIn ⟨t0, t1, t2, t3, t4, t5⟩ 576 6 = true := by rw [ht]; exact hin2
            have hzi : allIn ⟨z0, z1, z2, z3, z4, z5⟩ 576 6 = true := by rw [hz]; exact hin
            simp only [soundV, V6.mk.injEq] at hz ht
            obtain ⟨a0, a1, a2, a3, a4, a5⟩ := hz
            obtain ⟨c0, c1, c2, c3, c4, c5⟩ := ht
            have e0 : t0 + f k 0 = z0 := by rw [a0, c0]; exact key 0
            have e1 : t1 + f k 1 = z1 := by rw [a1, c1]; exact key 1
            have e2 : t2 + f k 2 = z2 := by rw [a2, c2]; exact key 2
            have e3 : t3 + f k 3 = z3 := by rw [a3, c3]; exact key 3
            have e4 : t4 + f k 4 = z4 := by rw [a4, c4]; exact key 4
            have e5 : t5 + f k 5 = z5 := by rw [a5, c5]; exact key 5
            have h := mul_ok t0 t1 t2 t3 t4 t5 (f k 0) (f k 1) (f k 2) (f k 3) (f k 4) (f k 5) W hti hvk (by rw [e0, e1, e2, e3, e4, e5]; exact hzi)
            rw [e0, e1, e2, e3, e4, e5] at h
            exact h
          · exact .inl het
        · refine valves_out b0 b1 b2 b3 b4 b5 most tol x s z0 z1 z2 z3 z4 z5 ez A n c k w hn4 hk hT hVal h0 (fun W g => h1 W (hT.keep g) (hR.keep g)) (fun s' W g => ?_) hez hs0 hsb hon
          obtain ⟨t0, t1, t2, t3, t4, t5, et, h2, -⟩ := Sound_all b0 b1 b2 b3 b4 b5 most tol x s' A n c f hn
          refine (h2 W (hT.keep g) (hR.keep g)).mono ?_
          rintro e w' ⟨rfl, hb⟩
          exact ⟨t0, t1, t2, t3, t4, t5, et, rfl, hb⟩
end Go.Proofs.YtbaopniofhbjdaaDoor
