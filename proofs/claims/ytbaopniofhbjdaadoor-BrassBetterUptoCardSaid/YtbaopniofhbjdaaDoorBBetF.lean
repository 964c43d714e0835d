/-
  The law BrassBetter: what the calls return where both horns are valid.
-/
import Derived.Test.YtbaopniofhbjdaaDoorLDist
import Derived.Test.YtbaopniofhbjdaaDoorBPlain
import Derived.Test.YtbaopniofhbjdaaDoorBestMin
import Derived.Test.YtbaopniofhbjdaaDoorSrc
namespace Go.Proofs.YtbaopniofhbjdaaDoor
open Go.RowKit

/-- The distance of a blow of the list. -/
theorem ldist_mem {base : V6} {f : Nat → Nat → Int} {n : Nat} {most tol : Int} {v d : V6} {r : Bool} {p : BlowIx most.toNat (2 ^ n)} (hp : p ∈ findAll base f n most tol v) (h : LDAll base f n most tol ((p.1.1 : Int) + 1) (p.1.2 : Int) v d r) : r = okB base f n v p ∧ (r = true → d = distB base f n v p) := by
  obtain ⟨hg, hpl⟩ := mem_findAll.1 hp
  simp only [goodFV, Bool.and_eq_true] at hg
  obtain ⟨⟨i, j⟩, hi, hj⟩ := p
  dsimp only at h hpl hi hj ⊢
  have hB : isBlow n most ((i : Int) + 1) (j : Int) := ⟨by omega, by omega, by omega, by omega⟩
  have e1 : ((i : Int) + 1).toNat = i + 1 := by omega
  have e2 : ((j : Nat) : Int).toNat = j := by omega
  rw [LDAll, e1, e2] at h
  rcases h with ⟨rfl, -, -, -, -, h1, h2⟩ | ⟨rfl, h⟩
  · exact ⟨h1.symm, fun _ => h2⟩
  · refine ⟨?_, fun h => by cases h⟩
    symm
    rw [← Bool.not_eq_true]
    exact fun h' => h ⟨hg.1, hB, playsB_in hpl, hg.2, h'⟩


theorem bitOn_high {s j n : Nat} (hs : s < 2 ^ n) (h : n ≤ j) : bitOn s j = false := by
  have h1 : 2 ^ n ≤ 2 ^ j := Nat.pow_le_pow_right (by omega) h
  have h2 : s / 2 ^ j = 0 := Nat.div_eq_of_lt (by omega)
  simp [bitOn, h2]
theorem vsum_congr {f g : Nat → Nat → Int} {s c n : Nat} (h : ∀ i, i < n → f i c = g i c) : vsum f s c n = vsum g s c n := by
  induction n with
  | zero => rfl
  | succ n ih => rw [vsum, vsum, ih fun i hi => h i (by omega), h n (by omega)]
theorem vsum_ext (f g : Nat → Nat → Int) {n s : Nat} (hs : s < 2 ^ n) (c k : Nat) : vsum (extF f n g) s c (n + k) = vsum f s c n := by
  induction k with
  | zero => exact vsum_congr fun i hi => by unfold extF; rw [if_pos (by omega)]
  | succ k ih =>
    rw [← Nat.add_assoc, vsum_no (bitOn_high hs (by omega)), ih]
theorem sound_ext (b : V6) (f g : Nat → Nat → Int) {n s : Nat} (hs : s < 2 ^ n) (k x : Nat) : soundV b (extF f n g) (n + k) x s = soundV b f n x s := by
  have h := fun c => vsum_ext f g hs c k
  simp only [soundV, soundF, h]
theorem surely_mono {lo hi t t' : Int} (h : t ≤ t') (hs : surelyI lo hi (-10000 * t) (10000 * t) = 1) : surelyI lo hi (-10000 * t') (10000 * t') = 1 := by
  unfold surelyI at hs ⊢
  split at hs
  · rw [if_pos (by omega)]
  · split at hs <;> omega
theorem plays_ext (b : V6) (f g : Nat → Nat → Int) {n s : Nat} (hs : s < 2 ^ n) (k : Nat) {tol tol' : Int} (ht : tol ≤ tol') (v : V6) (x : Nat) (h : playsB b f n tol v x s = true) : playsB b (extF f n g) (n + k) tol' v x s = true := by
  unfold playsB at h ⊢
  rw [sound_ext b f g hs k x]
  simp only [Bool.and_eq_true, beq_iff_eq] at h ⊢
  exact ⟨h.1, surely_mono ht h.2⟩
theorem find_ext {b : V6} {f g : Nat → Nat → Int} {n k : Nat} {most most' tol tol' : Int} {v : V6} (hm : most ≤ most') (ht : tol ≤ tol') (hg : goodFV b (extF f n g) (n + k) most' tol' v = true) {p : BlowIx most.toNat (2 ^ n)} (hp : p ∈ findAll b f n most tol v) :
    ∃ q ∈ findAll b (extF f n g) (n + k) most' tol' v, q.1 = p.1 ∧ distB b (extF f n g) (n + k) v q = distB b f n v p := by
  obtain ⟨-, hpl⟩ := mem_findAll.1 hp
  have h1 : p.1.1 < most'.toNat := by have := p.2.1; omega
  have h2 : p.1.2 < 2 ^ (n + k) := Nat.lt_of_lt_of_le p.2.2 (Nat.pow_le_pow_right (by omega) (by omega))
  refine ⟨⟨p.1, h1, h2⟩, mem_findAll.2 ⟨hg, plays_ext b f g p.2.2 k ht v _ hpl⟩, rfl, ?_⟩
  unfold distB
  simp only
  rw [sound_ext b f g p.2.2 k]
theorem has_ext {b : V6} {f g : Nat → Nat → Int} {n k : Nat} {most most' tol tol' : Int} {v : V6} (hm : most ≤ most') (ht : tol ≤ tol') (hg : goodFV b (extF f n g) (n + k) most' tol' v = true) (i : Nat) (hi : i < (findAll b f n most tol v).length) :
    hasR (blowF (findAll b (extF f n g) (n + k) most' tol' v)) (blowF (findAll b f n most tol v) i 0) (blowF (findAll b f n most tol v) i 1) (findAll b (extF f n g) (n + k) most' tol' v).length = true := by
  have e := List.getElem?_eq_getElem hi
  obtain ⟨q, hq, hqp, -⟩ := find_ext hm ht hg (List.getElem_mem hi)
  rw [blowF_0 e, blowF_1 e, hasL_iff]
  exact ⟨q, hq, by rw [hqp], by rw [hqp]⟩
/-- The best blow is no farther with more. -/
theorem best_ext {b : V6} {f g : Nat → Nat → Int} {n k : Nat} {most most' tol tol' : Int} {v : V6} (hm : most ≤ most') (ht : tol ≤ tol') (hg : goodFV b (extF f n g) (n + k) most' tol' v = true) {p : BlowIx most.toNat (2 ^ n)} {q : BlowIx most'.toNat (2 ^ (n + k))}
    (hp : bestL b f n v (findAll b f n most tol v) = some p) (hq : bestL b (extF f n g) (n + k) v (findAll b (extF f n g) (n + k) most' tol' v) = some q) : 0 ≤ cmpP ((distB b f n v p).sub (distB b (extF f n g) (n + k) v q)) := by
  obtain ⟨r, hr, -, hd⟩ := find_ext hm ht hg (bestL_mem _ _ _ _ _ _ hp)
  have := bestL_min hq r hr
  rw [hd] at this
  exact this

set_option maxHeartbeats 4000000 in
theorem bet_facts (b0 b1 b2 b3 b4 b5 most tol most' tol' v0 v1 v2 v3 v4 v5 : Int) (A A' : Option Addr) (n k c c' : Nat) (f g : Nat → Nat → Int) (hn : n + k ≤ 9223372036854775807) (hm : most ≤ most') (ht : tol ≤ tol')
    (hg1 : goodFV ⟨b0, b1, b2, b3, b4, b5⟩ f n most tol ⟨v0, v1, v2, v3, v4, v5⟩ = true) (hg2 : goodFV ⟨b0, b1, b2, b3, b4, b5⟩ (extF f n g) (n + k) most' tol' ⟨v0, v1, v2, v3, v4, v5⟩ = true) (w : World) (hT : Tabs w) (hR : RowsAt w 6 A n f) (hR' : RowsAt w 6 A' (n + k) (extF f n g)) :
    ∃ (N1 N2 : Nat) (q1 q2 : Nat → Nat → Int) (X1 S1 F1 X2 S2 F2 : Int), N1 ≤ 9223372036854775807 ∧ N2 ≤ 9223372036854775807 ∧
      (∀ W, Gr w W → Calls Tryd.prog 17 #[.agg #[.int .i64 b0, .int .i64 b1, .int .i64 b2, .int .i64 b3, .int .i64 b4, .int .i64 b5, .slice A n c, .int .i64 most, .int .i64 tol], .agg #[.int .i64 v0, .int .i64 v1, .int .i64 v2, .int .i64 v3, .int .i64 v4, .int .i64 v5]] W fun e w' => ∃ A c, e = .returned (.tuple #[.slice A N1 c, .int .i64 0]) ∧ RowsAt w' 2 A N1 q1 ∧ Gr W w') ∧ (∀ W, Gr w W → Calls Tryd.prog 17 #[.agg #[.int .i64 b0, .int .i64 b1, .int .i64 b2, .int .i64 b3, .int .i64 b4, .int .i64 b5, .slice A' (n + k) c', .int .i64 most', .int .i64 tol'], .agg #[.int .i64 v0, .int .i64 v1, .int .i64 v2, .int .i64 v3, .int .i64 v4, .int .i64 v5]] W fun e w' => ∃ A c, e = .returned (.tuple #[.slice A N2 c, .int .i64 0]) ∧ RowsAt w' 2 A N2 q2 ∧ Gr W w') ∧
      (∀ i, i < N1 → hasR q2 (q1 i 0) (q1 i 1) N2 = true) ∧ (∀ W, Gr w W → Calls Tryd.prog 20 #[.agg #[.int .i64 b0, .int .i64 b1, .int .i64 b2, .int .i64 b3, .int .i64 b4, .int .i64 b5, .slice A n c, .int .i64 most, .int .i64 tol], .agg #[.int .i64 v0, .int .i64 v1, .int .i64 v2, .int .i64 v3, .int .i64 v4, .int .i64 v5]] W fun e w' => e = .returned (.tuple #[.agg #[.int .i64 X1, .int .i64 S1], .int .i64 F1]) ∧ Gr W w') ∧ (∀ W, Gr w W → Calls Tryd.prog 20 #[.agg #[.int .i64 b0, .int .i64 b1, .int .i64 b2, .int .i64 b3, .int .i64 b4, .int .i64 b5, .slice A' (n + k) c', .int .i64 most', .int .i64 tol'], .agg #[.int .i64 v0, .int .i64 v1, .int .i64 v2, .int .i64 v3, .int .i64 v4, .int .i64 v5]] W fun e w' => e = .returned (.tuple #[.agg #[.int .i64 X2, .int .i64 S2], .int .i64 F2]) ∧ Gr W w') ∧
      ((F1 = 3 ∨ F1 = 4) ∨ (F1 = 0 ∧ F2 = 3) ∨ (F1 = 0 ∧ F2 = 0 ∧ ∃ d0 d1 d2 d3 d4 d5 y0 y1 y2 y3 y4 y5 C : Int, (∀ W, Gr w W → Calls Tryd.prog 26 #[.agg #[.int .i64 b0, .int .i64 b1, .int .i64 b2, .int .i64 b3, .int .i64 b4, .int .i64 b5, .slice A n c, .int .i64 most, .int .i64 tol], .agg #[.int .i64 X1, .int .i64 S1], .agg #[.int .i64 v0, .int .i64 v1, .int .i64 v2, .int .i64 v3, .int .i64 v4, .int .i64 v5]] W fun e w' => e = .returned (.tuple #[.agg #[.int .i64 d0, .int .i64 d1, .int .i64 d2, .int .i64 d3, .int .i64 d4, .int .i64 d5], .bool true]) ∧ Gr W w') ∧ (∀ W, Gr w W → Calls Tryd.prog 26 #[.agg #[.int .i64 b0, .int .i64 b1, .int .i64 b2, .int .i64 b3, .int .i64 b4, .int .i64 b5, .slice A' (n + k) c', .int .i64 most', .int .i64 tol'], .agg #[.int .i64 X2, .int .i64 S2], .agg #[.int .i64 v0, .int .i64 v1, .int .i64 v2, .int .i64 v3, .int .i64 v4, .int .i64 v5]] W fun e w' => e = .returned (.tuple #[.agg #[.int .i64 y0, .int .i64 y1, .int .i64 y2, .int .i64 y3, .int .i64 y4, .int .i64 y5], .bool true]) ∧ Gr W w') ∧ (∀ W, Gr w W → Calls Tryd.prog 27 #[.agg #[.int .i64 d0, .int .i64 d1, .int .i64 d2, .int .i64 d3, .int .i64 d4, .int .i64 d5], .agg #[.int .i64 y0, .int .i64 y1, .int .i64 y2, .int .i64 y3, .int .i64 y4, .int .i64 y5]] W fun e w' => e = .returned (.tuple #[.int .i64 C, .int .i64 0]) ∧ Gr W w') ∧ 0 ≤ C)) := by
  obtain ⟨E1, hF1, hE1⟩ := Find_all b0 b1 b2 b3 b4 b5 most tol v0 v1 v2 v3 v4 v5 A n c f (by omega)
  obtain ⟨E2, hF2, hE2⟩ := Find_all b0 b1 b2 b3 b4 b5 most' tol' v0 v1 v2 v3 v4 v5 A' (n + k) c' (extF f n g) hn
  obtain ⟨X1, S1, F1, hB1, hBA1⟩ := Best_all b0 b1 b2 b3 b4 b5 most tol v0 v1 v2 v3 v4 v5 A n c f (by omega)
  obtain ⟨X2, S2, F2, hB2, hBA2⟩ := Best_all b0 b1 b2 b3 b4 b5 most' tol' v0 v1 v2 v3 v4 v5 A' (n + k) c' (extF f n g) hn
  obtain rfl : E1 = 0 := by
    rcases hE1 with ⟨-, h⟩ | ⟨h, -⟩
    · exact h
    · rw [hg1] at h; cases h
  obtain rfl : E2 = 0 := by
    rcases hE2 with ⟨-, h⟩ | ⟨h, -⟩
    · exact h
    · rw [hg2] at h; cases h
  have hr1 : BestRes ⟨b0, b1, b2, b3, b4, b5⟩ f n ⟨v0, v1, v2, v3, v4, v5⟩ (findAll ⟨b0, b1, b2, b3, b4, b5⟩ f n most tol ⟨v0, v1, v2, v3, v4, v5⟩) X1 S1 F1 := by
    rcases hBA1 with ⟨h, -⟩ | ⟨-, h⟩
    · rw [hg1] at h; cases h
    · exact h
  have hr2 : BestRes ⟨b0, b1, b2, b3, b4, b5⟩ (extF f n g) (n + k) ⟨v0, v1, v2, v3, v4, v5⟩ (findAll ⟨b0, b1, b2, b3, b4, b5⟩ (extF f n g) (n + k) most' tol' ⟨v0, v1, v2, v3, v4, v5⟩) X2 S2 F2 := by
    rcases hBA2 with ⟨h, -⟩ | ⟨-, h⟩
    · rw [hg2] at h; cases h
    · exact h
  have l1 := findAll_len (base := ⟨b0, b1, b2, b3, b4, b5⟩) (f := f) (n := n) (most := most) (tol := tol) (v := ⟨v0, v1, v2, v3, v4, v5⟩)
  have l2 := findAll_len (base := ⟨b0, b1, b2, b3, b4, b5⟩) (f := extF f n g) (n := n + k) (most := most') (tol := tol') (v := ⟨v0, v1, v2, v3, v4, v5⟩)
  refine ⟨(findAll ⟨b0, b1, b2, b3, b4, b5⟩ f n most tol ⟨v0, v1, v2, v3, v4, v5⟩).length, (findAll ⟨b0, b1, b2, b3, b4, b5⟩ (extF f n g) (n + k) most' tol' ⟨v0, v1, v2, v3, v4, v5⟩).length, blowF (findAll ⟨b0, b1, b2, b3, b4, b5⟩ f n most tol ⟨v0, v1, v2, v3, v4, v5⟩), blowF (findAll ⟨b0, b1, b2, b3, b4, b5⟩ (extF f n g) (n + k) most' tol' ⟨v0, v1, v2, v3, v4, v5⟩), X1, S1, F1, X2, S2, F2, l1, l2,
    fun W gr => (hF1 W (hT.keep gr) (hR.keep gr)).mono ?_, fun W gr => (hF2 W (hT.keep gr) (hR'.keep gr)).mono ?_, fun i hi => has_ext hm ht hg2 i hi, fun W gr => hB1 W (hT.keep gr) (hR.keep gr), fun W gr => hB2 W (hT.keep gr) (hR'.keep gr), ?_⟩
  · rintro e w' ⟨A1, c1, rfl, hr, -, hb⟩; exact ⟨A1, c1, rfl, hr, hb⟩
  · rintro e w' ⟨A1, c1, rfl, hr, -, hb⟩; exact ⟨A1, c1, rfl, hr, hb⟩
  clear hF1 hF2 hE1 hE2 hBA1 hBA2 l1 l2
  rcases hr1 with ⟨-, -, -, h⟩ | ⟨-, -, -, -, h⟩ | ⟨hne1, hok1, hX1, hS1, hFF1⟩
  · exact .inl (.inr h)
  · exact .inl (.inl h)
  · rcases hr2 with ⟨he, -⟩ | ⟨-, -, -, -, h⟩ | ⟨hne2, hok2, hX2, hS2, hFF2⟩
    · exfalso
      obtain ⟨p, hp⟩ := List.exists_mem_of_ne_nil _ hne1
      obtain ⟨q, hq, -⟩ := find_ext hm ht hg2 hp
      rw [he] at hq
      cases hq
    · exact .inr (.inl ⟨hFF1, h⟩)
    · right; right
      obtain ⟨p, hp⟩ := bestL_some ⟨b0, b1, b2, b3, b4, b5⟩ f n ⟨v0, v1, v2, v3, v4, v5⟩ hne1
      have hmp := bestL_mem _ _ _ _ _ _ hp
      rw [hp] at hX1 hS1
      have hX1' : X1 = (p.1.1 : Int) + 1 := hX1
      have hS1' : S1 = (p.1.2 : Int) := hS1
      obtain ⟨d0, d1, d2, d3, d4, d5, r, hd, hda⟩ := ldist_all b0 b1 b2 b3 b4 b5 most tol X1 S1 v0 v1 v2 v3 v4 v5 A n c f (by omega)
      rw [hX1', hS1'] at hda
      obtain ⟨hr1, hdq⟩ := ldist_mem hmp hda
      rw [hok1 p hmp] at hr1
      subst hr1
      have hdq := hdq rfl
      have hdin : allIn ⟨d0, d1, d2, d3, d4, d5⟩ 576 6 = true := by rw [hdq]; exact hok1 p hmp
      obtain ⟨q, hq⟩ := bestL_some ⟨b0, b1, b2, b3, b4, b5⟩ (extF f n g) (n + k) ⟨v0, v1, v2, v3, v4, v5⟩ hne2
      have hmq := bestL_mem _ _ _ _ _ _ hq
      rw [hq] at hX2 hS2
      have hX2' : X2 = (q.1.1 : Int) + 1 := hX2
      have hS2' : S2 = (q.1.2 : Int) := hS2
      obtain ⟨y0, y1, y2, y3, y4, y5, s, hy, hya⟩ := ldist_all b0 b1 b2 b3 b4 b5 most' tol' X2 S2 v0 v1 v2 v3 v4 v5 A' (n + k) c' (extF f n g) (by omega)
      rw [hX2', hS2'] at hya
      obtain ⟨hr2, hyq⟩ := ldist_mem hmq hya
      rw [hok2 q hmq] at hr2
      subst hr2
      have hyq := hyq rfl
      have hyin : allIn ⟨y0, y1, y2, y3, y4, y5⟩ 576 6 = true := by rw [hyq]; exact hok2 q hmq
      refine ⟨hFF1, hFF2, d0, d1, d2, d3, d4, d5, y0, y1, y2, y3, y4, y5, cmpP (V6.sub ⟨d0, d1, d2, d3, d4, d5⟩ ⟨y0, y1, y2, y3, y4, y5⟩), fun W gr => hd W (hT.keep gr) (hR.keep gr), fun W gr => hy W (hT.keep gr) (hR'.keep gr), fun W gr => pcmp_ok _ _ _ _ _ _ _ _ _ _ _ _ W (hT.keep gr).primes hdin hyin, ?_⟩
      rw [hdq, hyq]
      exact best_ext hm ht hg2 hp hq
end Go.Proofs.YtbaopniofhbjdaaDoor
