/-
  The law BrassBest returns true for every input.
-/
import Derived.Test.YtbaopniofhbjdaaDoorBBest
import Derived.Test.YtbaopniofhbjdaaDoorBestMin
import Derived.Test.YtbaopniofhbjdaaDoorLDist
import Derived.Deep.Slices
namespace Go.Proofs.YtbaopniofhbjdaaDoor
open Go.RowKit

theorem findAll_len {base : V6} {f : Nat → Nat → Int} {n : Nat} {most tol : Int} {v : V6} : (findAll base f n most tol v).length ≤ 9223372036854775807 := by
  cases hg : goodFV base f n most tol v with
  | false => rw [findAll_no hg]; simp
  | true =>
    rw [findAll_yes hg]
    simp only [goodFV, Bool.and_eq_true] at hg
    have h1 := List.length_filter_le (fun p : BlowIx most.toNat (2 ^ n) => playsB base f n tol v (p.1.1 + 1) p.1.2) (blowsTo most.toNat (2 ^ n) most.toNat)
    have h2 := blowsTo_len most.toNat (2 ^ n) most.toNat
    obtain ⟨-, hn4, -, hm16, -, -, -⟩ := hornOk_parts hg.1
    have h3 : 2 ^ n ≤ 16 := Nat.pow_le_pow_right (by omega) hn4
    have h4 : most.toNat * 2 ^ n ≤ 16 * 16 := Nat.mul_le_mul (by omega) h3
    unfold findL
    omega
/-- The distance of a blow of the list. -/
theorem ldist_mem {base : V6} {f : Nat → Nat → Int} {n : Nat} {most tol : Int} {v d : V6} {r : Bool} {p : BlowIx most.toNat (2 ^ n)} (hp : p ∈ findAll base f n most tol v) (h : LDAll base f n most tol ((p.1.1 : Int) + 1) (p.1.2 : Int) v d r) : r = okB base f n v p ∧ (r = true → d = distB base f n v p) := by
  obtain ⟨hg, hpl⟩ := mem_findAll.1 hp
  simp only [goodFV, Bool.and_eq_true] at hg
  obtain ⟨⟨i, j⟩, hi, hj⟩ := p
  dsimp only at h hpl hi hj ⊢
  have hB : isBlow n most ((i : Int) + 1) (j : Int) := ⟨by omega, by omega, by omega, by omega⟩
  have e1 : ((i : Int) + 1).toNat = i + 1 := by omega
  have e2 : ((j : Nat) : Int).toNat = j := by omega
  rw [LDAll, e1, e2] at h
  rcases h with ⟨rfl, -, -, -, -, h1, h2⟩ | ⟨rfl, h⟩
  · exact ⟨h1.symm, fun _ => h2⟩
  · refine ⟨?_, fun h => by cases h⟩
    symm
    rw [← Bool.not_eq_true]
    exact fun h' => h ⟨hg.1, hB, playsB_in hpl, hg.2, h'⟩
set_option maxHeartbeats 2000000 in
theorem bbest_law (b0 b1 b2 b3 b4 b5 most tol v0 v1 v2 v3 v4 v5 : Int) (A : Option Addr) (n c : Nat) (f : Nat → Nat → Int) (hn : n ≤ 9223372036854775807) (w : World) (hT : Tabs w) (hV : RowsAt w 6 A n f) :
    Calls Tryd.prog 5 #[.agg #[.int .i64 b0, .int .i64 b1, .int .i64 b2, .int .i64 b3, .int .i64 b4, .int .i64 b5, .slice A n c, .int .i64 most, .int .i64 tol], .agg #[.int .i64 v0, .int .i64 v1, .int .i64 v2, .int .i64 v3, .int .i64 v4, .int .i64 v5]] w fun e w' => e = .returned (.bool true) ∧ Gr w w' := by
  obtain ⟨E, hF, hE⟩ := Find_all b0 b1 b2 b3 b4 b5 most tol v0 v1 v2 v3 v4 v5 A n c f hn
  obtain ⟨X, S, F, hB, hBA⟩ := Best_all b0 b1 b2 b3 b4 b5 most tol v0 v1 v2 v3 v4 v5 A n c f hn
  have hF' := fun W (g : Gr w W) => hF W (hT.keep g) (hV.keep g)
  have hB' := fun W (g : Gr w W) => hB W (hT.keep g) (hV.keep g)
  have hlen := findAll_len (base := ⟨b0, b1, b2, b3, b4, b5⟩) (f := f) (n := n) (most := most) (tol := tol) (v := ⟨v0, v1, v2, v3, v4, v5⟩)
  have empty : findAll ⟨b0, b1, b2, b3, b4, b5⟩ f n most tol ⟨v0, v1, v2, v3, v4, v5⟩ = [] → X = 0 → S = 0 → ((E = 1 ∧ F = 1) ∨ (E = 0 ∧ F = 4)) → Calls Tryd.prog 5 #[.agg #[.int .i64 b0, .int .i64 b1, .int .i64 b2, .int .i64 b3, .int .i64 b4, .int .i64 b5, .slice A n c, .int .i64 most, .int .i64 tol], .agg #[.int .i64 v0, .int .i64 v1, .int .i64 v2, .int .i64 v3, .int .i64 v4, .int .i64 v5]] w fun e w' => e = .returned (.bool true) ∧ Gr w w' := by
    rintro he rfl rfl hc
    refine bbest_bad b0 b1 b2 b3 b4 b5 most tol v0 v1 v2 v3 v4 v5 E F A n c w hT (fun W g => (hF' W g).mono ?_) hB' hc
    rintro e w' ⟨A1, c1, rfl, -, -, hb⟩
    rw [he]
    exact ⟨A1, c1, rfl, hb⟩
  rcases hBA with ⟨hg, hX, hS, rfl⟩ | ⟨hg, hres⟩
  · have e := findAll_no hg
    rcases hE with ⟨h, -⟩ | ⟨-, rfl⟩
    · rw [hg] at h; cases h
    · exact empty e hX hS (.inl ⟨rfl, rfl⟩)
  · rcases hE with ⟨-, rfl⟩ | ⟨h, -⟩
    rotate_left
    · rw [hg] at h; cases h
    by_cases he : findAll ⟨b0, b1, b2, b3, b4, b5⟩ f n most tol ⟨v0, v1, v2, v3, v4, v5⟩ = []
    · obtain ⟨hX, hS, rfl⟩ := hres.empty he
      exact empty he hX hS (.inr ⟨rfl, rfl⟩)
    · have hmem := fun (p : BlowIx most.toNat (2 ^ n)) (hp : p ∈ findAll ⟨b0, b1, b2, b3, b4, b5⟩ f n most tol ⟨v0, v1, v2, v3, v4, v5⟩) => hp
      have hld := fun (p : BlowIx most.toNat (2 ^ n)) (hp : p ∈ findAll ⟨b0, b1, b2, b3, b4, b5⟩ f n most tol ⟨v0, v1, v2, v3, v4, v5⟩) d r => @ldist_mem ⟨b0, b1, b2, b3, b4, b5⟩ f n most tol ⟨v0, v1, v2, v3, v4, v5⟩ d r p hp
      have hhas := hasL_iff (findAll ⟨b0, b1, b2, b3, b4, b5⟩ f n most tol ⟨v0, v1, v2, v3, v4, v5⟩) X S
      clear empty hF hB
      generalize findAll ⟨b0, b1, b2, b3, b4, b5⟩ f n most tol ⟨v0, v1, v2, v3, v4, v5⟩ = L at *
      have key : ∀ k, k < L.length → ∃ dr : (Nat → Int) × Bool, (∀ W, Gr w W → Calls Tryd.prog 26 #[.agg #[.int .i64 b0, .int .i64 b1, .int .i64 b2, .int .i64 b3, .int .i64 b4, .int .i64 b5, .slice A n c, .int .i64 most, .int .i64 tol], .agg #[.int .i64 (blowF L k 0), .int .i64 (blowF L k 1)], .agg #[.int .i64 v0, .int .i64 v1, .int .i64 v2, .int .i64 v3, .int .i64 v4, .int .i64 v5]] W fun e w' => e = .returned (.tuple #[.agg #[.int .i64 (dr.1 0), .int .i64 (dr.1 1), .int .i64 (dr.1 2), .int .i64 (dr.1 3), .int .i64 (dr.1 4), .int .i64 (dr.1 5)], .bool dr.2]) ∧ Gr W w') ∧
          ∀ p, L[k]? = some p → dr.2 = okB ⟨b0, b1, b2, b3, b4, b5⟩ f n ⟨v0, v1, v2, v3, v4, v5⟩ p ∧ (dr.2 = true → (⟨dr.1 0, dr.1 1, dr.1 2, dr.1 3, dr.1 4, dr.1 5⟩ : V6) = distB ⟨b0, b1, b2, b3, b4, b5⟩ f n ⟨v0, v1, v2, v3, v4, v5⟩ p) := by
        intro k hk
        obtain ⟨d0, d1, d2, d3, d4, d5, r, hd, hda⟩ := ldist_all b0 b1 b2 b3 b4 b5 most tol (blowF L k 0) (blowF L k 1) v0 v1 v2 v3 v4 v5 A n c f hn
        refine ⟨(V6.get ⟨d0, d1, d2, d3, d4, d5⟩, r), fun W g => hd W (hT.keep g) (hV.keep g), fun p hp => ?_⟩
        have e0 := blowF_0 hp
        have e1 := blowF_1 hp
        rw [e0, e1] at hda
        exact hld p (List.mem_of_getElem? hp) _ _ hda
      obtain ⟨dr, hdr⟩ := Go.Deep.choose_lt (α := (Nat → Int) × Bool) key
      have hany : anyNo (fun k => (dr k).2) L.length = true ↔ ∃ p ∈ L, okB ⟨b0, b1, b2, b3, b4, b5⟩ f n ⟨v0, v1, v2, v3, v4, v5⟩ p = false := by
        rw [anyNo_iff]
        constructor
        · rintro ⟨i, hi, h⟩
          exact ⟨L[i], List.getElem_mem hi, by rw [← ((hdr i hi).2 _ (List.getElem?_eq_getElem hi)).1]; exact h⟩
        · rintro ⟨p, hp, h⟩
          obtain ⟨i, hi, rfl⟩ := List.getElem_of_mem hp
          exact ⟨i, hi, by rw [((hdr i hi).2 _ (List.getElem?_eq_getElem hi)).1]; exact h⟩
      have hFr : ∀ W, Gr w W → Calls Tryd.prog 17 #[.agg #[.int .i64 b0, .int .i64 b1, .int .i64 b2, .int .i64 b3, .int .i64 b4, .int .i64 b5, .slice A n c, .int .i64 most, .int .i64 tol], .agg #[.int .i64 v0, .int .i64 v1, .int .i64 v2, .int .i64 v3, .int .i64 v4, .int .i64 v5]] W fun e w' => ∃ A c, e = .returned (.tuple #[.slice A L.length c, .int .i64 0]) ∧ RowsAt w' 2 A L.length (blowF L) ∧ Gr W w' := fun W g => (hF' W g).mono (by
        rintro e w' ⟨A1, c1, rfl, hr, -, hb⟩
        exact ⟨A1, c1, rfl, hr, hb⟩)
      by_cases hall : ∃ p ∈ L, okB ⟨b0, b1, b2, b3, b4, b5⟩ f n ⟨v0, v1, v2, v3, v4, v5⟩ p = false
      · obtain ⟨p, hp, hb⟩ := hall
        obtain ⟨rfl, rfl, rfl⟩ := hres.bad hp hb
        exact bbest_good b0 b1 b2 b3 b4 b5 most tol v0 v1 v2 v3 v4 v5 0 0 3 0 0 0 0 0 0 A n c L.length (blowF L) (fun k => (dr k).2) (fun k => (dr k).1) (fun _ => 0) w hT hFr hB' (fun k hk => (hdr k hk).1) hlen (.inl ⟨rfl, hany.2 ⟨p, hp, hb⟩⟩)
      · have hok : ∀ p ∈ L, okB ⟨b0, b1, b2, b3, b4, b5⟩ f n ⟨v0, v1, v2, v3, v4, v5⟩ p = true := fun p hp => by
          cases e : okB ⟨b0, b1, b2, b3, b4, b5⟩ f n ⟨v0, v1, v2, v3, v4, v5⟩ p with
          | true => rfl
          | false => exact (hall ⟨p, hp, e⟩).elim
        obtain ⟨q, hq⟩ := bestL_some ⟨b0, b1, b2, b3, b4, b5⟩ f n ⟨v0, v1, v2, v3, v4, v5⟩ he
        have hqm := bestL_mem _ _ _ _ _ _ hq
        obtain ⟨hX, hS, rfl⟩ := hres.good he hok
        rw [hq] at hX hS
        have hX' : X = (q.1.1 : Int) + 1 := hX
        have hS' : S = (q.1.2 : Int) := hS
        obtain ⟨d0, d1, d2, d3, d4, d5, r, hd, hda⟩ := ldist_all b0 b1 b2 b3 b4 b5 most tol X S v0 v1 v2 v3 v4 v5 A n c f hn
        rw [hX', hS'] at hda
        obtain ⟨hr, hdq⟩ := hld q hqm _ _ hda
        rw [hok q hqm] at hr
        subst hr
        have hdq := hdq rfl
        have hdin : allIn ⟨d0, d1, d2, d3, d4, d5⟩ 576 6 = true := by rw [hdq]; exact hok q hqm
        refine bbest_good b0 b1 b2 b3 b4 b5 most tol v0 v1 v2 v3 v4 v5 X S 0 d0 d1 d2 d3 d4 d5 A n c L.length (blowF L) (fun k => (dr k).2) (fun k => (dr k).1) (fun k => cmpP (V6.sub ⟨d0, d1, d2, d3, d4, d5⟩ ⟨(dr k).1 0, (dr k).1 1, (dr k).1 2, (dr k).1 3, (dr k).1 4, (dr k).1 5⟩)) w hT hFr hB' (fun k hk => (hdr k hk).1) hlen (.inr ⟨rfl, ?_, ?_, fun W g => hd W (hT.keep g) (hV.keep g), fun k hk => ?_⟩)
        · rw [← Bool.not_eq_true, hany]; exact hall
        · exact hhas.2 ⟨q, hqm, hX'.symm, hS'.symm⟩
        · have hpk := List.getElem?_eq_getElem hk
          have hpm := List.getElem_mem hk
          obtain ⟨e1, e2⟩ := (hdr k hk).2 _ hpk
          rw [hok _ hpm] at e1
          have e2 := e2 e1
          have hyin : allIn ⟨(dr k).1 0, (dr k).1 1, (dr k).1 2, (dr k).1 3, (dr k).1 4, (dr k).1 5⟩ 576 6 = true := by rw [e2]; exact hok _ hpm
          refine ⟨e1, ?_, fun W g => pcmp_ok _ _ _ _ _ _ _ _ _ _ _ _ W (hT.keep g).primes hdin hyin⟩
          have hmin := bestL_min hq _ hpm
          rw [leP_iff, ← hdq, ← e2] at hmin
          omega
end Go.Proofs.YtbaopniofhbjdaaDoor
