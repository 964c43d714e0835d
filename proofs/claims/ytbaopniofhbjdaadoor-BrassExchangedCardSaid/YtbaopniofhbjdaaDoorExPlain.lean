/-
  Two valves exchanged, in plain numbers.
-/
import Derived.Test.YtbaopniofhbjdaaDoorSwap
namespace Go.Proofs.YtbaopniofhbjdaaDoor
open Go.RowKit

def permK (i k j : Nat) : Nat := if j = i then k else if j = k then i else j
def exF (f : Nat → Nat → Int) (i k : Nat) : Nat → Nat → Int := fun j => f (permK i k j)
theorem permK_lt {i k j n : Nat} (hi : i < n) (hk : k < n) (hj : j < n) : permK i k j < n := by
  unfold permK; split
  · exact hk
  · split
    · exact hi
    · exact hj
def swapChk (s i k : Nat) : Bool := decide (0 ≤ swapI s i k) && (decide (i = k) || (List.range 4).all fun j => bitOn (swapI s i k).toNat j == bitOn s (permK i k j))
theorem swapChk_all : ∀ s, s < 16 → ∀ i, i < 4 → ∀ k, k < 4 → swapChk s i k = true := by decide +kernel
def swapChk2 (n s i k : Nat) : Bool := decide (swapI s i k < 2 ^ n) && (swapI (swapI s i k) i k == (s : Int))
theorem swapChk2_all : ∀ n, n < 5 → ∀ i, i < n → ∀ k, k < n → ∀ s, s < 2 ^ n → swapChk2 n s i k = true := by decide +kernel
theorem swap_nonneg {s i k : Nat} (hs : s < 16) (hi : i < 4) (hk : k < 4) : 0 ≤ swapI s i k := by
  have := swapChk_all s hs i hi k hk
  simp only [swapChk, Bool.and_eq_true, decide_eq_true_eq] at this
  exact this.1
theorem swap_bit {s i k : Nat} (hs : s < 16) (hi : i < 4) (hk : k < 4) (hne : i ≠ k) (j : Nat) (hj : j < 4) : bitOn (swapI s i k).toNat j = bitOn s (permK i k j) := by
  have := swapChk_all s hs i hi k hk
  simp only [swapChk, Bool.and_eq_true, Bool.or_eq_true, decide_eq_true_eq, List.all_eq_true, List.mem_range, beq_iff_eq] at this
  rcases this.2 with h | h
  · exact (hne h).elim
  · exact h j hj
theorem swap_lt {n s i k : Nat} (hn : n ≤ 4) (hi : i < n) (hk : k < n) (hs : s < 2 ^ n) : swapI s i k < ((2 ^ n : Nat) : Int) ∧ swapI (swapI s i k) i k = (s : Int) := by
  have := swapChk2_all n (by omega) i hi k hk s hs
  simp only [swapChk2, Bool.and_eq_true, decide_eq_true_eq, beq_iff_eq] at this
  refine ⟨?_, this.2⟩
  have h := this.1
  simpa using h
theorem vsum_ex (f : Nat → Nat → Int) {n s i k : Nat} (hn : n ≤ 4) (hi : i < n) (hk : k < n) (hne : i ≠ k) (hs : s < 16) (c : Nat) : vsum (exF f i k) (swapI s i k).toNat c n = vsum f s c n := by
  have hb := fun j hj => swap_bit hs (show i < 4 by omega) (show k < 4 by omega) hne j hj
  have b0 := hb 0 (by omega); have b1 := hb 1 (by omega); have b2 := hb 2 (by omega); have b3 := hb 3 (by omega)
  clear hb
  generalize (swapI s i k).toNat = S at *
  rcases (show n = 2 ∨ n = 3 ∨ n = 4 by omega) with rfl | rfl | rfl
  all_goals
    rcases (show i = 0 ∨ i = 1 ∨ i = 2 ∨ i = 3 by omega) with rfl | rfl | rfl | rfl <;> rcases (show k = 0 ∨ k = 1 ∨ k = 2 ∨ k = 3 by omega) with rfl | rfl | rfl | rfl <;> first | omega | (simp only [permK] at b0 b1 b2 b3; simp [vsum, exF, permK] at *; simp only [b0, b1, b2, b3]; omega)
theorem sound_ex (b : V6) (f : Nat → Nat → Int) {n s i k : Nat} (hn : n ≤ 4) (hi : i < n) (hk : k < n) (hne : i ≠ k) (hs : s < 16) (x : Nat) : soundV b (exF f i k) n x (swapI s i k).toNat = soundV b f n x s := by
  have h := fun c => vsum_ex f hn hi hk hne hs c
  simp only [soundV, soundF, h]
theorem plays_ex (b : V6) (f : Nat → Nat → Int) {n s i k : Nat} (hn : n ≤ 4) (hi : i < n) (hk : k < n) (hne : i ≠ k) (hs : s < 16) (tol : Int) (v : V6) (x : Nat) : playsB b (exF f i k) n tol v x (swapI s i k).toNat = playsB b f n tol v x s := by
  unfold playsB
  rw [sound_ex b f hn hi hk hne hs]
theorem valvesOk_mk {f : Nat → Nat → Int} {n : Nat} (h : ∀ j, j < n → allIn (valveV f j) 576 6 = true ∧ 0 < cmpP (valveV f j)) : valvesOk f n = true := by
  induction n with
  | zero => rfl
  | succ n ih => exact valvesOk_next (ih fun j hj => h j (by omega)) (h n (by omega)).1 (h n (by omega)).2
theorem hornOk_ex {b : V6} {f : Nat → Nat → Int} {n i k : Nat} {most tol : Int} (h : hornOk b n f most tol = true) (hi : i < n) (hk : k < n) : hornOk b n (exF f i k) most tol = true := by
  obtain ⟨h1, h2, h3, h4, h5, h6, h7⟩ := hornOk_parts h
  rw [hornOk_in h1 ⟨h2, h3, h4, h5, h6⟩]
  exact valvesOk_mk fun j hj => (valvesOk_at (f := f) (k := permK i k j) h7 (permK_lt hi hk hj) :)
/-- A blow with two bits exchanged. -/
def swapB {m n : Nat} (i k : Nat) (hn : n ≤ 4) (hi : i < n) (hk : k < n) (p : BlowIx m (2 ^ n)) : BlowIx m (2 ^ n) := ⟨(p.1.1, (swapI p.1.2 i k).toNat), p.2.1, by
  have h1 := swap_lt hn hi hk p.2.2
  have h2 := swap_nonneg (s := p.1.2) (i := i) (k := k) (Nat.lt_of_lt_of_le p.2.2 (Nat.pow_le_pow_right (by omega) hn)) (by omega) (by omega)
  omega⟩
theorem pow_le16 {n : Nat} (hn : n ≤ 4) : 2 ^ n ≤ 16 := Nat.pow_le_pow_right (by omega) hn
theorem swapB_swapB {m n i k : Nat} (hn : n ≤ 4) (hi : i < n) (hk : k < n) (p : BlowIx m (2 ^ n)) : swapB i k hn hi hk (swapB i k hn hi hk p) = p := by
  obtain ⟨⟨x, s⟩, hx, hs⟩ := p
  have h1 := swap_lt hn hi hk hs
  have h2 := swap_nonneg (s := s) (i := i) (k := k) (Nat.lt_of_lt_of_le hs (pow_le16 hn)) (by omega) (by omega)
  simp only [swapB, Subtype.mk.injEq, Prod.mk.injEq, true_and]
  rw [Int.toNat_of_nonneg h2, h1.2]
  rfl
theorem findAll_nodup (b : V6) (f : Nat → Nat → Int) (n : Nat) (most tol : Int) (v : V6) : (findAll b f n most tol v).Nodup := by
  refine (findAll_sorted b f n most tol v).imp ?_
  rintro p q h rfl
  unfold ltB at h
  omega
theorem findAll_ex {b : V6} {f : Nat → Nat → Int} {n i k : Nat} {most tol : Int} {v : V6} (h : hornOk b n f most tol = true) (hv : allIn v 48 6 = true) (hi : i < n) (hk : k < n) (hne : i ≠ k) : (findAll b (exF f i k) n most tol v).length = (findAll b f n most tol v).length := by
  obtain ⟨-, hn, -, -, -, -, -⟩ := hornOk_parts h
  have h' := hornOk_ex (i := i) (k := k) h hi hk
  have g : goodFV b f n most tol v = true := by simp [goodFV, h, hv]
  have g' : goodFV b (exF f i k) n most tol v = true := by simp [goodFV, h', hv]
  have hp : (findAll b (exF f i k) n most tol v).Perm ((findAll b f n most tol v).map (swapB i k hn hi hk)) := by
    refine (List.perm_ext_iff_of_nodup (findAll_nodup _ _ _ _ _ _) ?_).2 fun p => ?_
    · refine List.Pairwise.map _ (fun p q hpq e => hpq ?_) (findAll_nodup b f n most tol v)
      have := congrArg (swapB i k hn hi hk) e
      rwa [swapB_swapB, swapB_swapB] at this
    · rw [mem_findAll, List.mem_map]
      constructor
      · rintro ⟨-, hpl⟩
        refine ⟨swapB i k hn hi hk p, mem_findAll.2 ⟨g, ?_⟩, swapB_swapB hn hi hk p⟩
        have hlt := (swapB i k hn hi hk p).2.2
        have e := plays_ex b f hn hi hk hne (Nat.lt_of_lt_of_le hlt (pow_le16 hn)) tol v (p.1.1 + 1)
        have e2 := congrArg (fun q : BlowIx most.toNat (2 ^ n) => q.1.2) (swapB_swapB hn hi hk p)
        change (swapI ((swapB i k hn hi hk p).1.2 : Int) i k).toNat = p.1.2 at e2
        rw [e2] at e
        exact e.symm.trans hpl
      · rintro ⟨q, hq, rfl⟩
        refine ⟨g', ?_⟩
        have e := plays_ex b f hn hi hk hne (Nat.lt_of_lt_of_le q.2.2 (pow_le16 hn)) tol v (q.1.1 + 1)
        exact e.trans (mem_findAll.1 hq).2
  rw [hp.length_eq, List.length_map]
end Go.Proofs.YtbaopniofhbjdaaDoor
