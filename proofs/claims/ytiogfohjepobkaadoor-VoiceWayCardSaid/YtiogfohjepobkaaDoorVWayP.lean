/-
  schismalaw14.way, the plain side: what a way is, and that what Way returns is a shortest one.
-/
import Derived.Test.YtiogfohjepobkaaDoorVHd
namespace Go.Proofs.YtiogfohjepobkaaDoor
open Go.RowKit

/-- An index is in range. -/
def wIn (n : Nat) (x : Int) : Bool := decide (0 ≤ x ∧ x < (n : Int))
/-- Has says yes of a note. -/
def wHas (vok : Bool) (lo hi : V6) (f : Nat → Nat → Int) (k : Nat) : Bool := vok && (allIn ⟨f k 0, f k 1, f k 2, f k 3, f k 4, f k 5⟩ 48 6 && hasB lo hi ⟨f k 0, f k 1, f k 2, f k 3, f k 4, f k 5⟩)
/-- The index at place i of a list fits. -/
def wStep (vok : Bool) (lo hi : V6) (st : Int) (n : Nat) (f : Nat → Nat → Int) (u : Nat → Int) : Nat → Bool
  | 0 => wIn n (u 0) && wHas vok lo hi f (u 0).toNat
  | i + 1 => wIn n (u (i + 1)) && (wHas vok lo hi f (u (i + 1)).toNat && findsB st ⟨f (u i).toNat 0, f (u i).toNat 1, f (u i).toNat 2, f (u i).toNat 3, f (u i).toNat 4, f (u i).toNat 5⟩ ⟨f (u (i + 1)).toNat 0, f (u (i + 1)).toNat 1, f (u (i + 1)).toNat 2, f (u (i + 1)).toNat 3, f (u (i + 1)).toNat 4, f (u (i + 1)).toNat 5⟩)
/-- The first i indices fit. -/
def wAll (vok : Bool) (lo hi : V6) (st : Int) (n : Nat) (f : Nat → Nat → Int) (u : Nat → Int) : Nat → Bool
  | 0 => true
  | i + 1 => wAll vok lo hi st n f u i && wStep vok lo hi st n f u i
/-- A list of m indices is a way. -/
def wayB (vok : Bool) (lo hi : V6) (st : Int) (n : Nat) (f : Nat → Nat → Int) (fr tz : Int) (u : Nat → Int) (m : Nat) : Bool := decide (0 < m ∧ u 0 = fr ∧ u (m - 1) = tz) && wAll vok lo hi st n f u m
theorem wAll_at {vok : Bool} {lo hi : V6} {st : Int} {n : Nat} {f : Nat → Nat → Int} {u : Nat → Int} {m : Nat} (h : wAll vok lo hi st n f u m = true) (i : Nat) (hi' : i < m) : wStep vok lo hi st n f u i = true := by
  induction m with
  | zero => omega
  | succ m ih =>
    simp only [wAll, Bool.and_eq_true] at h
    by_cases e : i = m
    · subst e; exact h.2
    · exact ih h.1 (by omega)
theorem wAll_no {vok : Bool} {lo hi : V6} {st : Int} {n : Nat} {f : Nat → Nat → Int} {u : Nat → Int} {m i : Nat} (hi' : i < m) (h : wStep vok lo hi st n f u i = false) : wAll vok lo hi st n f u m = false := by
  cases e : wAll vok lo hi st n f u m with
  | false => rfl
  | true => rw [wAll_at e i hi'] at h; cases h
theorem wStep_in {vok : Bool} {lo hi : V6} {st : Int} {n : Nat} {f : Nat → Nat → Int} {u : Nat → Int} {i : Nat} (h : wStep vok lo hi st n f u i = true) : wIn n (u i) = true ∧ wHas vok lo hi f (u i).toNat = true := by
  cases i with
  | zero => simpa only [wStep, Bool.and_eq_true] using h
  | succ i => simp only [wStep, Bool.and_eq_true] at h; exact ⟨h.1, h.2.1⟩
theorem RowsAt.sixAt {w : World} {n k b off : Nat} {f : Nat → Nat → Int} (h : RowsAt w 6 (some ⟨b, off, none⟩) n f) (hk : k < n) : w.cell? ⟨b, off + k * 6, none⟩ = some (.int .i64 (f k 0)) ∧ w.cell? ⟨b, off + k * 6 + 1, none⟩ = some (.int .i64 (f k 1)) ∧ w.cell? ⟨b, off + k * 6 + 2, none⟩ = some (.int .i64 (f k 2)) ∧ w.cell? ⟨b, off + k * 6 + 3, none⟩ = some (.int .i64 (f k 3)) ∧ w.cell? ⟨b, off + k * 6 + 4, none⟩ = some (.int .i64 (f k 4)) ∧ w.cell? ⟨b, off + k * 6 + 5, none⟩ = some (.int .i64 (f k 5)) := by
  obtain ⟨b', off', e, _, h2⟩ := h.six hk
  cases e
  exact h2
theorem wayB_parts {vok : Bool} {lo hi : V6} {st : Int} {n : Nat} {f : Nat → Nat → Int} {fr tz : Int} {u : Nat → Int} {m : Nat} (h : wayB vok lo hi st n f fr tz u m = true) : (0 < m ∧ u 0 = fr ∧ u (m - 1) = tz) ∧ wAll vok lo hi st n f u m = true := by
  simpa only [wayB, Bool.and_eq_true, decide_eq_true_eq] using h
theorem wIn_parts {n : Nat} {x : Int} (h : wIn n x = true) : 0 ≤ x ∧ x < (n : Int) := by simpa only [wIn, decide_eq_true_eq] using h
theorem wHas_parts {vok : Bool} {lo hi : V6} {f : Nat → Nat → Int} {k : Nat} (h : wHas vok lo hi f k = true) : hasB lo hi ⟨f k 0, f k 1, f k 2, f k 3, f k 4, f k 5⟩ = true := by
  simp only [wHas, Bool.and_eq_true] at h; exact h.2.2
theorem wAll_wk {vok : Bool} {lo hi : V6} {st : Int} {n tz : Nat} {f : Nat → Nat → Int} {u : Nat → Int} {m : Nat} (h : wAll vok lo hi st n f u (m + 1) = true) (ht : u m = (tz : Int)) : ∀ d, d ≤ m → Wk (joinB lo hi st f) n tz d (u (m - d)).toNat := by
  intro d
  induction d with
  | zero => intro _; show (u (m - 0)).toNat = tz; rw [Nat.sub_zero, ht]; rfl
  | succ d ih =>
    intro hd
    obtain ⟨i, hi'⟩ : ∃ i, m - d = i + 1 := ⟨m - d - 1, by omega⟩
    have e0 : m - (d + 1) = i := by omega
    have hw := ih (by omega)
    rw [hi'] at hw
    rw [e0]
    have s1 := wAll_at h (i + 1) (by omega)
    have s0 := wStep_in (wAll_at h i (by omega))
    have b1 := wIn_parts (wStep_in s1).1
    simp only [wStep, Bool.and_eq_true] at s1
    refine ⟨(u (i + 1)).toNat, by omega, ?_, hw⟩
    simp only [joinB, Bool.and_eq_true]
    exact ⟨wHas_parts s0.2, s1.2.2⟩
theorem wayB_wk {vok : Bool} {lo hi : V6} {st : Int} {n fr tz : Nat} {f : Nat → Nat → Int} {u : Nat → Int} {m : Nat} (h : wayB vok lo hi st n f (fr : Int) (tz : Int) u m = true) : 0 < m ∧ Wk (joinB lo hi st f) n tz (m - 1) fr ∧ hasB lo hi ⟨f tz 0, f tz 1, f tz 2, f tz 3, f tz 4, f tz 5⟩ = true := by
  obtain ⟨⟨h0, h1, h2⟩, h3⟩ := wayB_parts h
  obtain ⟨m, rfl⟩ : ∃ k, m = k + 1 := ⟨m - 1, by omega⟩
  rw [show m + 1 - 1 = m from rfl] at h2 ⊢
  have hw := wAll_wk h3 h2 m (Nat.le_refl m)
  rw [Nat.sub_self, h1] at hw
  have hh := wHas_parts (wStep_in (wAll_at h3 m (by omega))).2
  rw [h2] at hh
  exact ⟨by omega, hw, hh⟩
theorem wayB_none {vok : Bool} {lo hi : V6} {st : Int} {n fr tz : Nat} {f : Nat → Nat → Int} {u : Nat → Int} {m : Nat} {far : Nat → Int} (hF : FarOk (joinB lo hi st f) n tz far) (hfr : fr < n) (hz : far fr < 0) : wayB vok lo hi st n f (fr : Int) (tz : Int) u m = false := by
  cases e : wayB vok lo hi st n f (fr : Int) (tz : Int) u m with
  | false => rfl
  | true =>
    have hw := (wayB_wk e).2.1
    rcases hF fr hfr with ⟨_, h2⟩ | ⟨d, h1, _⟩
    · exact (h2 _ hw).elim
    · omega
theorem wayB_noHas {vok : Bool} {lo hi : V6} {st : Int} {n fr tz : Nat} {f : Nat → Nat → Int} {u : Nat → Int} {m : Nat} (hz : hasB lo hi ⟨f tz 0, f tz 1, f tz 2, f tz 3, f tz 4, f tz 5⟩ = false) : wayB vok lo hi st n f (fr : Int) (tz : Int) u m = false := by
  cases e : wayB vok lo hi st n f (fr : Int) (tz : Int) u m with
  | false => rfl
  | true => rw [(wayB_wk e).2.2] at hz; cases hz
theorem wayB_len {vok : Bool} {lo hi : V6} {st : Int} {n fr tz : Nat} {f : Nat → Nat → Int} {u : Nat → Int} {m : Nat} {far : Nat → Int} (hF : FarOk (joinB lo hi st f) n tz far) (hfr : fr < n) (h : wayB vok lo hi st n f (fr : Int) (tz : Int) u m = true) : far fr + 1 ≤ (m : Int) := by
  obtain ⟨h0, hw, _⟩ := wayB_wk h
  rcases hF fr hfr with ⟨_, h2⟩ | ⟨d, h1, _, h3⟩
  · exact (h2 _ hw).elim
  · have : ¬ m - 1 < d := fun hlt => h3 _ hlt hw
    omega
theorem far_has {lo hi : V6} {st : Int} {n tz : Nat} {f : Nat → Nat → Int} {far : Nat → Int} (hF : FarOk (joinB lo hi st f) n tz far) (hh : hasB lo hi ⟨f tz 0, f tz 1, f tz 2, f tz 3, f tz 4, f tz 5⟩ = true) {i : Nat} (hi' : i < n) (h0 : 0 ≤ far i) : hasB lo hi ⟨f i 0, f i 1, f i 2, f i 3, f i 4, f i 5⟩ = true := by
  rcases hF i hi' with ⟨h1, _⟩ | ⟨d, h1, h2, _⟩
  · omega
  · cases d with
    | zero => rw [show i = tz from h2]; exact hh
    | succ d =>
      obtain ⟨k, _, hj, _⟩ := h2
      simp only [joinB, Bool.and_eq_true] at hj
      exact hj.1
theorem path_wayB {lo hi : V6} {st : Int} {n fr tz : Nat} {f : Nat → Nat → Int} {far : Nat → Int} (hF : FarOk (joinB lo hi st f) n tz far) (hh : hasB lo hi ⟨f tz 0, f tz 1, f tz 2, f tz 3, f tz 4, f tz 5⟩ = true) (hv : vecsOk f n = true) (hfr : fr < n) (h0 : 0 ≤ far fr) {l : List Nat} {a : Nat} (hp : Path (joinB lo hi st f) n far fr l a) :
    ∀ u : Nat → Int, (∀ (j k : Nat), l[j]? = some k → u j = (k : Int)) → 0 < l.length ∧ u 0 = (fr : Int) ∧ u (l.length - 1) = (a : Int) ∧ wAll true lo hi st n f u l.length = true := by
  have step : ∀ k, k < n → 0 ≤ far k → wIn n (k : Int) = true ∧ wHas true lo hi f k = true := fun k hk hz =>
    ⟨decide_eq_true ⟨by omega, by omega⟩, by simp only [wHas, vecsOk_at hv k hk, far_has hF hh hk hz, Bool.and_self]⟩
  induction hp with
  | one =>
    intro u hu
    have e := hu 0 fr rfl
    obtain ⟨s1, s2⟩ := step fr hfr h0
    refine ⟨by simp, e, e, ?_⟩
    show (true && (wIn n (u 0) && wHas true lo hi f (u 0).toNat)) = true
    rw [e, s1, show ((fr : Int)).toNat = fr from rfl, s2]; rfl
  | @snoc l a k h1 h2 h3 h4 h5 ih =>
    intro u hu
    obtain ⟨i0, i1, i2, i3⟩ := ih u (fun j x hx => hu j x (by rw [List.getElem?_append_left (List.getElem?_eq_some_iff.1 hx).1]; exact hx))
    have e := hu l.length k (by simp)
    have hf := (Path.snoc h1 h2 h3 h4 h5).facts hfr h0
    obtain ⟨s1, s2⟩ := step k h3 hf.2.2
    rw [List.length_append, List.length_singleton]
    refine ⟨by omega, i1, e, ?_⟩
    show (wAll true lo hi st n f u l.length && wStep true lo hi st n f u l.length) = true
    rw [i3, Bool.true_and]
    obtain ⟨L, hL⟩ : ∃ L, l.length = L + 1 := ⟨l.length - 1, by omega⟩
    rw [hL] at i2 e ⊢
    rw [show L + 1 - 1 = L from rfl] at i2
    simp only [nextB, joinB, Bool.and_eq_true] at h4
    show (wIn n (u (L + 1)) && (wHas true lo hi f (u (L + 1)).toNat && findsB st ⟨f (u L).toNat 0, f (u L).toNat 1, f (u L).toNat 2, f (u L).toNat 3, f (u L).toNat 4, f (u L).toNat 5⟩ ⟨f (u (L + 1)).toNat 0, f (u (L + 1)).toNat 1, f (u (L + 1)).toNat 2, f (u (L + 1)).toNat 3, f (u (L + 1)).toNat 4, f (u (L + 1)).toNat 5⟩)) = true
    rw [e, i2, s1, show ((k : Int)).toNat = k from rfl, show ((a : Int)).toNat = a from rfl, s2, h4.2.2]; rfl
/-- What Way returns is a way, and no longer than there are notes. -/
theorem wayOk_wayB {lo hi : V6} {st : Int} {n fr tz : Nat} {f : Nat → Nat → Int} {far : Nat → Int} (hF : FarOk (joinB lo hi st f) n tz far) (hh : hasB lo hi ⟨f tz 0, f tz 1, f tz 2, f tz 3, f tz 4, f tz 5⟩ = true) (hv : vecsOk f n = true) (hfr : fr < n) (h0 : 0 ≤ far fr) (hn : ∀ y, y < n → far y + 1 ≤ (n : Int)) {l : List Nat} (hp : WayOk (joinB lo hi st f) n far fr l) (u : Nat → Int) (hu : ∀ (j k : Nat), l[j]? = some k → u j = (k : Int)) :
    wayB true lo hi st n f (fr : Int) (tz : Int) u l.length = true ∧ (l.length : Int) = far fr + 1 ∧ l.length ≤ n := by
  obtain ⟨a, ha, hz⟩ := hp
  obtain ⟨f1, f2, f3⟩ := ha.facts hfr h0
  have hat : a = tz := by
    rcases hF a f1 with ⟨h1, _⟩ | ⟨d, h1, h2, _⟩
    · omega
    · obtain rfl : d = 0 := by omega
      exact h2
  subst hat
  obtain ⟨p0, p1, p2, p3⟩ := path_wayB hF hh hv hfr h0 ha u hu
  have := hn fr hfr
  refine ⟨?_, by omega, by omega⟩
  simp only [wayB, p3, Bool.and_true, decide_eq_true_eq]
  exact ⟨p0, p1, p2⟩
end Go.Proofs.YtiogfohjepobkaaDoor
