/-
  schismalaw14.way, the plain side: what a way is, and that what Way returns is a shortest one.
  Package voice and the reference come to the same: Breaths, Line, Way.
  The law VoiceMatchesReference.
-/
import Derived.Test.YtiogfohjepobkaaDoorVHd
import Derived.Test.YtiogfohjepobkaaDoorRBrR
import Derived.Test.YtiogfohjepobkaaDoorRLine
import Derived.Test.YtiogfohjepobkaaDoorRWayA
namespace Go.Proofs.YtiogfohjepobkaaDoor
open Go.RowKit

/-- An index is in range. -/
def wIn (n : Nat) (x : Int) : Bool := decide (0 ≤ x ∧ x < (n : Int))
/-- Has says yes of a note. -/
def wHas (vok : Bool) (lo hi : V6) (f : Nat → Nat → Int) (k : Nat) : Bool := vok && (allIn ⟨f k 0, f k 1, f k 2, f k 3, f k 4, f k 5⟩ 48 6 && hasB lo hi ⟨f k 0, f k 1, f k 2, f k 3, f k 4, f k 5⟩)
/-- The index at place i of a list fits. -/
def wStep (vok : Bool) (lo hi : V6) (st : Int) (n : Nat) (f : Nat → Nat → Int) (u : Nat → Int) : Nat → Bool
  | 0 => wIn n (u 0) && wHas vok lo hi f (u 0).toNat
  | i + 1 => wIn n (u (i + 1)) && (wHas vok lo hi f (u (i + 1)).toNat && findsB st ⟨f (u i).toNat 0, f (u i).toNat 1, f (u i).toNat 2, f (u i).toNat 3, f (u i).toNat 4, f (u i).toNat 5⟩ ⟨f (u (i + 1)).toNat 0, f (u (i + 1)).toNat 1, f (u (i + 1)).toNat 2, f (u (i + 1)).toNat 3, f (u (i + 1)).toNat 4, f (u (i + 1)).toNat 5⟩)
/-- The first i indices fit. -/
def wAll (vok : Bool) (lo hi : V6) (st : Int) (n : Nat) (f : Nat → Nat → Int) (u : Nat → Int) : Nat → Bool
  | 0 => true
  | i + 1 => wAll vok lo hi st n f u i && wStep vok lo hi st n f u i
/-- A list of m indices is a way. -/
def wayB (vok : Bool) (lo hi : V6) (st : Int) (n : Nat) (f : Nat → Nat → Int) (fr tz : Int) (u : Nat → Int) (m : Nat) : Bool := decide (0 < m ∧ u 0 = fr ∧ u (m - 1) = tz) && wAll vok lo hi st n f u m
theorem wAll_at {vok : Bool} {lo hi : V6} {st : Int} {n : Nat} {f : Nat → Nat → Int} {u : Nat → Int} {m : Nat} (h : wAll vok lo hi st n f u m = true) (i : Nat) (hi' : i < m) : wStep vok lo hi st n f u i = true := by
  induction m with
  | zero => omega
  | succ m ih =>
    simp only [wAll, Bool.and_eq_true] at h
    by_cases e : i = m
    · subst e; exact h.2
    · exact ih h.1 (by omega)
theorem wAll_no {vok : Bool} {lo hi : V6} {st : Int} {n : Nat} {f : Nat → Nat → Int} {u : Nat → Int} {m i : Nat} (hi' : i < m) (h : wStep vok lo hi st n f u i = false) : wAll vok lo hi st n f u m = false := by
  cases e : wAll vok lo hi st n f u m with
  | false => rfl
  | true => rw [wAll_at e i hi'] at h; cases h
theorem wStep_in {vok : Bool} {lo hi : V6} {st : Int} {n : Nat} {f : Nat → Nat → Int} {u : Nat → Int} {i : Nat} (h : wStep vok lo hi st n f u i = true) : wIn n (u i) = true ∧ wHas vok lo hi f (u i).toNat = true := by
  cases i with
  | zero => simpa only [wStep, Bool.and_eq_true] using h
  | succ i => simp only [wStep, Bool.and_eq_true] at h; exact ⟨h.1, h.2.1⟩
theorem RowsAt.sixAt {w : World} {n k b off : Nat} {f : Nat → Nat → Int} (h : RowsAt w 6 (some ⟨b, off, none⟩) n f) (hk : k < n) : w.cell? ⟨b, off + k * 6, none⟩ = some (.int .i64 (f k 0)) ∧ w.cell? ⟨b, off + k * 6 + 1, none⟩ = some (.int .i64 (f k 1)) ∧ w.cell? ⟨b, off + k * 6 + 2, none⟩ = some (.int .i64 (f k 2)) ∧ w.cell? ⟨b, off + k * 6 + 3, none⟩ = some (.int .i64 (f k 3)) ∧ w.cell? ⟨b, off + k * 6 + 4, none⟩ = some (.int .i64 (f k 4)) ∧ w.cell? ⟨b, off + k * 6 + 5, none⟩ = some (.int .i64 (f k 5)) := by
  obtain ⟨b', off', e, _, h2⟩ := h.six hk
  cases e
  exact h2
theorem wayB_parts {vok : Bool} {lo hi : V6} {st : Int} {n : Nat} {f : Nat → Nat → Int} {fr tz : Int} {u : Nat → Int} {m : Nat} (h : wayB vok lo hi st n f fr tz u m = true) : (0 < m ∧ u 0 = fr ∧ u (m - 1) = tz) ∧ wAll vok lo hi st n f u m = true := by
  simpa only [wayB, Bool.and_eq_true, decide_eq_true_eq] using h
theorem wIn_parts {n : Nat} {x : Int} (h : wIn n x = true) : 0 ≤ x ∧ x < (n : Int) := by simpa only [wIn, decide_eq_true_eq] using h
theorem wHas_parts {vok : Bool} {lo hi : V6} {f : Nat → Nat → Int} {k : Nat} (h : wHas vok lo hi f k = true) : hasB lo hi ⟨f k 0, f k 1, f k 2, f k 3, f k 4, f k 5⟩ = true := by
  simp only [wHas, Bool.and_eq_true] at h; exact h.2.2
theorem wAll_wk {vok : Bool} {lo hi : V6} {st : Int} {n tz : Nat} {f : Nat → Nat → Int} {u : Nat → Int} {m : Nat} (h : wAll vok lo hi st n f u (m + 1) = true) (ht : u m = (tz : Int)) : ∀ d, d ≤ m → Wk (joinB lo hi st f) n tz d (u (m - d)).toNat := by
  intro d
  induction d with
  | zero => intro _; show (u (m - 0)).toNat = tz; rw [Nat.sub_zero, ht]; rfl
  | succ d ih =>
    intro hd
    obtain ⟨i, hi'⟩ : ∃ i, m - d = i + 1 := ⟨m - d - 1, by omega⟩
    have e0 : m - (d + 1) = i := by omega
    have hw := ih (by omega)
    rw [hi'] at hw
    rw [e0]
    have s1 := wAll_at h (i + 1) (by omega)
    have s0 := wStep_in (wAll_at h i (by omega))
    have b1 := wIn_parts (wStep_in s1).1
    simp only [wStep, Bool.and_eq_true] at s1
    refine ⟨(u (i + 1)).toNat, by omega, ?_, hw⟩
    simp only [joinB, Bool.and_eq_true]
    exact ⟨wHas_parts s0.2, s1.2.2⟩
theorem wayB_wk {vok : Bool} {lo hi : V6} {st : Int} {n fr tz : Nat} {f : Nat → Nat → Int} {u : Nat → Int} {m : Nat} (h : wayB vok lo hi st n f (fr : Int) (tz : Int) u m = true) : 0 < m ∧ Wk (joinB lo hi st f) n tz (m - 1) fr ∧ hasB lo hi ⟨f tz 0, f tz 1, f tz 2, f tz 3, f tz 4, f tz 5⟩ = true := by
  obtain ⟨⟨z0, z1, h2⟩, h3⟩ := wayB_parts h
  obtain ⟨m, rfl⟩ : ∃ k, m = k + 1 := ⟨m - 1, by omega⟩
  rw [show m + 1 - 1 = m from rfl] at h2 ⊢
  have hw := wAll_wk h3 h2 m (Nat.le_refl m)
  rw [Nat.sub_self, z1] at hw
  have hh := wHas_parts (wStep_in (wAll_at h3 m (by omega))).2
  rw [h2] at hh
  exact ⟨by omega, hw, hh⟩
theorem wayB_none {vok : Bool} {lo hi : V6} {st : Int} {n fr tz : Nat} {f : Nat → Nat → Int} {u : Nat → Int} {m : Nat} {far : Nat → Int} (hF : FarOk (joinB lo hi st f) n tz far) (hfr : fr < n) (hz : far fr < 0) : wayB vok lo hi st n f (fr : Int) (tz : Int) u m = false := by
  cases e : wayB vok lo hi st n f (fr : Int) (tz : Int) u m with
  | false => rfl
  | true =>
    have hw := (wayB_wk e).2.1
    rcases hF fr hfr with ⟨_, h2⟩ | ⟨d, z1, _⟩
    · exact (h2 _ hw).elim
    · omega
theorem wayB_noHas {vok : Bool} {lo hi : V6} {st : Int} {n fr tz : Nat} {f : Nat → Nat → Int} {u : Nat → Int} {m : Nat} (hz : hasB lo hi ⟨f tz 0, f tz 1, f tz 2, f tz 3, f tz 4, f tz 5⟩ = false) : wayB vok lo hi st n f (fr : Int) (tz : Int) u m = false := by
  cases e : wayB vok lo hi st n f (fr : Int) (tz : Int) u m with
  | false => rfl
  | true => rw [(wayB_wk e).2.2] at hz; cases hz
theorem wayB_len {vok : Bool} {lo hi : V6} {st : Int} {n fr tz : Nat} {f : Nat → Nat → Int} {u : Nat → Int} {m : Nat} {far : Nat → Int} (hF : FarOk (joinB lo hi st f) n tz far) (hfr : fr < n) (h : wayB vok lo hi st n f (fr : Int) (tz : Int) u m = true) : far fr + 1 ≤ (m : Int) := by
  obtain ⟨z0, hw, _⟩ := wayB_wk h
  rcases hF fr hfr with ⟨_, h2⟩ | ⟨d, z1, _, h3⟩
  · exact (h2 _ hw).elim
  · have : ¬ m - 1 < d := fun hlt => h3 _ hlt hw
    omega
theorem far_has {lo hi : V6} {st : Int} {n tz : Nat} {f : Nat → Nat → Int} {far : Nat → Int} (hF : FarOk (joinB lo hi st f) n tz far) (hh : hasB lo hi ⟨f tz 0, f tz 1, f tz 2, f tz 3, f tz 4, f tz 5⟩ = true) {i : Nat} (hi' : i < n) (z0 : 0 ≤ far i) : hasB lo hi ⟨f i 0, f i 1, f i 2, f i 3, f i 4, f i 5⟩ = true := by
  rcases hF i hi' with ⟨z1, _⟩ | ⟨d, z1, h2, _⟩
  · omega
  · cases d with
    | zero => rw [show i = tz from h2]; exact hh
    | succ d =>
      obtain ⟨k, _, hj, _⟩ := h2
      simp only [joinB, Bool.and_eq_true] at hj
      exact hj.1
theorem path_wayB {lo hi : V6} {st : Int} {n fr tz : Nat} {f : Nat → Nat → Int} {far : Nat → Int} (hF : FarOk (joinB lo hi st f) n tz far) (hh : hasB lo hi ⟨f tz 0, f tz 1, f tz 2, f tz 3, f tz 4, f tz 5⟩ = true) (hv : vecsOk f n = true) (hfr : fr < n) (z0 : 0 ≤ far fr) {l : List Nat} {a : Nat} (hp : Path (joinB lo hi st f) n far fr l a) :
    ∀ u : Nat → Int, (∀ (j k : Nat), l[j]? = some k → u j = (k : Int)) → 0 < l.length ∧ u 0 = (fr : Int) ∧ u (l.length - 1) = (a : Int) ∧ wAll true lo hi st n f u l.length = true := by
  have step : ∀ k, k < n → 0 ≤ far k → wIn n (k : Int) = true ∧ wHas true lo hi f k = true := fun k hk hz =>
    ⟨decide_eq_true ⟨by omega, by omega⟩, by simp only [wHas, vecsOk_at hv k hk, far_has hF hh hk hz, Bool.and_self]⟩
  induction hp with
  | one =>
    intro u hu
    have e := hu 0 fr rfl
    obtain ⟨s1, s2⟩ := step fr hfr z0
    refine ⟨by simp, e, e, ?_⟩
    show (true && (wIn n (u 0) && wHas true lo hi f (u 0).toNat)) = true
    rw [e, s1, show ((fr : Int)).toNat = fr from rfl, s2]; rfl
  | @snoc l a k z1 h2 h3 h4 h5 ih =>
    intro u hu
    obtain ⟨i0, i1, i2, i3⟩ := ih u (fun j x hx => hu j x (by rw [List.getElem?_append_left (List.getElem?_eq_some_iff.1 hx).1]; exact hx))
    have e := hu l.length k (by simp)
    have hf := (Path.snoc z1 h2 h3 h4 h5).facts hfr z0
    obtain ⟨s1, s2⟩ := step k h3 hf.2.2
    rw [List.length_append, List.length_singleton]
    refine ⟨by omega, i1, e, ?_⟩
    show (wAll true lo hi st n f u l.length && wStep true lo hi st n f u l.length) = true
    rw [i3, Bool.true_and]
    obtain ⟨L, hL⟩ : ∃ L, l.length = L + 1 := ⟨l.length - 1, by omega⟩
    rw [hL] at i2 e ⊢
    rw [show L + 1 - 1 = L from rfl] at i2
    simp only [nextB, joinB, Bool.and_eq_true] at h4
    show (wIn n (u (L + 1)) && (wHas true lo hi f (u (L + 1)).toNat && findsB st ⟨f (u L).toNat 0, f (u L).toNat 1, f (u L).toNat 2, f (u L).toNat 3, f (u L).toNat 4, f (u L).toNat 5⟩ ⟨f (u (L + 1)).toNat 0, f (u (L + 1)).toNat 1, f (u (L + 1)).toNat 2, f (u (L + 1)).toNat 3, f (u (L + 1)).toNat 4, f (u (L + 1)).toNat 5⟩)) = true
    rw [e, i2, s1, show ((k : Int)).toNat = k from rfl, show ((a : Int)).toNat = a from rfl, s2, h4.2.2]; rfl
/-- What Way returns is a way, and no longer than there are notes. -/
theorem wayOk_wayB {lo hi : V6} {st : Int} {n fr tz : Nat} {f : Nat → Nat → Int} {far : Nat → Int} (hF : FarOk (joinB lo hi st f) n tz far) (hh : hasB lo hi ⟨f tz 0, f tz 1, f tz 2, f tz 3, f tz 4, f tz 5⟩ = true) (hv : vecsOk f n = true) (hfr : fr < n) (z0 : 0 ≤ far fr) (hn : ∀ y, y < n → far y + 1 ≤ (n : Int)) {l : List Nat} (hp : WayOk (joinB lo hi st f) n far fr l) (u : Nat → Int) (hu : ∀ (j k : Nat), l[j]? = some k → u j = (k : Int)) :
    wayB true lo hi st n f (fr : Int) (tz : Int) u l.length = true ∧ (l.length : Int) = far fr + 1 ∧ l.length ≤ n := by
  obtain ⟨a, ha, hz⟩ := hp
  obtain ⟨f1, f2, f3⟩ := ha.facts hfr z0
  have hat : a = tz := by
    rcases hF a f1 with ⟨z1, _⟩ | ⟨d, z1, h2, _⟩
    · omega
    · obtain rfl : d = 0 := by omega
      exact h2
  subst hat
  obtain ⟨p0, p1, p2, p3⟩ := path_wayB hF hh hv hfr z0 ha u hu
  have := hn fr hfr
  refine ⟨?_, by omega, by omega⟩
  simp only [wayB, p3, Bool.and_true, decide_eq_true_eq]
  exact ⟨p0, p1, p2⟩
end Go.Proofs.YtiogfohjepobkaaDoor

namespace Go.Proofs.YtiogfohjepobkaaDoor
open Go.RowKit

theorem calls_some {P : Program} {f : FuncId} {a : Array Value} {w : World} {R : Ending → World → Prop} (h : Calls P f a w R) : ∃ e w', R e w' := by
  obtain ⟨e, w', fr, hR, -⟩ := h []
  exact ⟨e, w', hR⟩
/-- A list of k integers and an error. -/
def LsR (k : Nat) (u : Nat → Int) (E : Int) (W : World) (e : Ending) (w' : World) : Prop := ∃ (A : Option Addr) (c : Nat), e = .returned (.tuple #[.slice A k c, .int .i64 E]) ∧ IntsAt w' A k u ∧ Gr W w'
theorem lsR_none {W w' : World} {e : Ending} {E : Int} (h : e = .returned (.tuple #[.slice none 0 0, .int .i64 E]) ∧ Gr W w') : LsR 0 (fun _ => 0) E W e w' := ⟨none, 0, h.1, IntsAt.nil _ _ _, h.2⟩

set_option maxHeartbeats 4000000 in
theorem br_both (l0 l1 l2 l3 l4 l5 h0 h1 h2 h3 h4 h5 st br : Int) (A M : Option Addr) (n c nm cm : Nat) (g : Nat → Int) (m : Nat → Bool) (w : World) (hP : Primes w) (hA : IntsAt w A n g) (hM : BoolsAt w M nm m) :
    ∃ (k : Nat) (u : Nat → Int) (E : Int), k ≤ 200 ∧ (∀ W, Gr w W → Calls Tryd.prog 17 #[.agg #[.int .i64 l0, .int .i64 l1, .int .i64 l2, .int .i64 l3, .int .i64 l4, .int .i64 l5, .int .i64 h0, .int .i64 h1, .int .i64 h2, .int .i64 h3, .int .i64 h4, .int .i64 h5, .int .i64 st, .int .i64 br], .slice A n c, .slice M nm cm] W (LsR k u E W)) ∧ (∀ W, Gr w W → Calls Tryd.prog 18 #[.agg #[.int .i64 l0, .int .i64 l1, .int .i64 l2, .int .i64 l3, .int .i64 l4, .int .i64 l5, .int .i64 h0, .int .i64 h1, .int .i64 h2, .int .i64 h3, .int .i64 h4, .int .i64 h5, .int .i64 st, .int .i64 br], .slice A n c, .slice M nm cm] W (LsR k u E W)) := by
  have bad : ∀ (q1 : voiceOk ⟨l0, l1, l2, l3, l4, l5⟩ ⟨h0, h1, h2, h3, h4, h5⟩ st br = true) (hp : phB g n nm = false), (∀ W, Gr w W → Calls Tryd.prog 18 #[.agg #[.int .i64 l0, .int .i64 l1, .int .i64 l2, .int .i64 l3, .int .i64 l4, .int .i64 l5, .int .i64 h0, .int .i64 h1, .int .i64 h2, .int .i64 h3, .int .i64 h4, .int .i64 h5, .int .i64 st, .int .i64 br], .slice A n c, .slice M nm cm] W (LsR 0 (fun _ => 0) 1 W)) := fun q1 hp W k => (rbreaths_bad2 l0 l1 l2 l3 l4 l5 h0 h1 h2 h3 h4 h5 st br A M n c nm cm g W (hA.keep k) q1 hp).mono fun e w' h => lsR_none h
  rcases tf (voiceOk ⟨l0, l1, l2, l3, l4, l5⟩ ⟨h0, h1, h2, h3, h4, h5⟩ st br) with q1 | q1
  · by_cases hnm : nm = n
    · by_cases hn : n ≤ 200
      · rcases tf (lenOk g n) with hl | hl
        · subst hnm
          obtain ⟨e0, w0, hB⟩ := calls_some (breaths_ok l0 l1 l2 l3 l4 l5 h0 h1 h2 h3 h4 h5 st br A M nm c nm cm g m w hP hA hM q1 rfl hn hl)
          rcases hB with ⟨l, v, hB, -⟩ | ⟨pre, hB, -⟩
          · refine ⟨l.length, fun j => l.getD j 0, 0, ?_, fun W k => ?_, fun W k => ?_⟩
            · obtain ⟨fr, h1, h2⟩ := hB
              have := h1.le; omega
            · refine (breaths_ok l0 l1 l2 l3 l4 l5 h0 h1 h2 h3 h4 h5 st br A M nm c nm cm g m W (hP.keep k) (hA.keep k) (hM.keep k) q1 rfl hn hl).mono fun e w' h => ?_
              rcases h with ⟨l', v', hB', rfl, hown, -, hg⟩ | ⟨pre, hB', -⟩
              · obtain rfl := brOk_one hl hB hB'
                obtain ⟨A', c', rfl, hI⟩ := ints_own hown (u := fun j => l.getD j 0) (fun j hj => brCells_at l j hj)
                exact ⟨A', c', rfl, hI, hg⟩
              · exact (brOk_bad hl hB hB').elim
            · refine (rbreaths_ok l0 l1 l2 l3 l4 l5 h0 h1 h2 h3 h4 h5 st br A M nm c cm g m W (hA.keep k) (hM.keep k) q1 hn hl).mono fun e w' h => ?_
              rcases h with ⟨l', A', c', hB', rfl, hI, hg⟩ | ⟨pre, hB', -⟩
              · obtain rfl := brOk_one hl hB hB'
                exact ⟨A', c', rfl, hI, hg⟩
              · exact (brOk_bad hl hB hB').elim
          · refine ⟨0, fun _ => 0, 22, by omega, fun W k => ?_, fun W k => ?_⟩
            · refine (breaths_ok l0 l1 l2 l3 l4 l5 h0 h1 h2 h3 h4 h5 st br A M nm c nm cm g m W (hP.keep k) (hA.keep k) (hM.keep k) q1 rfl hn hl).mono fun e w' h => ?_
              rcases h with ⟨l', v', hB', -⟩ | ⟨pre', hB', h⟩
              · exact (brOk_bad hl hB' hB).elim
              · exact lsR_none h
            · refine (rbreaths_ok l0 l1 l2 l3 l4 l5 h0 h1 h2 h3 h4 h5 st br A M nm c cm g m W (hA.keep k) (hM.keep k) q1 hn hl).mono fun e w' h => ?_
              rcases h with ⟨l', A', c', hB', -⟩ | ⟨pre', hB', h⟩
              · exact (brOk_bad hl hB' hB).elim
              · exact lsR_none h
        · exact ⟨0, fun _ => 0, 1, by omega, fun W k => (breaths_bad4 l0 l1 l2 l3 l4 l5 h0 h1 h2 h3 h4 h5 st br A M n c nm cm g W (hP.keep k) (hA.keep k) q1 hnm hn hl).mono fun e w' h => lsR_none h, bad q1 (by simp [phB, hl])⟩
      · exact ⟨0, fun _ => 0, 1, by omega, fun W k => (breaths_bad3 l0 l1 l2 l3 l4 l5 h0 h1 h2 h3 h4 h5 st br A M n c nm cm W (hP.keep k) q1 hnm (by omega)).mono fun e w' h => lsR_none h, bad q1 (by simp [phB, hn])⟩
    · exact ⟨0, fun _ => 0, 1, by omega, fun W k => (breaths_bad2 l0 l1 l2 l3 l4 l5 h0 h1 h2 h3 h4 h5 st br A M n c nm cm W (hP.keep k) q1 (fun h => hnm h.symm)).mono fun e w' h => lsR_none h, bad q1 (by simp [phB, show ¬ n = nm from fun h => hnm h.symm])⟩
  · exact ⟨0, fun _ => 0, 1, by omega, fun W k => (breaths_bad1 l0 l1 l2 l3 l4 l5 h0 h1 h2 h3 h4 h5 st br A M n c nm cm W (hP.keep k) q1).mono fun e w' h => lsR_none h, fun W _ => (rbreaths_bad1 l0 l1 l2 l3 l4 l5 h0 h1 h2 h3 h4 h5 st br A M n c nm cm W q1).mono fun e w' h => lsR_none h⟩

set_option maxHeartbeats 4000000 in
theorem line_both (l0 l1 l2 l3 l4 l5 h0 h1 h2 h3 h4 h5 st br : Int) (A : Option Addr) (n c : Nat) (f : Nat → Nat → Int) (w : World) (hP : Primes w) (hL : Logs w) (hA : RowsAt w 8 A n f) :
    ∃ (r E : Int), (∀ W, Gr w W → Calls Tryd.prog 20 #[.agg #[.int .i64 l0, .int .i64 l1, .int .i64 l2, .int .i64 l3, .int .i64 l4, .int .i64 l5, .int .i64 h0, .int .i64 h1, .int .i64 h2, .int .i64 h3, .int .i64 h4, .int .i64 h5, .int .i64 st, .int .i64 br], .slice A n c] W fun e w' => e = .returned (.tuple #[.int .i64 r, .int .i64 E]) ∧ Gr W w') ∧ (∀ W, Gr w W → Calls Tryd.prog 21 #[.agg #[.int .i64 l0, .int .i64 l1, .int .i64 l2, .int .i64 l3, .int .i64 l4, .int .i64 l5, .int .i64 h0, .int .i64 h1, .int .i64 h2, .int .i64 h3, .int .i64 h4, .int .i64 h5, .int .i64 st, .int .i64 br], .slice A n c] W fun e w' => e = .returned (.tuple #[.int .i64 r, .int .i64 E]) ∧ Gr W w') := by
  rcases tf (voiceOk ⟨l0, l1, l2, l3, l4, l5⟩ ⟨h0, h1, h2, h3, h4, h5⟩ st br) with q1 | q1
  · by_cases hn : n ≤ 200
    · rcases tf (lineGood f n) with hl | hl
      · obtain ⟨e0, w0, r, -, hR, -⟩ := calls_some (line_good l0 l1 l2 l3 l4 l5 h0 h1 h2 h3 h4 h5 st br A n c f w hP hL hA q1 hn hl)
        refine ⟨r, 0, fun W k => (line_good l0 l1 l2 l3 l4 l5 h0 h1 h2 h3 h4 h5 st br A n c f W (hP.keep k) (hL.keep k) (hA.keep k) q1 hn hl).mono fun e w' h => ?_, fun W k => (rline_good l0 l1 l2 l3 l4 l5 h0 h1 h2 h3 h4 h5 st br A n c f W (hA.keep k) q1 hn hl).mono fun e w' h => ?_⟩
        all_goals
          obtain ⟨r', rfl, hR', hg⟩ := h
          obtain rfl := lineR_one hR hR'
          exact ⟨rfl, hg⟩
      · exact ⟨0, 1, fun W k => line_bad3 l0 l1 l2 l3 l4 l5 h0 h1 h2 h3 h4 h5 st br A n c f W (hP.keep k) (hA.keep k) q1 hn hl, fun W k => rline_bad2 l0 l1 l2 l3 l4 l5 h0 h1 h2 h3 h4 h5 st br A n c f W (hA.keep k) q1 (by rw [hl, Bool.and_false])⟩
    · exact ⟨0, 1, fun W k => line_bad2 l0 l1 l2 l3 l4 l5 h0 h1 h2 h3 h4 h5 st br A n c W (hP.keep k) q1 (by omega), fun W k => rline_bad2 l0 l1 l2 l3 l4 l5 h0 h1 h2 h3 h4 h5 st br A n c f W (hA.keep k) q1 (by rw [decide_eq_false hn, Bool.false_and])⟩
  · exact ⟨0, 1, fun W k => line_bad1 l0 l1 l2 l3 l4 l5 h0 h1 h2 h3 h4 h5 st br A n c W (hP.keep k) q1, fun W _ => rline_bad1 l0 l1 l2 l3 l4 l5 h0 h1 h2 h3 h4 h5 st br A n c W q1⟩

/-- The same path by equal distances. -/
theorem path_congr {J : Nat → Nat → Bool} {n fr : Nat} {far far' : Nat → Int} (hf : fr < n) (h0 : 0 ≤ far fr) (he : ∀ i, i < n → far' i = far i) {l : List Nat} {a : Nat} (h : Path J n far' fr l a) : Path J n far fr l a := by
  have h0' : 0 ≤ far' fr := by rw [he fr hf]; exact h0
  have hb : ∀ a k, a < n → k < n → nextB J far' a k = nextB J far a k := fun a k ha hk => by unfold nextB; rw [he a ha, he k hk]
  induction h with
  | one => exact .one
  | @snoc l a k h1 h2 h3 h4 h5 ih =>
    have ha := (h1.facts hf h0').1
    exact .snoc ih (by rw [← he a ha]; exact h2) h3 (by rw [← hb a k ha h3]; exact h4) (fun j hj => by rw [← hb a j ha (by omega)]; exact h5 j hj)
theorem wayOk_congr {J : Nat → Nat → Bool} {n fr : Nat} {far far' : Nat → Int} (hf : fr < n) (h0 : 0 ≤ far fr) (he : ∀ i, i < n → far' i = far i) {l : List Nat} (h : WayOk J n far' fr l) : WayOk J n far fr l := by
  obtain ⟨a, h1, h2⟩ := h
  have ha := (h1.facts hf (by rw [he fr hf]; exact h0)).1
  exact ⟨a, path_congr hf h0 he h1, by rw [← he a ha]; exact h2⟩

set_option maxHeartbeats 4000000 in
theorem way_both (l0 l1 l2 l3 l4 l5 h0 h1 h2 h3 h4 h5 st br : Int) (A : Option Addr) (n c : Nat) (fr tz : Int) (f : Nat → Nat → Int) (w : World) (hP : Primes w) (hL : Logs w) (hA : RowsAt w 6 A n f) (hn : n ≤ 200) :
    ∃ (k : Nat) (u : Nat → Int) (E : Int), k ≤ 200 ∧ (∀ W, Gr w W → Calls Tryd.prog 22 #[.agg #[.int .i64 l0, .int .i64 l1, .int .i64 l2, .int .i64 l3, .int .i64 l4, .int .i64 l5, .int .i64 h0, .int .i64 h1, .int .i64 h2, .int .i64 h3, .int .i64 h4, .int .i64 h5, .int .i64 st, .int .i64 br], .slice A n c, .int .i64 fr, .int .i64 tz] W (LsR k u E W)) ∧ (∀ W, Gr w W → Calls Tryd.prog 23 #[.agg #[.int .i64 l0, .int .i64 l1, .int .i64 l2, .int .i64 l3, .int .i64 l4, .int .i64 l5, .int .i64 h0, .int .i64 h1, .int .i64 h2, .int .i64 h3, .int .i64 h4, .int .i64 h5, .int .i64 st, .int .i64 br], .slice A n c, .int .i64 fr, .int .i64 tz] W (LsR k u E W)) := by
  rcases tf (voiceOk ⟨l0, l1, l2, l3, l4, l5⟩ ⟨h0, h1, h2, h3, h4, h5⟩ st br) with q1 | q1
  · rcases tf (vecsOk f n) with hv | hv
    · by_cases hft : 0 ≤ fr ∧ fr < n ∧ 0 ≤ tz ∧ tz < n
      · obtain ⟨fr, rfl⟩ : ∃ k : Nat, fr = (k : Int) := ⟨fr.toNat, by omega⟩
        obtain ⟨tz, rfl⟩ : ∃ k : Nat, tz = (k : Int) := ⟨tz.toNat, by omega⟩
        have hfr : fr < n := by omega
        have htz : tz < n := by omega
        have hG := fun W (k : Gr w W) => way_good l0 l1 l2 l3 l4 l5 h0 h1 h2 h3 h4 h5 st br A n c fr tz f W (hP.keep k) (hL.keep k) (hA.keep k) q1 hn hv hfr htz
        obtain ⟨e0, w0, -, k0⟩ := calls_some (hG w (Gr.refl w))
        rcases k0 with ⟨hno, -⟩ | ⟨hha, far, hF, hfn, k0⟩
        · refine ⟨0, fun _ => 0, 4, by omega, fun W k => (hG W k).mono fun e w' h => ?_, fun W k => ?_⟩
          · obtain ⟨hg, h⟩ := h
            rcases h with ⟨_, h⟩ | ⟨h, -⟩
            · exact lsR_none ⟨h, hg⟩
            · rw [hno] at h; cases h
          · refine (rway_good l0 l1 l2 l3 l4 l5 h0 h1 h2 h3 h4 h5 st br A n c fr tz f (fun _ => -1) W (hA.keep k) q1 hn hv hfr htz (by rw [hno]; exact levF_none _ _ _) (fun k _ h => absurd h (by omega))).mono fun e w' h => ?_
            rcases h with ⟨_, h⟩ | ⟨h, -⟩
            · exact lsR_none h
            · exact absurd h (by show ¬ (0 : Int) ≤ -1; omega)
        · have hLF : LevF (joinB ⟨l0, l1, l2, l3, l4, l5⟩ ⟨h0, h1, h2, h3, h4, h5⟩ st f) n tz (hasB ⟨l0, l1, l2, l3, l4, l5⟩ ⟨h0, h1, h2, h3, h4, h5⟩ ⟨f tz 0, f tz 1, f tz 2, f tz 3, f tz 4, f tz 5⟩) far := by rw [hha]; exact levF_far hF hfn
          have hH := fun k (hk : k < n) (z : 0 ≤ far k) => far_has hF hha hk z
          have hRG := fun W (k : Gr w W) => rway_good l0 l1 l2 l3 l4 l5 h0 h1 h2 h3 h4 h5 st br A n c fr tz f far W (hA.keep k) q1 hn hv hfr htz hLF hH
          rcases k0 with ⟨hz, -⟩ | ⟨hz, l, v, hW, -⟩
          · refine ⟨0, fun _ => 0, 4, by omega, fun W k => (hG W k).mono fun e w' h => ?_, fun W k => (hRG W k).mono fun e w' h => ?_⟩
            · obtain ⟨hg, h⟩ := h
              rcases h with ⟨h, -⟩ | ⟨-, far', hF', -, ⟨_, h⟩ | ⟨hz', -⟩⟩
              · rw [hha] at h; cases h
              · exact lsR_none ⟨h, hg⟩
              · have := farOk_one hF hF' hfr; omega
            · rcases h with ⟨_, h⟩ | ⟨h, -⟩
              · exact lsR_none h
              · omega
          · refine ⟨l.length, fun j => ((l.getD j 0 : Nat) : Int), 0, ?_, fun W k => (hG W k).mono fun e w' h => ?_, fun W k => (hRG W k).mono fun e w' h => ?_⟩
            · obtain ⟨a, hp, ha⟩ := hW
              have := (hp.facts hfr hz).2.1
              have := hfn fr hfr
              omega
            · obtain ⟨hg, h⟩ := h
              rcases h with ⟨h, -⟩ | ⟨-, far', hF', hfn', ⟨hz', -⟩ | ⟨hz', l', v', hW', rfl, hown⟩⟩
              · rw [hha] at h; cases h
              · have := farOk_one hF hF' hfr; omega
              · have hWl := wayOk_congr hfr hz (fun i hi => farOk_one hF' hF hi) hW'
                obtain rfl := wayOk_one hfr hz hW hWl
                obtain ⟨A', c', rfl, hI⟩ := ints_own hown (u := fun j => ((l.getD j 0 : Nat) : Int)) (fun j hj => natCells_at l j hj)
                exact ⟨A', c', rfl, hI, hg⟩
            · rcases h with ⟨h, -⟩ | ⟨_, l', A', c', hW', rfl, hI, hg⟩
              · omega
              · obtain rfl := wayOk_one hfr hz hW hW'
                exact ⟨A', c', rfl, hI, hg⟩
      · exact ⟨0, fun _ => 0, 1, by omega, fun W k => (way_bad4 l0 l1 l2 l3 l4 l5 h0 h1 h2 h3 h4 h5 st br A n c fr tz f W (hP.keep k) (hA.keep k) q1 hn hv hft).mono fun e w' h => lsR_none h, fun W k => (rway_bad4 l0 l1 l2 l3 l4 l5 h0 h1 h2 h3 h4 h5 st br A n c fr tz f W (hA.keep k) q1 hn hv hft).mono fun e w' h => lsR_none h⟩
    · exact ⟨0, fun _ => 0, 1, by omega, fun W k => (way_bad3 l0 l1 l2 l3 l4 l5 h0 h1 h2 h3 h4 h5 st br A n c fr tz f W (hP.keep k) (hA.keep k) q1 hn hv).mono fun e w' h => lsR_none h, fun W k => (rway_bad3 l0 l1 l2 l3 l4 l5 h0 h1 h2 h3 h4 h5 st br A n c fr tz f W (hA.keep k) q1 hn hv).mono fun e w' h => lsR_none h⟩
  · exact ⟨0, fun _ => 0, 1, by omega, fun W k => (way_bad1 l0 l1 l2 l3 l4 l5 h0 h1 h2 h3 h4 h5 st br A n c fr tz W (hP.keep k) q1).mono fun e w' h => lsR_none h, fun W _ => (rway_bad1 l0 l1 l2 l3 l4 l5 h0 h1 h2 h3 h4 h5 st br A n c fr tz W q1).mono fun e w' h => lsR_none h⟩
end Go.Proofs.YtiogfohjepobkaaDoor

namespace Go.Proofs.YtiogfohjepobkaaDoor
open Go.RowKit

/-- The boxes of the arguments. -/
structure MBox (W : World) (B : Nat) (l0 l1 l2 l3 l4 l5 h0 h1 h2 h3 h4 h5 st br x0 x1 x2 x3 x4 x5 y0 y1 y2 y3 y4 y5 : Int) : Prop where
  lt : B + 1 + 1 < W.heap.size
  v : W.cell? ⟨B, 0, none⟩ = some (.int .i64 l0) ∧ W.cell? ⟨B, 1, none⟩ = some (.int .i64 l1) ∧ W.cell? ⟨B, 2, none⟩ = some (.int .i64 l2) ∧ W.cell? ⟨B, 3, none⟩ = some (.int .i64 l3) ∧ W.cell? ⟨B, 4, none⟩ = some (.int .i64 l4) ∧ W.cell? ⟨B, 5, none⟩ = some (.int .i64 l5) ∧ W.cell? ⟨B, 6, none⟩ = some (.int .i64 h0) ∧ W.cell? ⟨B, 7, none⟩ = some (.int .i64 h1) ∧ W.cell? ⟨B, 8, none⟩ = some (.int .i64 h2) ∧ W.cell? ⟨B, 9, none⟩ = some (.int .i64 h3) ∧ W.cell? ⟨B, 10, none⟩ = some (.int .i64 h4) ∧ W.cell? ⟨B, 11, none⟩ = some (.int .i64 h5) ∧ W.cell? ⟨B, 12, none⟩ = some (.int .i64 st) ∧ W.cell? ⟨B, 13, none⟩ = some (.int .i64 br)
  x : SixV W (B + 1) (.int .i64 x0) (.int .i64 x1) (.int .i64 x2) (.int .i64 x3) (.int .i64 x4) (.int .i64 x5)
  y : SixV W (B + 1 + 1) (.int .i64 y0) (.int .i64 y1) (.int .i64 y2) (.int .i64 y3) (.int .i64 y4) (.int .i64 y5)
theorem MBox.keep {W W' : World} {B : Nat} {l0 l1 l2 l3 l4 l5 h0 h1 h2 h3 h4 h5 st br x0 x1 x2 x3 x4 x5 y0 y1 y2 y3 y4 y5 : Int} (h : MBox W B l0 l1 l2 l3 l4 l5 h0 h1 h2 h3 h4 h5 st br x0 x1 x2 x3 x4 x5 y0 y1 y2 y3 y4 y5) (g : Gr W W') : MBox W' B l0 l1 l2 l3 l4 l5 h0 h1 h2 h3 h4 h5 st br x0 x1 x2 x3 x4 x5 y0 y1 y2 y3 y4 y5 :=
  ⟨Nat.lt_of_lt_of_le h.lt g.le, boxKept g (by have := h.lt; omega) h.v, h.x.keep g (by have := h.lt; omega), h.y.keep g h.lt⟩
theorem eqTo_self (u : Nat → Int) (n : Nat) : eqTo u u n = true := (eqTo_iff u u n).2 fun _ _ => rfl

set_option maxRecDepth 100000 in
set_option maxHeartbeats 16000000 in
theorem vmat_law (l0 l1 l2 l3 l4 l5 h0 h1 h2 h3 h4 h5 st br x0 x1 x2 x3 x4 x5 y0 y1 y2 y3 y4 y5 fr tz : Int) (A M N L : Option Addr) (n c nm cm n3 c3 n4 c4 : Nat) (g : Nat → Int) (m : Nat → Bool) (f3 f4 : Nat → Nat → Int) (w : World) (hP : Primes w) (hL : Logs w) (hA : IntsAt w A n g) (hM : BoolsAt w M nm m) (hN : RowsAt w 8 N n3 f3) (hR : RowsAt w 6 L n4 f4) (_hn4 : n4 ≤ 9223372036854775807) :
    Calls Tryd.prog 3 #[.agg #[.int .i64 l0, .int .i64 l1, .int .i64 l2, .int .i64 l3, .int .i64 l4, .int .i64 l5, .int .i64 h0, .int .i64 h1, .int .i64 h2, .int .i64 h3, .int .i64 h4, .int .i64 h5, .int .i64 st, .int .i64 br], .agg #[.int .i64 x0, .int .i64 x1, .int .i64 x2, .int .i64 x3, .int .i64 x4, .int .i64 x5], .agg #[.int .i64 y0, .int .i64 y1, .int .i64 y2, .int .i64 y3, .int .i64 y4, .int .i64 y5], .slice A n c, .slice M nm cm, .slice N n3 c3, .slice L n4 c4, .int .i64 fr, .int .i64 tz] w fun e w' => e = .returned (.bool true) ∧ Gr w w' := by
  have hbr := br_both l0 l1 l2 l3 l4 l5 h0 h1 h2 h3 h4 h5 st br A M n c nm cm g m w hP hA hM
  have hln := line_both l0 l1 l2 l3 l4 l5 h0 h1 h2 h3 h4 h5 st br N n3 c3 f3 w hP hL hN
  obtain ⟨kb, ub, Eb, hkb, hB1, hB2⟩ := hbr
  obtain ⟨rl, El, hN1, hN2⟩ := hln
  have HB1 := Lib.hid hB1; have HB2' := Lib.hid hB2; have HN1 := Lib.hid hN1; have HN2 := Lib.hid hN2
  have hV1 := fun W h => voiceValid_any l0 l1 l2 l3 l4 l5 h0 h1 h2 h3 h4 h5 st br W h
  have hV2 := fun W => rvalid_any l0 l1 l2 l3 l4 l5 h0 h1 h2 h3 h4 h5 st br W
  have hH1 := fun W h => vhas_any l0 l1 l2 l3 l4 l5 h0 h1 h2 h3 h4 h5 st br x0 x1 x2 x3 x4 x5 W h
  have hH2 := fun W => rhas_any l0 l1 l2 l3 l4 l5 h0 h1 h2 h3 h4 h5 st br x0 x1 x2 x3 x4 x5 W
  have hF1 := fun W h h' => vfinds_any l0 l1 l2 l3 l4 l5 h0 h1 h2 h3 h4 h5 st br x0 x1 x2 x3 x4 x5 y0 y1 y2 y3 y4 y5 W h h'
  have hF2 := fun W => rfinds_any l0 l1 l2 l3 l4 l5 h0 h1 h2 h3 h4 h5 st br x0 x1 x2 x3 x4 x5 y0 y1 y2 y3 y4 y5 W
  generalize hh1 : cond (voiceOk ⟨l0, l1, l2, l3, l4, l5⟩ ⟨h0, h1, h2, h3, h4, h5⟩ st br && allIn ⟨x0, x1, x2, x3, x4, x5⟩ 48 6) (0 : Int) 1 = eh at hH1 hH2
  generalize hh2 : (voiceOk ⟨l0, l1, l2, l3, l4, l5⟩ ⟨h0, h1, h2, h3, h4, h5⟩ st br && (allIn ⟨x0, x1, x2, x3, x4, x5⟩ 48 6 && hasB ⟨l0, l1, l2, l3, l4, l5⟩ ⟨h0, h1, h2, h3, h4, h5⟩ ⟨x0, x1, x2, x3, x4, x5⟩)) = bh at hH1 hH2
  clear hh1 hh2
  generalize hh3 : cond (voiceOk ⟨l0, l1, l2, l3, l4, l5⟩ ⟨h0, h1, h2, h3, h4, h5⟩ st br && (allIn ⟨x0, x1, x2, x3, x4, x5⟩ 48 6 && allIn ⟨y0, y1, y2, y3, y4, y5⟩ 48 6)) (0 : Int) 1 = eg at hF1 hF2
  generalize hh4 : (voiceOk ⟨l0, l1, l2, l3, l4, l5⟩ ⟨h0, h1, h2, h3, h4, h5⟩ st br && (allIn ⟨x0, x1, x2, x3, x4, x5⟩ 48 6 && (allIn ⟨y0, y1, y2, y3, y4, y5⟩ 48 6 && findsB st ⟨x0, x1, x2, x3, x4, x5⟩ ⟨y0, y1, y2, y3, y4, y5⟩))) = bg at hF1 hF2
  clear hh3 hh4
  generalize voiceOk ⟨l0, l1, l2, l3, l4, l5⟩ ⟨h0, h1, h2, h3, h4, h5⟩ st br = vb at hV1 hV2
  have HV1 := Lib.hid hV1; have HV2 := Lib.hid hV2; have HH1 := Lib.hid hH1; have HH2 := Lib.hid hH2; have HF1 := Lib.hid hF1; have HF2 := Lib.hid hF2
  have HP := Lib.hid hP; have HL := Lib.hid hL; have HR := Lib.hid hR
  clear hV1 hV2 hH1 hH2 hF1 hF2 hB1 hB2 hN1 hN2 hP hL hR hA hM hN
  go_enter Tryd.func3, Tryd.ntmps3
  go_wp2_with fail
  go_at_call 10
  refine (vhead_any _ (HP.out.keep (by repeat (first | with_reducible exact Gr.refl _ | with_reducible refine Gr.alloc ?_ _ | with_reducible refine Gr.drew ?_ | with_reducible refine Gr.trans ?_ (by assumption) | with_reducible refine Gr.setCell ?_ (by (try simp); (try omega)) _))) (HL.out.keep (by repeat (first | with_reducible exact Gr.refl _ | with_reducible refine Gr.alloc ?_ _ | with_reducible refine Gr.drew ?_ | with_reducible refine Gr.trans ?_ (by assumption) | with_reducible refine Gr.setCell ?_ (by (try simp); (try omega)) _)))).mono ?_
  rintro e w1 ⟨rfl, hb⟩
  have hz := hb.le; obtain ⟨hc, hf⟩ := hb.cells
  (try simp only [World.size_alloc] at hc hf hz)
  have HB : Hid (MBox w1 w.heap.size l0 l1 l2 l3 l4 l5 h0 h1 h2 h3 h4 h5 st br x0 x1 x2 x3 x4 x5 y0 y1 y2 y3 y4 y5) := Lib.hid ⟨by omega, ⟨by simp [go_sem, *], by simp [go_sem, *], by simp [go_sem, *], by simp [go_sem, *], by simp [go_sem, *], by simp [go_sem, *], by simp [go_sem, *], by simp [go_sem, *], by simp [go_sem, *], by simp [go_sem, *], by simp [go_sem, *], by simp [go_sem, *], by simp [go_sem, *], by simp [go_sem, *]⟩, ⟨by simp [go_sem, *], by simp [go_sem, *], by simp [go_sem, *], by simp [go_sem, *], by simp [go_sem, *], by simp [go_sem, *]⟩, ⟨by simp [go_sem, *], by simp [go_sem, *], by simp [go_sem, *], by simp [go_sem, *], by simp [go_sem, *], by simp [go_sem, *]⟩⟩
  have HG := Lib.hid (show Gr w w1 from (by repeat (first | with_reducible exact Gr.refl _ | with_reducible refine Gr.alloc ?_ _ | with_reducible refine Gr.drew ?_ | with_reducible refine Gr.trans ?_ (by assumption) | with_reducible refine Gr.setCell ?_ (by (try simp); (try omega)) _)))
  clear hb hz hc hf
  obtain ⟨wn, rfl⟩ : ∃ wn : World, wn = w1 := ⟨_, rfl⟩
  obtain ⟨hlt, ⟨a0, a1, a2, a3, a4, a5, a6, a7, a8, a9, a10, a11, a12, a13⟩, ⟨c0, c1, c2, c3, c4, c5⟩, ⟨e0, e1, e2, e3, e4, e5⟩⟩ := HB.out
  go_upto_region 2 with fail
  go_cut [19] (fun s wx => s = .bool true ∧ Gr wn wx)
  case first =>
    go_region_held3 (fun wx => (∀ b o, (⟨min (b + 1) wn.heap.size, 0, none⟩ : Addr) = ⟨b + 1, 0, none⟩ → wx.cell? ⟨b, o, none⟩ = wn.cell? ⟨b, o, none⟩) ∧ Gr wn wx) (first | with_reducible exact held_drew _ | with_reducible exact held_call (by assumption) (by assumption) | with_reducible exact held_alloc (by assumption) _ | with_reducible exact held_alloc0 _ _ | with_reducible exact held_anew (by assumption) _ (by omega) | ((repeat (with_reducible refine held_set ?_ (by (try simp); (try omega)) _)); (first | with_reducible assumption | with_reducible exact held_call (by assumption) (by assumption)))) (first | (go_at_call 11; with_reducible refine (HV1.out _ (HP.out.keep (HG.out.trans (held_gr (by assumption))))).mono ?_; rintro e w' ⟨rfl, hb⟩; have hzz := ((held_gr (by assumption)).trans hb).le; have hz := hb.le; obtain ⟨hcx, hfx⟩ := hb.cells; have hn := hb.cellsN; (try simp only [World.size_drew] at hcx hfx hz hn); (try simp only [World.size_setCell] at hcx hfx hz hn); (try simp only [World.size_alloc] at hcx hfx hz hn)) | (go_at_call 12; with_reducible refine (HV2.out _).mono ?_; rintro e w' ⟨rfl, hb⟩; have hzz := ((held_gr (by assumption)).trans hb).le; have hz := hb.le; obtain ⟨hcx, hfx⟩ := hb.cells; have hn := hb.cellsN; (try simp only [World.size_drew] at hcx hfx hz hn); (try simp only [World.size_setCell] at hcx hfx hz hn); (try simp only [World.size_alloc] at hcx hfx hz hn)))
    all_goals
      go_wp2_with fail
      go_meet
      exact ⟨rfl, held_gr (by assumption)⟩
  case rest =>
    obtain ⟨rfl, hb⟩ := hcut
    have HG2 := Lib.hid (HG.out.trans hb); have HB2 := Lib.hid (HB.out.keep hb)
    clear hlt a0 a1 a2 a3 a4 a5 a6 a7 a8 a9 a10 a11 a12 a13 c0 c1 c2 c3 c4 c5 e0 e1 e2 e3 e4 e5
    clear HG HB hb
    have HG := HG2; have HB := HB2
    clear HG2 HB2
    obtain ⟨wn, rfl⟩ : ∃ wn : World, wn = wc := ⟨_, rfl⟩
    obtain ⟨hlt, ⟨a0, a1, a2, a3, a4, a5, a6, a7, a8, a9, a10, a11, a12, a13⟩, ⟨c0, c1, c2, c3, c4, c5⟩, ⟨e0, e1, e2, e3, e4, e5⟩⟩ := HB.out
    go_wp2_with fail
    go_at_call 13
    refine (HH1.out _ (HP.out.keep HG.out)).mono ?_
    rintro e w2 ⟨rfl, hb⟩
    have HG2 := Lib.hid (HG.out.trans hb); have HB2 := Lib.hid (HB.out.keep hb)
    clear hb 
    clear hlt a0 a1 a2 a3 a4 a5 a6 a7 a8 a9 a10 a11 a12 a13 c0 c1 c2 c3 c4 c5 e0 e1 e2 e3 e4 e5
    clear HG HB
    have HG := HG2; have HB := HB2
    clear HG2 HB2
    obtain ⟨wn, rfl⟩ : ∃ wn : World, wn = w2 := ⟨_, rfl⟩
    obtain ⟨hlt, ⟨a0, a1, a2, a3, a4, a5, a6, a7, a8, a9, a10, a11, a12, a13⟩, ⟨c0, c1, c2, c3, c4, c5⟩, ⟨e0, e1, e2, e3, e4, e5⟩⟩ := HB.out
    go_wp2_with fail
    go_at_call 14
    refine (HH2.out _).mono ?_
    rintro e w2 ⟨rfl, hb⟩
    have HG2 := Lib.hid (HG.out.trans hb); have HB2 := Lib.hid (HB.out.keep hb)
    clear hb 
    clear hlt a0 a1 a2 a3 a4 a5 a6 a7 a8 a9 a10 a11 a12 a13 c0 c1 c2 c3 c4 c5 e0 e1 e2 e3 e4 e5
    clear HG HB
    have HG := HG2; have HB := HB2
    clear HG2 HB2
    obtain ⟨wn, rfl⟩ : ∃ wn : World, wn = w2 := ⟨_, rfl⟩
    obtain ⟨hlt, ⟨a0, a1, a2, a3, a4, a5, a6, a7, a8, a9, a10, a11, a12, a13⟩, ⟨c0, c1, c2, c3, c4, c5⟩, ⟨e0, e1, e2, e3, e4, e5⟩⟩ := HB.out
    go_wp2_with fail
    go_at_call 15
    refine (HF1.out _ (HP.out.keep HG.out) (HL.out.keep HG.out)).mono ?_
    rintro e w2 ⟨rfl, hb⟩
    have HG2 := Lib.hid (HG.out.trans hb); have HB2 := Lib.hid (HB.out.keep hb)
    clear hb 
    clear hlt a0 a1 a2 a3 a4 a5 a6 a7 a8 a9 a10 a11 a12 a13 c0 c1 c2 c3 c4 c5 e0 e1 e2 e3 e4 e5
    clear HG HB
    have HG := HG2; have HB := HB2
    clear HG2 HB2
    obtain ⟨wn, rfl⟩ : ∃ wn : World, wn = w2 := ⟨_, rfl⟩
    obtain ⟨hlt, ⟨a0, a1, a2, a3, a4, a5, a6, a7, a8, a9, a10, a11, a12, a13⟩, ⟨c0, c1, c2, c3, c4, c5⟩, ⟨e0, e1, e2, e3, e4, e5⟩⟩ := HB.out
    go_wp2_with fail
    go_at_call 16
    refine (HF2.out _).mono ?_
    rintro e w2 ⟨rfl, hb⟩
    have HG2 := Lib.hid (HG.out.trans hb); have HB2 := Lib.hid (HB.out.keep hb)
    clear hb 
    clear hlt a0 a1 a2 a3 a4 a5 a6 a7 a8 a9 a10 a11 a12 a13 c0 c1 c2 c3 c4 c5 e0 e1 e2 e3 e4 e5
    clear HG HB
    have HG := HG2; have HB := HB2
    clear HG2 HB2
    obtain ⟨wn, rfl⟩ : ∃ wn : World, wn = w2 := ⟨_, rfl⟩
    obtain ⟨hlt, ⟨a0, a1, a2, a3, a4, a5, a6, a7, a8, a9, a10, a11, a12, a13⟩, ⟨c0, c1, c2, c3, c4, c5⟩, ⟨e0, e1, e2, e3, e4, e5⟩⟩ := HB.out
    go_wp2_with fail
    go_at_call 17
    refine (HB1.out _ HG.out).mono ?_
    rintro e w2 ⟨A1, d1, rfl, hi1, hb⟩
    have HG2 := Lib.hid (HG.out.trans hb); have HB2 := Lib.hid (HB.out.keep hb)
    have HI1 := Lib.hid hi1
    clear hb hi1
    clear hlt a0 a1 a2 a3 a4 a5 a6 a7 a8 a9 a10 a11 a12 a13 c0 c1 c2 c3 c4 c5 e0 e1 e2 e3 e4 e5
    clear HG HB
    have HG := HG2; have HB := HB2
    clear HG2 HB2
    obtain ⟨wn, rfl⟩ : ∃ wn : World, wn = w2 := ⟨_, rfl⟩
    obtain ⟨hlt, ⟨a0, a1, a2, a3, a4, a5, a6, a7, a8, a9, a10, a11, a12, a13⟩, ⟨c0, c1, c2, c3, c4, c5⟩, ⟨e0, e1, e2, e3, e4, e5⟩⟩ := HB.out
    go_wp2_with fail
    go_at_call 18
    refine (HB2'.out _ HG.out).mono ?_
    rintro e w2 ⟨A2, d2, rfl, hi2, hb⟩
    have HG2 := Lib.hid (HG.out.trans hb); have HB2 := Lib.hid (HB.out.keep hb)
    have HI1n := Lib.hid (HI1.out.keep hb)
    clear HI1
    have HI1 := HI1n
    clear HI1n
    have HI2 := Lib.hid hi2
    clear hb hi2
    clear hlt a0 a1 a2 a3 a4 a5 a6 a7 a8 a9 a10 a11 a12 a13 c0 c1 c2 c3 c4 c5 e0 e1 e2 e3 e4 e5
    clear HG HB
    have HG := HG2; have HB := HB2
    clear HG2 HB2
    obtain ⟨wn, rfl⟩ : ∃ wn : World, wn = w2 := ⟨_, rfl⟩
    have hI := fun W (q1 : IntsAt W A1 kb ub) (q2 : IntsAt W A2 kb ub) => ints_any A1 A2 kb d1 kb d2 ub ub W q1 q2 (by omega)
    rw [eqTo_self, decide_eq_true rfl, Bool.and_self] at hI
    have HI := Lib.hid hI
    clear hI
    obtain ⟨hlt, ⟨a0, a1, a2, a3, a4, a5, a6, a7, a8, a9, a10, a11, a12, a13⟩, ⟨c0, c1, c2, c3, c4, c5⟩, ⟨e0, e1, e2, e3, e4, e5⟩⟩ := HB.out
    go_wp2_with fail
    go_at_call 19
    refine (HI.out _ HI1.out HI2.out).mono ?_
    rintro e w2 ⟨rfl, hb⟩
    have HG2 := Lib.hid (HG.out.trans hb); have HB2 := Lib.hid (HB.out.keep hb)
    clear hb 
    clear hlt a0 a1 a2 a3 a4 a5 a6 a7 a8 a9 a10 a11 a12 a13 c0 c1 c2 c3 c4 c5 e0 e1 e2 e3 e4 e5
    clear HG HB
    have HG := HG2; have HB := HB2
    clear HG2 HB2
    obtain ⟨wn, rfl⟩ : ∃ wn : World, wn = w2 := ⟨_, rfl⟩
    obtain ⟨hlt, ⟨a0, a1, a2, a3, a4, a5, a6, a7, a8, a9, a10, a11, a12, a13⟩, ⟨c0, c1, c2, c3, c4, c5⟩, ⟨e0, e1, e2, e3, e4, e5⟩⟩ := HB.out
    go_wp2_with fail
    go_at_call 20
    refine (HN1.out _ HG.out).mono ?_
    rintro e w2 ⟨rfl, hb⟩
    have HG2 := Lib.hid (HG.out.trans hb); have HB2 := Lib.hid (HB.out.keep hb)
    clear hb 
    clear hlt a0 a1 a2 a3 a4 a5 a6 a7 a8 a9 a10 a11 a12 a13 c0 c1 c2 c3 c4 c5 e0 e1 e2 e3 e4 e5
    clear HG HB
    have HG := HG2; have HB := HB2
    clear HG2 HB2
    obtain ⟨wn, rfl⟩ : ∃ wn : World, wn = w2 := ⟨_, rfl⟩
    obtain ⟨hlt, ⟨a0, a1, a2, a3, a4, a5, a6, a7, a8, a9, a10, a11, a12, a13⟩, ⟨c0, c1, c2, c3, c4, c5⟩, ⟨e0, e1, e2, e3, e4, e5⟩⟩ := HB.out
    go_wp2_with fail
    go_at_call 21
    refine (HN2.out _ HG.out).mono ?_
    rintro e w2 ⟨rfl, hb⟩
    have HG2 := Lib.hid (HG.out.trans hb); have HB2 := Lib.hid (HB.out.keep hb)
    clear hb 
    clear hlt a0 a1 a2 a3 a4 a5 a6 a7 a8 a9 a10 a11 a12 a13 c0 c1 c2 c3 c4 c5 e0 e1 e2 e3 e4 e5
    clear HG HB
    have HG := HG2; have HB := HB2
    clear HG2 HB2
    obtain ⟨wn, rfl⟩ : ∃ wn : World, wn = w2 := ⟨_, rfl⟩
    clear HI HI1 HI2
    by_cases h24 : 24 < n4
    · have h24b : decide (24 < (n4 : Int)) = true := decide_eq_true (by omega)
      go_wp2_with fail
      go_ret
      exact ⟨rfl, HG.out⟩
    · have h24b : decide (24 < (n4 : Int)) = false := decide_eq_false (by omega)
      have h24c : decide (24 < n4) = false := decide_eq_false h24
      have hwy := way_both l0 l1 l2 l3 l4 l5 h0 h1 h2 h3 h4 h5 st br L n4 c4 fr tz f4 w HP.out HL.out HR.out (by omega)
      obtain ⟨kw, uw, Ew, hkw, hW1, hW2⟩ := hwy
      have HW1 := Lib.hid hW1; have HW2 := Lib.hid hW2
      clear hW1 hW2
      obtain ⟨hlt, ⟨a0, a1, a2, a3, a4, a5, a6, a7, a8, a9, a10, a11, a12, a13⟩, ⟨c0, c1, c2, c3, c4, c5⟩, ⟨e0, e1, e2, e3, e4, e5⟩⟩ := HB.out
      go_wp2_with fail
      go_at_call 22
      refine (HW1.out _ HG.out).mono ?_
      rintro e w2 ⟨A3, d3, rfl, hi1, hb⟩
      have HG2 := Lib.hid (HG.out.trans hb); have HB2 := Lib.hid (HB.out.keep hb)
      have HI1 := Lib.hid hi1
      clear hb hi1
      clear hlt a0 a1 a2 a3 a4 a5 a6 a7 a8 a9 a10 a11 a12 a13 c0 c1 c2 c3 c4 c5 e0 e1 e2 e3 e4 e5
      clear HG HB
      have HG := HG2; have HB := HB2
      clear HG2 HB2
      obtain ⟨wn, rfl⟩ : ∃ wn : World, wn = w2 := ⟨_, rfl⟩
      obtain ⟨hlt, ⟨a0, a1, a2, a3, a4, a5, a6, a7, a8, a9, a10, a11, a12, a13⟩, ⟨c0, c1, c2, c3, c4, c5⟩, ⟨e0, e1, e2, e3, e4, e5⟩⟩ := HB.out
      go_wp2_with fail
      go_at_call 23
      refine (HW2.out _ HG.out).mono ?_
      rintro e w2 ⟨A4, d4, rfl, hi2, hb⟩
      have HG2 := Lib.hid (HG.out.trans hb); have HB2 := Lib.hid (HB.out.keep hb)
      have HI1n := Lib.hid (HI1.out.keep hb)
      clear HI1
      have HI1 := HI1n
      clear HI1n
      have HI2 := Lib.hid hi2
      clear hb hi2
      clear hlt a0 a1 a2 a3 a4 a5 a6 a7 a8 a9 a10 a11 a12 a13 c0 c1 c2 c3 c4 c5 e0 e1 e2 e3 e4 e5
      clear HG HB
      have HG := HG2; have HB := HB2
      clear HG2 HB2
      obtain ⟨wn, rfl⟩ : ∃ wn : World, wn = w2 := ⟨_, rfl⟩
      have hI := fun W (q1 : IntsAt W A3 kw uw) (q2 : IntsAt W A4 kw uw) => ints_any A3 A4 kw d3 kw d4 uw uw W q1 q2 (by omega)
      rw [eqTo_self, decide_eq_true rfl, Bool.and_self] at hI
      have HI := Lib.hid hI
      clear hI
      obtain ⟨hlt, ⟨a0, a1, a2, a3, a4, a5, a6, a7, a8, a9, a10, a11, a12, a13⟩, ⟨c0, c1, c2, c3, c4, c5⟩, ⟨e0, e1, e2, e3, e4, e5⟩⟩ := HB.out
      go_wp2_with fail
      go_at_call 19
      refine (HI.out _ HI1.out HI2.out).mono ?_
      rintro e w2 ⟨rfl, hb⟩
      have HG2 := Lib.hid (HG.out.trans hb); have HB2 := Lib.hid (HB.out.keep hb)
      clear hb 
      clear hlt a0 a1 a2 a3 a4 a5 a6 a7 a8 a9 a10 a11 a12 a13 c0 c1 c2 c3 c4 c5 e0 e1 e2 e3 e4 e5
      clear HG HB
      have HG := HG2; have HB := HB2
      clear HG2 HB2
      obtain ⟨wn, rfl⟩ : ∃ wn : World, wn = w2 := ⟨_, rfl⟩
      go_wp2_with fail
      go_ret
      exact ⟨rfl, HG.out⟩
end Go.Proofs.YtiogfohjepobkaaDoor
