/-
  The law VoiceRange.
-/
import Derived.Test.YtiogfohjepobkaaDoorR3Of
import Derived.Test.YtiogfohjepobkaaDoorCopy
import Derived.Test.YtiogfohjepobkaaDoorVHd
namespace Go.Proofs.YtiogfohjepobkaaDoor
open Go.RowKit

/-- The cells of the singer whose range has been moved in its first k exponents. -/
def mvI (lo hi d : Nat → Int) (st br : Int) (k p : Nat) : Int := if p < 6 then (if p < k then lo p + 12 * d p else lo p) else if p < 12 then (if p - 6 < k then hi (p - 6) + 12 * d (p - 6) else hi (p - 6)) else if p = 12 then st else br
def mvQ (lo hi d : Nat → Int) (st br : Int) (k p : Nat) : Value := .int .i64 (mvI lo hi d st br k p)
def wQ (x d : Nat → Int) (k p : Nat) : Value := .int .i64 (if p < k then x p + d p else x p)
theorem mvQ_step (lo hi d : Nat → Int) (st br : Int) (k : Nat) (hk : k < 6) (j : Nat) : (if j = 6 + k then Value.int .i64 (hi k + 12 * d k) else if j = k then .int .i64 (lo k + 12 * d k) else mvQ lo hi d st br k j) = mvQ lo hi d st br (k + 1) j := by
  by_cases e1 : j = 6 + k
  · subst e1
    rw [if_pos rfl]
    unfold mvQ mvI
    rw [if_neg (by omega), if_pos (by omega), if_pos (by omega), show 6 + k - 6 = k by omega]
  · rw [if_neg e1]
    by_cases e2 : j = k
    · subst e2
      rw [if_pos rfl]
      unfold mvQ mvI
      rw [if_pos hk, if_pos (by omega)]
    · rw [if_neg e2]
      unfold mvQ mvI
      by_cases e3 : j < 6
      · rw [if_pos e3, if_pos e3]
        by_cases e4 : j < k
        · rw [if_pos e4, if_pos (by omega)]
        · rw [if_neg e4, if_neg (by omega)]
      · rw [if_neg e3, if_neg e3]
        by_cases e5 : j < 12
        · rw [if_pos e5, if_pos e5]
          by_cases e4 : j - 6 < k
          · rw [if_pos e4, if_pos (by omega)]
          · rw [if_neg e4, if_neg (by omega)]
        · rw [if_neg e5, if_neg e5]
theorem wQ_step (x d : Nat → Int) (k j : Nat) : (if j = k then Value.int .i64 (x k + d k) else wQ x d k j) = wQ x d (k + 1) j := by
  by_cases e2 : j = k
  · subst e2
    rw [if_pos rfl]
    unfold wQ
    rw [if_pos (by omega)]
  · rw [if_neg e2]
    unfold wQ
    by_cases e4 : j < k
    · rw [if_pos e4, if_pos (by omega)]
    · rw [if_neg e4, if_neg (by omega)]
theorem has_moved (l0 l1 l2 l3 l4 l5 h0 h1 h2 h3 h4 h5 x0 x1 x2 x3 x4 x5 d0 d1 d2 d3 d4 d5 : Int) :
    hasB ⟨l0 + 12 * d0, l1 + 12 * d1, l2 + 12 * d2, l3 + 12 * d3, l4 + 12 * d4, l5 + 12 * d5⟩ ⟨h0 + 12 * d0, h1 + 12 * d1, h2 + 12 * d2, h3 + 12 * d3, h4 + 12 * d4, h5 + 12 * d5⟩ ⟨x0 + d0, x1 + d1, x2 + d2, x3 + d3, x4 + d4, x5 + d5⟩ = hasB ⟨l0, l1, l2, l3, l4, l5⟩ ⟨h0, h1, h2, h3, h4, h5⟩ ⟨x0, x1, x2, x3, x4, x5⟩ := by
  have e1 : ∀ a b d : Int, a + 12 * d - (b + d) * 12 = a - b * 12 := fun a b d => by omega
  have e2 : ∀ a b d : Int, (b + d) * 12 - (a + 12 * d) = b * 12 - a := fun a b d => by omega
  have s1 : V6.sub ⟨l0 + 12 * d0, l1 + 12 * d1, l2 + 12 * d2, l3 + 12 * d3, l4 + 12 * d4, l5 + 12 * d5⟩ (atV ⟨x0 + d0, x1 + d1, x2 + d2, x3 + d3, x4 + d4, x5 + d5⟩) = V6.sub ⟨l0, l1, l2, l3, l4, l5⟩ (atV ⟨x0, x1, x2, x3, x4, x5⟩) := by simp only [V6.sub, atV, e1]
  have s2 : V6.sub (atV ⟨x0 + d0, x1 + d1, x2 + d2, x3 + d3, x4 + d4, x5 + d5⟩) ⟨h0 + 12 * d0, h1 + 12 * d1, h2 + 12 * d2, h3 + 12 * d3, h4 + 12 * d4, h5 + 12 * d5⟩ = V6.sub (atV ⟨x0, x1, x2, x3, x4, x5⟩) ⟨h0, h1, h2, h3, h4, h5⟩ := by simp only [V6.sub, atV, e2]
  unfold hasB
  rw [s1, s2]
theorem has_between {lo hi x y z : V6} (u1 : cmpP (V6.sub (atV x) (atV y)) ≤ 0) (u2 : cmpP (V6.sub (atV y) (atV z)) ≤ 0) (u3 : hasB lo hi x = true) (u4 : hasB lo hi z = true) : hasB lo hi y = true := by
  simp only [hasB, Bool.and_eq_true, decide_eq_true_eq] at u3 u4 ⊢
  have tri : ∀ p q r : V6, cmpP (p.sub q) ≤ 0 → cmpP (q.sub r) ≤ 0 → cmpP (p.sub r) ≤ 0 := by
    intro p q r h1 h2
    have e1 : p.sub q = (q.sub p).neg := by simp only [V6.sub, V6.neg]; congr 1 <;> omega
    have e2 : q.sub r = (r.sub q).neg := by simp only [V6.sub, V6.neg]; congr 1 <;> omega
    have e3 : p.sub r = ((r.sub q).add (q.sub p)).neg := by simp only [V6.sub, V6.neg, V6.add]; congr 1 <;> omega
    rw [e1, cmpP_neg] at h1
    rw [e2, cmpP_neg] at h2
    rw [e3, cmpP_neg]
    have := (cmpP_add (r.sub q) (q.sub p)).1 (by omega) (by omega)
    omega
  exact ⟨tri _ _ _ u3.1 u1, tri _ _ _ u2 u4.2⟩

set_option maxRecDepth 100000 in
set_option maxHeartbeats 16000000 in
theorem vrange_bad1 (l0 l1 l2 l3 l4 l5 h0 h1 h2 h3 h4 h5 st br x0 x1 x2 x3 x4 x5 y0 y1 y2 y3 y4 y5 z0 z1 z2 z3 z4 z5 d0 d1 d2 d3 d4 d5 : Int) (w : World) (hP : Primes w) (hL : Logs w) (r1 r2 r3 : Bool) (n1 n2 n3 : Int) (HX : Hid (∀ W, Primes W → Calls Tryd.prog 13 #[.agg #[.int .i64 l0, .int .i64 l1, .int .i64 l2, .int .i64 l3, .int .i64 l4, .int .i64 l5, .int .i64 h0, .int .i64 h1, .int .i64 h2, .int .i64 h3, .int .i64 h4, .int .i64 h5, .int .i64 st, .int .i64 br], .agg #[.int .i64 x0, .int .i64 x1, .int .i64 x2, .int .i64 x3, .int .i64 x4, .int .i64 x5]] W fun e w' => e = .returned (.tuple #[.bool r1, .int .i64 n1]) ∧ Gr W w')) (HY : Hid (∀ W, Primes W → Calls Tryd.prog 13 #[.agg #[.int .i64 l0, .int .i64 l1, .int .i64 l2, .int .i64 l3, .int .i64 l4, .int .i64 l5, .int .i64 h0, .int .i64 h1, .int .i64 h2, .int .i64 h3, .int .i64 h4, .int .i64 h5, .int .i64 st, .int .i64 br], .agg #[.int .i64 y0, .int .i64 y1, .int .i64 y2, .int .i64 y3, .int .i64 y4, .int .i64 y5]] W fun e w' => e = .returned (.tuple #[.bool r2, .int .i64 n2]) ∧ Gr W w')) (HZ : Hid (∀ W, Primes W → Calls Tryd.prog 13 #[.agg #[.int .i64 l0, .int .i64 l1, .int .i64 l2, .int .i64 l3, .int .i64 l4, .int .i64 l5, .int .i64 h0, .int .i64 h1, .int .i64 h2, .int .i64 h3, .int .i64 h4, .int .i64 h5, .int .i64 st, .int .i64 br], .agg #[.int .i64 z0, .int .i64 z1, .int .i64 z2, .int .i64 z3, .int .i64 z4, .int .i64 z5]] W fun e w' => e = .returned (.tuple #[.bool r3, .int .i64 n3]) ∧ Gr W w'))
    (hn : n1 ≠ 0 ∨ (n1 = 0 ∧ n2 ≠ 0) ∨ (n1 = 0 ∧ n2 = 0 ∧ n3 ≠ 0)) :
    Calls Tryd.prog 4 #[.agg #[.int .i64 l0, .int .i64 l1, .int .i64 l2, .int .i64 l3, .int .i64 l4, .int .i64 l5, .int .i64 h0, .int .i64 h1, .int .i64 h2, .int .i64 h3, .int .i64 h4, .int .i64 h5, .int .i64 st, .int .i64 br], .agg #[.int .i64 x0, .int .i64 x1, .int .i64 x2, .int .i64 x3, .int .i64 x4, .int .i64 x5], .agg #[.int .i64 y0, .int .i64 y1, .int .i64 y2, .int .i64 y3, .int .i64 y4, .int .i64 y5], .agg #[.int .i64 z0, .int .i64 z1, .int .i64 z2, .int .i64 z3, .int .i64 z4, .int .i64 z5], .agg #[.int .i64 d0, .int .i64 d1, .int .i64 d2, .int .i64 d3, .int .i64 d4, .int .i64 d5]] w fun e w' => e = .returned (.bool true) ∧ Gr w w' := by
  have HP := Lib.hid hP; have HL := Lib.hid hL
  clear hP hL
  have hs : ((n1 != 0) = true) ∨ ((n1 != 0) = false ∧ (n2 != 0) = true) ∨ ((n1 != 0) = false ∧ (n2 != 0) = false ∧ (n3 != 0) = true) := by
    rcases hn with h | ⟨h, h'⟩ | ⟨h, h', h''⟩ <;> simp [*]
  have ht : ((n1 == 0) = false) ∨ ((n1 == 0) = true ∧ (n2 == 0) = false) ∨ ((n1 == 0) = true ∧ (n2 == 0) = true ∧ (n3 == 0) = false) := by
    rcases hn with h | ⟨h, h'⟩ | ⟨h, h', h''⟩ <;> simp [*]
  clear hn
  go_enter Tryd.func4, Tryd.ntmps4
  go_wp2_with fail
  (go_at_call 10; with_reducible refine (vhead_any _ (HP.out.keep (by repeat (first | with_reducible exact Gr.refl _ | with_reducible refine Gr.alloc ?_ _ | with_reducible refine Gr.drew ?_ | with_reducible refine Gr.trans ?_ (by assumption) | with_reducible refine Gr.setCell ?_ (by (try simp); (try omega)) _))) (HL.out.keep (by repeat (first | with_reducible exact Gr.refl _ | with_reducible refine Gr.alloc ?_ _ | with_reducible refine Gr.drew ?_ | with_reducible refine Gr.trans ?_ (by assumption) | with_reducible refine Gr.setCell ?_ (by (try simp); (try omega)) _)))).mono ?_; rintro e w' ⟨rfl, hb⟩; have hz := hb.le; obtain ⟨hc, hf⟩ := hb.cells; have hn := hb.cellsN; (try simp only [World.size_alloc] at hc hf hz hn); (try simp only [World.size_setCell] at hc hf hz hn); (try simp only [World.size_drew] at hc hf hz hn))
  go_wp2_with fail
  (go_at_call 13; with_reducible refine (HX.out _ (HP.out.keep (by repeat (first | with_reducible exact Gr.refl _ | with_reducible refine Gr.alloc ?_ _ | with_reducible refine Gr.drew ?_ | with_reducible refine Gr.trans ?_ (by assumption) | with_reducible refine Gr.setCell ?_ (by (try simp); (try omega)) _)))).mono ?_; rintro e w' ⟨rfl, hb⟩; have hz := hb.le; obtain ⟨hc, hf⟩ := hb.cells; have hn := hb.cellsN; (try simp only [World.size_alloc] at hc hf hz hn); (try simp only [World.size_setCell] at hc hf hz hn); (try simp only [World.size_drew] at hc hf hz hn))
  go_wp2_with fail
  (go_at_call 13; with_reducible refine (HY.out _ (HP.out.keep (by repeat (first | with_reducible exact Gr.refl _ | with_reducible refine Gr.alloc ?_ _ | with_reducible refine Gr.drew ?_ | with_reducible refine Gr.trans ?_ (by assumption) | with_reducible refine Gr.setCell ?_ (by (try simp); (try omega)) _)))).mono ?_; rintro e w' ⟨rfl, hb⟩; have hz := hb.le; obtain ⟨hc, hf⟩ := hb.cells; have hn := hb.cellsN; (try simp only [World.size_alloc] at hc hf hz hn); (try simp only [World.size_setCell] at hc hf hz hn); (try simp only [World.size_drew] at hc hf hz hn))
  go_wp2_with fail
  (go_at_call 13; with_reducible refine (HZ.out _ (HP.out.keep (by repeat (first | with_reducible exact Gr.refl _ | with_reducible refine Gr.alloc ?_ _ | with_reducible refine Gr.drew ?_ | with_reducible refine Gr.trans ?_ (by assumption) | with_reducible refine Gr.setCell ?_ (by (try simp); (try omega)) _)))).mono ?_; rintro e w' ⟨rfl, hb⟩; have hz := hb.le; obtain ⟨hc, hf⟩ := hb.cells; have hn := hb.cellsN; (try simp only [World.size_alloc] at hc hf hz hn); (try simp only [World.size_setCell] at hc hf hz hn); (try simp only [World.size_drew] at hc hf hz hn))
  rcases hs with e1 | ⟨e1, e2⟩ | ⟨e1, e2, e3⟩
  all_goals
    go_wp2_with fail
    go_ret
    exact ⟨rfl, (by repeat (first | with_reducible exact Gr.refl _ | with_reducible refine Gr.alloc ?_ _ | with_reducible refine Gr.drew ?_ | with_reducible refine Gr.trans ?_ (by assumption) | with_reducible refine Gr.setCell ?_ (by (try simp); (try omega)) _))⟩

set_option maxRecDepth 100000 in
set_option maxHeartbeats 16000000 in
theorem vrange_good (l0 l1 l2 l3 l4 l5 h0 h1 h2 h3 h4 h5 st br x0 x1 x2 x3 x4 x5 y0 y1 y2 y3 y4 y5 z0 z1 z2 z3 z4 z5 d0 d1 d2 d3 d4 d5 : Int) (w : World) (hP : Primes w) (hL : Logs w) (q1 : voiceOk ⟨l0, l1, l2, l3, l4, l5⟩ ⟨h0, h1, h2, h3, h4, h5⟩ st br = true) (qx : allIn ⟨x0, x1, x2, x3, x4, x5⟩ 48 6 = true) (qy : allIn ⟨y0, y1, y2, y3, y4, y5⟩ 48 6 = true) (qz : allIn ⟨z0, z1, z2, z3, z4, z5⟩ 48 6 = true) :
    Calls Tryd.prog 4 #[.agg #[.int .i64 l0, .int .i64 l1, .int .i64 l2, .int .i64 l3, .int .i64 l4, .int .i64 l5, .int .i64 h0, .int .i64 h1, .int .i64 h2, .int .i64 h3, .int .i64 h4, .int .i64 h5, .int .i64 st, .int .i64 br], .agg #[.int .i64 x0, .int .i64 x1, .int .i64 x2, .int .i64 x3, .int .i64 x4, .int .i64 x5], .agg #[.int .i64 y0, .int .i64 y1, .int .i64 y2, .int .i64 y3, .int .i64 y4, .int .i64 y5], .agg #[.int .i64 z0, .int .i64 z1, .int .i64 z2, .int .i64 z3, .int .i64 z4, .int .i64 z5], .agg #[.int .i64 d0, .int .i64 d1, .int .i64 d2, .int .i64 d3, .int .i64 d4, .int .i64 d5]] w fun e w' => e = .returned (.bool true) ∧ Gr w w' := by
  have HX : Hid (∀ W, Primes W → Calls Tryd.prog 13 #[.agg #[.int .i64 l0, .int .i64 l1, .int .i64 l2, .int .i64 l3, .int .i64 l4, .int .i64 l5, .int .i64 h0, .int .i64 h1, .int .i64 h2, .int .i64 h3, .int .i64 h4, .int .i64 h5, .int .i64 st, .int .i64 br], .agg #[.int .i64 x0, .int .i64 x1, .int .i64 x2, .int .i64 x3, .int .i64 x4, .int .i64 x5]] W fun e w' => e = .returned (.tuple #[.bool (hasB ⟨l0, l1, l2, l3, l4, l5⟩ ⟨h0, h1, h2, h3, h4, h5⟩ ⟨x0, x1, x2, x3, x4, x5⟩), .int .i64 0]) ∧ Gr W w') := Lib.hid (fun W h => by have k := vhas_any l0 l1 l2 l3 l4 l5 h0 h1 h2 h3 h4 h5 st br x0 x1 x2 x3 x4 x5 W h; simpa only [q1, qx, Bool.true_and, Bool.and_self, cond_true] using k)
  have HY : Hid (∀ W, Primes W → Calls Tryd.prog 13 #[.agg #[.int .i64 l0, .int .i64 l1, .int .i64 l2, .int .i64 l3, .int .i64 l4, .int .i64 l5, .int .i64 h0, .int .i64 h1, .int .i64 h2, .int .i64 h3, .int .i64 h4, .int .i64 h5, .int .i64 st, .int .i64 br], .agg #[.int .i64 y0, .int .i64 y1, .int .i64 y2, .int .i64 y3, .int .i64 y4, .int .i64 y5]] W fun e w' => e = .returned (.tuple #[.bool (hasB ⟨l0, l1, l2, l3, l4, l5⟩ ⟨h0, h1, h2, h3, h4, h5⟩ ⟨y0, y1, y2, y3, y4, y5⟩), .int .i64 0]) ∧ Gr W w') := Lib.hid (fun W h => by have k := vhas_any l0 l1 l2 l3 l4 l5 h0 h1 h2 h3 h4 h5 st br y0 y1 y2 y3 y4 y5 W h; simpa only [q1, qy, Bool.true_and, Bool.and_self, cond_true] using k)
  have HZ : Hid (∀ W, Primes W → Calls Tryd.prog 13 #[.agg #[.int .i64 l0, .int .i64 l1, .int .i64 l2, .int .i64 l3, .int .i64 l4, .int .i64 l5, .int .i64 h0, .int .i64 h1, .int .i64 h2, .int .i64 h3, .int .i64 h4, .int .i64 h5, .int .i64 st, .int .i64 br], .agg #[.int .i64 z0, .int .i64 z1, .int .i64 z2, .int .i64 z3, .int .i64 z4, .int .i64 z5]] W fun e w' => e = .returned (.tuple #[.bool (hasB ⟨l0, l1, l2, l3, l4, l5⟩ ⟨h0, h1, h2, h3, h4, h5⟩ ⟨z0, z1, z2, z3, z4, z5⟩), .int .i64 0]) ∧ Gr W w') := Lib.hid (fun W h => by have k := vhas_any l0 l1 l2 l3 l4 l5 h0 h1 h2 h3 h4 h5 st br z0 z1 z2 z3 z4 z5 W h; simpa only [q1, qz, Bool.true_and, Bool.and_self, cond_true] using k)
  have HP := Lib.hid hP; have HL := Lib.hid hL; have HQ := Lib.hid (And.intro q1 (And.intro qx (And.intro qy qz)))
  clear hP hL q1 qx qy qz
  generalize hea : hasB ⟨l0, l1, l2, l3, l4, l5⟩ ⟨h0, h1, h2, h3, h4, h5⟩ ⟨x0, x1, x2, x3, x4, x5⟩ = a at HX
  generalize heb : hasB ⟨l0, l1, l2, l3, l4, l5⟩ ⟨h0, h1, h2, h3, h4, h5⟩ ⟨y0, y1, y2, y3, y4, y5⟩ = b at HY
  generalize hec : hasB ⟨l0, l1, l2, l3, l4, l5⟩ ⟨h0, h1, h2, h3, h4, h5⟩ ⟨z0, z1, z2, z3, z4, z5⟩ = c at HZ
  have HE := Lib.hid (And.intro hea (And.intro heb hec))
  clear hea heb hec
  go_enter Tryd.func4, Tryd.ntmps4
  go_wp2_with fail
  go_at_call 10
  with_reducible refine (vhead_any _ (HP.out.keep (by repeat (first | with_reducible exact Gr.refl _ | with_reducible refine Gr.alloc ?_ _ | with_reducible refine Gr.drew ?_ | with_reducible refine Gr.trans ?_ (by assumption) | with_reducible refine Gr.setCell ?_ (by (try simp); (try omega)) _))) (HL.out.keep (by repeat (first | with_reducible exact Gr.refl _ | with_reducible refine Gr.alloc ?_ _ | with_reducible refine Gr.drew ?_ | with_reducible refine Gr.trans ?_ (by assumption) | with_reducible refine Gr.setCell ?_ (by (try simp); (try omega)) _)))).mono ?_
  rintro e w1 ⟨rfl, hb1⟩
  have hz1 := hb1.le
  obtain ⟨hc1, hf1⟩ := hb1.cells
  have hn1 := hb1.cellsN
  (try simp only [World.size_alloc] at hc1 hf1 hz1 hn1); (try simp only [World.size_setCell] at hc1 hf1 hz1 hn1); (try simp only [World.size_drew] at hc1 hf1 hz1 hn1)
  go_wp2_with fail
  go_at_call 13
  with_reducible refine (HX.out _ (HP.out.keep (by repeat (first | with_reducible exact Gr.refl _ | with_reducible refine Gr.alloc ?_ _ | with_reducible refine Gr.drew ?_ | with_reducible refine Gr.trans ?_ (by assumption) | with_reducible refine Gr.setCell ?_ (by (try simp); (try omega)) _)))).mono ?_
  rintro e w2 ⟨rfl, hb2⟩
  have hz2 := hb2.le
  obtain ⟨hc2, hf2⟩ := hb2.cells
  have hn2 := hb2.cellsN
  (try simp only [World.size_alloc] at hc2 hf2 hz2 hn2); (try simp only [World.size_setCell] at hc2 hf2 hz2 hn2); (try simp only [World.size_drew] at hc2 hf2 hz2 hn2)
  go_wp2_with fail
  go_at_call 13
  with_reducible refine (HY.out _ (HP.out.keep (by repeat (first | with_reducible exact Gr.refl _ | with_reducible refine Gr.alloc ?_ _ | with_reducible refine Gr.drew ?_ | with_reducible refine Gr.trans ?_ (by assumption) | with_reducible refine Gr.setCell ?_ (by (try simp); (try omega)) _)))).mono ?_
  rintro e w3 ⟨rfl, hb3⟩
  have hz3 := hb3.le
  obtain ⟨hc3, hf3⟩ := hb3.cells
  have hn3 := hb3.cellsN
  (try simp only [World.size_alloc] at hc3 hf3 hz3 hn3); (try simp only [World.size_setCell] at hc3 hf3 hz3 hn3); (try simp only [World.size_drew] at hc3 hf3 hz3 hn3)
  go_wp2_with fail
  go_at_call 13
  with_reducible refine (HZ.out _ (HP.out.keep (by repeat (first | with_reducible exact Gr.refl _ | with_reducible refine Gr.alloc ?_ _ | with_reducible refine Gr.drew ?_ | with_reducible refine Gr.trans ?_ (by assumption) | with_reducible refine Gr.setCell ?_ (by (try simp); (try omega)) _)))).mono ?_
  rintro e w4 ⟨rfl, hb4⟩
  have hz4 := hb4.le
  obtain ⟨hc4, hf4⟩ := hb4.cells
  have hn4 := hb4.cellsN
  (try simp only [World.size_alloc] at hc4 hf4 hz4 hn4); (try simp only [World.size_setCell] at hc4 hf4 hz4 hn4); (try simp only [World.size_drew] at hc4 hf4 hz4 hn4)
  go_upto_region 7 with fail
  have hx4 : (w4).cell? ⟨w.heap.size, 0, none⟩ = some (.int .i64 l0) ∧ (w4).cell? ⟨w.heap.size, 1, none⟩ = some (.int .i64 l1) ∧ (w4).cell? ⟨w.heap.size, 2, none⟩ = some (.int .i64 l2) ∧ (w4).cell? ⟨w.heap.size, 3, none⟩ = some (.int .i64 l3) ∧ (w4).cell? ⟨w.heap.size, 4, none⟩ = some (.int .i64 l4) ∧ (w4).cell? ⟨w.heap.size, 5, none⟩ = some (.int .i64 l5) ∧ (w4).cell? ⟨w.heap.size, 6, none⟩ = some (.int .i64 h0) ∧ (w4).cell? ⟨w.heap.size, 7, none⟩ = some (.int .i64 h1) ∧ (w4).cell? ⟨w.heap.size, 8, none⟩ = some (.int .i64 h2) ∧ (w4).cell? ⟨w.heap.size, 9, none⟩ = some (.int .i64 h3) ∧ (w4).cell? ⟨w.heap.size, 10, none⟩ = some (.int .i64 h4) ∧ (w4).cell? ⟨w.heap.size, 11, none⟩ = some (.int .i64 h5) ∧ (w4).cell? ⟨w.heap.size, 12, none⟩ = some (.int .i64 st) ∧ (w4).cell? ⟨w.heap.size, 13, none⟩ = some (.int .i64 br) ∧ (w4).cell? ⟨w.heap.size + 1, 0, none⟩ = some (.int .i64 x0) ∧ (w4).cell? ⟨w.heap.size + 1, 1, none⟩ = some (.int .i64 x1) ∧ (w4).cell? ⟨w.heap.size + 1, 2, none⟩ = some (.int .i64 x2) ∧ (w4).cell? ⟨w.heap.size + 1, 3, none⟩ = some (.int .i64 x3) ∧ (w4).cell? ⟨w.heap.size + 1, 4, none⟩ = some (.int .i64 x4) ∧ (w4).cell? ⟨w.heap.size + 1, 5, none⟩ = some (.int .i64 x5) ∧ (w4).cell? ⟨w.heap.size + 1 + 1, 0, none⟩ = some (.int .i64 y0) ∧ (w4).cell? ⟨w.heap.size + 1 + 1, 1, none⟩ = some (.int .i64 y1) ∧ (w4).cell? ⟨w.heap.size + 1 + 1, 2, none⟩ = some (.int .i64 y2) ∧ (w4).cell? ⟨w.heap.size + 1 + 1, 3, none⟩ = some (.int .i64 y3) ∧ (w4).cell? ⟨w.heap.size + 1 + 1, 4, none⟩ = some (.int .i64 y4) ∧ (w4).cell? ⟨w.heap.size + 1 + 1, 5, none⟩ = some (.int .i64 y5) ∧ (w4).cell? ⟨w.heap.size + 1 + 1 + 1, 0, none⟩ = some (.int .i64 z0) ∧ (w4).cell? ⟨w.heap.size + 1 + 1 + 1, 1, none⟩ = some (.int .i64 z1) ∧ (w4).cell? ⟨w.heap.size + 1 + 1 + 1, 2, none⟩ = some (.int .i64 z2) ∧ (w4).cell? ⟨w.heap.size + 1 + 1 + 1, 3, none⟩ = some (.int .i64 z3) ∧ (w4).cell? ⟨w.heap.size + 1 + 1 + 1, 4, none⟩ = some (.int .i64 z4) ∧ (w4).cell? ⟨w.heap.size + 1 + 1 + 1, 5, none⟩ = some (.int .i64 z5) ∧ (w4).cell? ⟨w.heap.size + 1 + 1 + 1 + 1, 0, none⟩ = some (.int .i64 d0) ∧ (w4).cell? ⟨w.heap.size + 1 + 1 + 1 + 1, 1, none⟩ = some (.int .i64 d1) ∧ (w4).cell? ⟨w.heap.size + 1 + 1 + 1 + 1, 2, none⟩ = some (.int .i64 d2) ∧ (w4).cell? ⟨w.heap.size + 1 + 1 + 1 + 1, 3, none⟩ = some (.int .i64 d3) ∧ (w4).cell? ⟨w.heap.size + 1 + 1 + 1 + 1, 4, none⟩ = some (.int .i64 d4) ∧ (w4).cell? ⟨w.heap.size + 1 + 1 + 1 + 1, 5, none⟩ = some (.int .i64 d5) := ⟨by simp [go_sem, *], by simp [go_sem, *], by simp [go_sem, *], by simp [go_sem, *], by simp [go_sem, *], by simp [go_sem, *], by simp [go_sem, *], by simp [go_sem, *], by simp [go_sem, *], by simp [go_sem, *], by simp [go_sem, *], by simp [go_sem, *], by simp [go_sem, *], by simp [go_sem, *], by simp [go_sem, *], by simp [go_sem, *], by simp [go_sem, *], by simp [go_sem, *], by simp [go_sem, *], by simp [go_sem, *], by simp [go_sem, *], by simp [go_sem, *], by simp [go_sem, *], by simp [go_sem, *], by simp [go_sem, *], by simp [go_sem, *], by simp [go_sem, *], by simp [go_sem, *], by simp [go_sem, *], by simp [go_sem, *], by simp [go_sem, *], by simp [go_sem, *], by simp [go_sem, *], by simp [go_sem, *], by simp [go_sem, *], by simp [go_sem, *], by simp [go_sem, *], by simp [go_sem, *]⟩
  have hg4 : Gr w w4 := (by repeat (first | with_reducible exact Gr.refl _ | with_reducible refine Gr.alloc ?_ _ | with_reducible refine Gr.drew ?_ | with_reducible refine Gr.trans ?_ (by assumption) | with_reducible refine Gr.setCell ?_ (by (try simp); (try omega)) _))
  have hs4 : w.heap.size + 1 + 1 + 1 + 1 < w4.heap.size := by omega
  clear hb1 hz1 hc1 hf1 hn1 hb2 hz2 hc2 hf2 hn2 hb3 hz3 hc3 hf3 hn3 hb4 hz4 hc4 hf4 hn4
  have HG4 := Lib.hid hg4
  clear hg4
  obtain ⟨cv0, cv1, cv2, cv3, cv4, cv5, cv6, cv7, cv8, cv9, cv10, cv11, cv12, cv13, cx0, cx1, cx2, cx3, cx4, cx5, cy0, cy1, cy2, cy3, cy4, cy5, cz0, cz1, cz2, cz3, cz4, cz5, cd0, cd1, cd2, cd3, cd4, cd5⟩ := hx4
  go_wp2_with fail
  go_at_call 24
  with_reducible refine (r3of_ok x0 x1 x2 x3 x4 x5 _ HQ.out.2.1).mono ?_
  rintro e w5 ⟨rfl, hb5⟩
  have hz5 := hb5.le
  obtain ⟨hc5, hf5⟩ := hb5.cells
  have hn5 := hb5.cellsN
  (try simp only [World.size_alloc] at hc5 hf5 hz5 hn5); (try simp only [World.size_setCell] at hc5 hf5 hz5 hn5); (try simp only [World.size_drew] at hc5 hf5 hz5 hn5)
  go_wp2_with fail
  go_at_call 24
  with_reducible refine (r3of_ok y0 y1 y2 y3 y4 y5 _ HQ.out.2.2.1).mono ?_
  rintro e w6 ⟨rfl, hb6⟩
  have hz6 := hb6.le
  obtain ⟨hc6, hf6⟩ := hb6.cells
  have hn6 := hb6.cellsN
  (try simp only [World.size_alloc] at hc6 hf6 hz6 hn6); (try simp only [World.size_setCell] at hc6 hf6 hz6 hn6); (try simp only [World.size_drew] at hc6 hf6 hz6 hn6)
  go_wp2_with fail
  go_at_call 24
  with_reducible refine (r3of_ok z0 z1 z2 z3 z4 z5 _ HQ.out.2.2.2).mono ?_
  rintro e w7 ⟨rfl, hb7⟩
  have hz7 := hb7.le
  obtain ⟨hc7, hf7⟩ := hb7.cells
  have hn7 := hb7.cellsN
  (try simp only [World.size_alloc] at hc7 hf7 hz7 hn7); (try simp only [World.size_setCell] at hc7 hf7 hz7 hn7); (try simp only [World.size_drew] at hc7 hf7 hz7 hn7)
  go_upto_region 10 with fail
  have hx7 : (w7.alloc (.cells #[.int .i64 (z0 * 12), .int .i64 (z1 * 12), .int .i64 (z2 * 12), .int .i64 (z3 * 12), .int .i64 (z4 * 12), .int .i64 (z5 * 12)] 23)).cell? ⟨w.heap.size, 0, none⟩ = some (.int .i64 l0) ∧ (w7.alloc (.cells #[.int .i64 (z0 * 12), .int .i64 (z1 * 12), .int .i64 (z2 * 12), .int .i64 (z3 * 12), .int .i64 (z4 * 12), .int .i64 (z5 * 12)] 23)).cell? ⟨w.heap.size, 1, none⟩ = some (.int .i64 l1) ∧ (w7.alloc (.cells #[.int .i64 (z0 * 12), .int .i64 (z1 * 12), .int .i64 (z2 * 12), .int .i64 (z3 * 12), .int .i64 (z4 * 12), .int .i64 (z5 * 12)] 23)).cell? ⟨w.heap.size, 2, none⟩ = some (.int .i64 l2) ∧ (w7.alloc (.cells #[.int .i64 (z0 * 12), .int .i64 (z1 * 12), .int .i64 (z2 * 12), .int .i64 (z3 * 12), .int .i64 (z4 * 12), .int .i64 (z5 * 12)] 23)).cell? ⟨w.heap.size, 3, none⟩ = some (.int .i64 l3) ∧ (w7.alloc (.cells #[.int .i64 (z0 * 12), .int .i64 (z1 * 12), .int .i64 (z2 * 12), .int .i64 (z3 * 12), .int .i64 (z4 * 12), .int .i64 (z5 * 12)] 23)).cell? ⟨w.heap.size, 4, none⟩ = some (.int .i64 l4) ∧ (w7.alloc (.cells #[.int .i64 (z0 * 12), .int .i64 (z1 * 12), .int .i64 (z2 * 12), .int .i64 (z3 * 12), .int .i64 (z4 * 12), .int .i64 (z5 * 12)] 23)).cell? ⟨w.heap.size, 5, none⟩ = some (.int .i64 l5) ∧ (w7.alloc (.cells #[.int .i64 (z0 * 12), .int .i64 (z1 * 12), .int .i64 (z2 * 12), .int .i64 (z3 * 12), .int .i64 (z4 * 12), .int .i64 (z5 * 12)] 23)).cell? ⟨w.heap.size, 6, none⟩ = some (.int .i64 h0) ∧ (w7.alloc (.cells #[.int .i64 (z0 * 12), .int .i64 (z1 * 12), .int .i64 (z2 * 12), .int .i64 (z3 * 12), .int .i64 (z4 * 12), .int .i64 (z5 * 12)] 23)).cell? ⟨w.heap.size, 7, none⟩ = some (.int .i64 h1) ∧ (w7.alloc (.cells #[.int .i64 (z0 * 12), .int .i64 (z1 * 12), .int .i64 (z2 * 12), .int .i64 (z3 * 12), .int .i64 (z4 * 12), .int .i64 (z5 * 12)] 23)).cell? ⟨w.heap.size, 8, none⟩ = some (.int .i64 h2) ∧ (w7.alloc (.cells #[.int .i64 (z0 * 12), .int .i64 (z1 * 12), .int .i64 (z2 * 12), .int .i64 (z3 * 12), .int .i64 (z4 * 12), .int .i64 (z5 * 12)] 23)).cell? ⟨w.heap.size, 9, none⟩ = some (.int .i64 h3) ∧ (w7.alloc (.cells #[.int .i64 (z0 * 12), .int .i64 (z1 * 12), .int .i64 (z2 * 12), .int .i64 (z3 * 12), .int .i64 (z4 * 12), .int .i64 (z5 * 12)] 23)).cell? ⟨w.heap.size, 10, none⟩ = some (.int .i64 h4) ∧ (w7.alloc (.cells #[.int .i64 (z0 * 12), .int .i64 (z1 * 12), .int .i64 (z2 * 12), .int .i64 (z3 * 12), .int .i64 (z4 * 12), .int .i64 (z5 * 12)] 23)).cell? ⟨w.heap.size, 11, none⟩ = some (.int .i64 h5) ∧ (w7.alloc (.cells #[.int .i64 (z0 * 12), .int .i64 (z1 * 12), .int .i64 (z2 * 12), .int .i64 (z3 * 12), .int .i64 (z4 * 12), .int .i64 (z5 * 12)] 23)).cell? ⟨w.heap.size, 12, none⟩ = some (.int .i64 st) ∧ (w7.alloc (.cells #[.int .i64 (z0 * 12), .int .i64 (z1 * 12), .int .i64 (z2 * 12), .int .i64 (z3 * 12), .int .i64 (z4 * 12), .int .i64 (z5 * 12)] 23)).cell? ⟨w.heap.size, 13, none⟩ = some (.int .i64 br) ∧ (w7.alloc (.cells #[.int .i64 (z0 * 12), .int .i64 (z1 * 12), .int .i64 (z2 * 12), .int .i64 (z3 * 12), .int .i64 (z4 * 12), .int .i64 (z5 * 12)] 23)).cell? ⟨w.heap.size + 1, 0, none⟩ = some (.int .i64 x0) ∧ (w7.alloc (.cells #[.int .i64 (z0 * 12), .int .i64 (z1 * 12), .int .i64 (z2 * 12), .int .i64 (z3 * 12), .int .i64 (z4 * 12), .int .i64 (z5 * 12)] 23)).cell? ⟨w.heap.size + 1, 1, none⟩ = some (.int .i64 x1) ∧ (w7.alloc (.cells #[.int .i64 (z0 * 12), .int .i64 (z1 * 12), .int .i64 (z2 * 12), .int .i64 (z3 * 12), .int .i64 (z4 * 12), .int .i64 (z5 * 12)] 23)).cell? ⟨w.heap.size + 1, 2, none⟩ = some (.int .i64 x2) ∧ (w7.alloc (.cells #[.int .i64 (z0 * 12), .int .i64 (z1 * 12), .int .i64 (z2 * 12), .int .i64 (z3 * 12), .int .i64 (z4 * 12), .int .i64 (z5 * 12)] 23)).cell? ⟨w.heap.size + 1, 3, none⟩ = some (.int .i64 x3) ∧ (w7.alloc (.cells #[.int .i64 (z0 * 12), .int .i64 (z1 * 12), .int .i64 (z2 * 12), .int .i64 (z3 * 12), .int .i64 (z4 * 12), .int .i64 (z5 * 12)] 23)).cell? ⟨w.heap.size + 1, 4, none⟩ = some (.int .i64 x4) ∧ (w7.alloc (.cells #[.int .i64 (z0 * 12), .int .i64 (z1 * 12), .int .i64 (z2 * 12), .int .i64 (z3 * 12), .int .i64 (z4 * 12), .int .i64 (z5 * 12)] 23)).cell? ⟨w.heap.size + 1, 5, none⟩ = some (.int .i64 x5) ∧ (w7.alloc (.cells #[.int .i64 (z0 * 12), .int .i64 (z1 * 12), .int .i64 (z2 * 12), .int .i64 (z3 * 12), .int .i64 (z4 * 12), .int .i64 (z5 * 12)] 23)).cell? ⟨w.heap.size + 1 + 1 + 1 + 1, 0, none⟩ = some (.int .i64 d0) ∧ (w7.alloc (.cells #[.int .i64 (z0 * 12), .int .i64 (z1 * 12), .int .i64 (z2 * 12), .int .i64 (z3 * 12), .int .i64 (z4 * 12), .int .i64 (z5 * 12)] 23)).cell? ⟨w.heap.size + 1 + 1 + 1 + 1, 1, none⟩ = some (.int .i64 d1) ∧ (w7.alloc (.cells #[.int .i64 (z0 * 12), .int .i64 (z1 * 12), .int .i64 (z2 * 12), .int .i64 (z3 * 12), .int .i64 (z4 * 12), .int .i64 (z5 * 12)] 23)).cell? ⟨w.heap.size + 1 + 1 + 1 + 1, 2, none⟩ = some (.int .i64 d2) ∧ (w7.alloc (.cells #[.int .i64 (z0 * 12), .int .i64 (z1 * 12), .int .i64 (z2 * 12), .int .i64 (z3 * 12), .int .i64 (z4 * 12), .int .i64 (z5 * 12)] 23)).cell? ⟨w.heap.size + 1 + 1 + 1 + 1, 3, none⟩ = some (.int .i64 d3) ∧ (w7.alloc (.cells #[.int .i64 (z0 * 12), .int .i64 (z1 * 12), .int .i64 (z2 * 12), .int .i64 (z3 * 12), .int .i64 (z4 * 12), .int .i64 (z5 * 12)] 23)).cell? ⟨w.heap.size + 1 + 1 + 1 + 1, 4, none⟩ = some (.int .i64 d4) ∧ (w7.alloc (.cells #[.int .i64 (z0 * 12), .int .i64 (z1 * 12), .int .i64 (z2 * 12), .int .i64 (z3 * 12), .int .i64 (z4 * 12), .int .i64 (z5 * 12)] 23)).cell? ⟨w.heap.size + 1 + 1 + 1 + 1, 5, none⟩ = some (.int .i64 d5) ∧ (w7.alloc (.cells #[.int .i64 (z0 * 12), .int .i64 (z1 * 12), .int .i64 (z2 * 12), .int .i64 (z3 * 12), .int .i64 (z4 * 12), .int .i64 (z5 * 12)] 23)).cell? ⟨w5.heap.size, 0, none⟩ = some (.int .i64 (x0 * 12)) ∧ (w7.alloc (.cells #[.int .i64 (z0 * 12), .int .i64 (z1 * 12), .int .i64 (z2 * 12), .int .i64 (z3 * 12), .int .i64 (z4 * 12), .int .i64 (z5 * 12)] 23)).cell? ⟨w5.heap.size, 1, none⟩ = some (.int .i64 (x1 * 12)) ∧ (w7.alloc (.cells #[.int .i64 (z0 * 12), .int .i64 (z1 * 12), .int .i64 (z2 * 12), .int .i64 (z3 * 12), .int .i64 (z4 * 12), .int .i64 (z5 * 12)] 23)).cell? ⟨w5.heap.size, 2, none⟩ = some (.int .i64 (x2 * 12)) ∧ (w7.alloc (.cells #[.int .i64 (z0 * 12), .int .i64 (z1 * 12), .int .i64 (z2 * 12), .int .i64 (z3 * 12), .int .i64 (z4 * 12), .int .i64 (z5 * 12)] 23)).cell? ⟨w5.heap.size, 3, none⟩ = some (.int .i64 (x3 * 12)) ∧ (w7.alloc (.cells #[.int .i64 (z0 * 12), .int .i64 (z1 * 12), .int .i64 (z2 * 12), .int .i64 (z3 * 12), .int .i64 (z4 * 12), .int .i64 (z5 * 12)] 23)).cell? ⟨w5.heap.size, 4, none⟩ = some (.int .i64 (x4 * 12)) ∧ (w7.alloc (.cells #[.int .i64 (z0 * 12), .int .i64 (z1 * 12), .int .i64 (z2 * 12), .int .i64 (z3 * 12), .int .i64 (z4 * 12), .int .i64 (z5 * 12)] 23)).cell? ⟨w5.heap.size, 5, none⟩ = some (.int .i64 (x5 * 12)) ∧ (w7.alloc (.cells #[.int .i64 (z0 * 12), .int .i64 (z1 * 12), .int .i64 (z2 * 12), .int .i64 (z3 * 12), .int .i64 (z4 * 12), .int .i64 (z5 * 12)] 23)).cell? ⟨w6.heap.size, 0, none⟩ = some (.int .i64 (y0 * 12)) ∧ (w7.alloc (.cells #[.int .i64 (z0 * 12), .int .i64 (z1 * 12), .int .i64 (z2 * 12), .int .i64 (z3 * 12), .int .i64 (z4 * 12), .int .i64 (z5 * 12)] 23)).cell? ⟨w6.heap.size, 1, none⟩ = some (.int .i64 (y1 * 12)) ∧ (w7.alloc (.cells #[.int .i64 (z0 * 12), .int .i64 (z1 * 12), .int .i64 (z2 * 12), .int .i64 (z3 * 12), .int .i64 (z4 * 12), .int .i64 (z5 * 12)] 23)).cell? ⟨w6.heap.size, 2, none⟩ = some (.int .i64 (y2 * 12)) ∧ (w7.alloc (.cells #[.int .i64 (z0 * 12), .int .i64 (z1 * 12), .int .i64 (z2 * 12), .int .i64 (z3 * 12), .int .i64 (z4 * 12), .int .i64 (z5 * 12)] 23)).cell? ⟨w6.heap.size, 3, none⟩ = some (.int .i64 (y3 * 12)) ∧ (w7.alloc (.cells #[.int .i64 (z0 * 12), .int .i64 (z1 * 12), .int .i64 (z2 * 12), .int .i64 (z3 * 12), .int .i64 (z4 * 12), .int .i64 (z5 * 12)] 23)).cell? ⟨w6.heap.size, 4, none⟩ = some (.int .i64 (y4 * 12)) ∧ (w7.alloc (.cells #[.int .i64 (z0 * 12), .int .i64 (z1 * 12), .int .i64 (z2 * 12), .int .i64 (z3 * 12), .int .i64 (z4 * 12), .int .i64 (z5 * 12)] 23)).cell? ⟨w6.heap.size, 5, none⟩ = some (.int .i64 (y5 * 12)) ∧ (w7.alloc (.cells #[.int .i64 (z0 * 12), .int .i64 (z1 * 12), .int .i64 (z2 * 12), .int .i64 (z3 * 12), .int .i64 (z4 * 12), .int .i64 (z5 * 12)] 23)).cell? ⟨w7.heap.size, 0, none⟩ = some (.int .i64 (z0 * 12)) ∧ (w7.alloc (.cells #[.int .i64 (z0 * 12), .int .i64 (z1 * 12), .int .i64 (z2 * 12), .int .i64 (z3 * 12), .int .i64 (z4 * 12), .int .i64 (z5 * 12)] 23)).cell? ⟨w7.heap.size, 1, none⟩ = some (.int .i64 (z1 * 12)) ∧ (w7.alloc (.cells #[.int .i64 (z0 * 12), .int .i64 (z1 * 12), .int .i64 (z2 * 12), .int .i64 (z3 * 12), .int .i64 (z4 * 12), .int .i64 (z5 * 12)] 23)).cell? ⟨w7.heap.size, 2, none⟩ = some (.int .i64 (z2 * 12)) ∧ (w7.alloc (.cells #[.int .i64 (z0 * 12), .int .i64 (z1 * 12), .int .i64 (z2 * 12), .int .i64 (z3 * 12), .int .i64 (z4 * 12), .int .i64 (z5 * 12)] 23)).cell? ⟨w7.heap.size, 3, none⟩ = some (.int .i64 (z3 * 12)) ∧ (w7.alloc (.cells #[.int .i64 (z0 * 12), .int .i64 (z1 * 12), .int .i64 (z2 * 12), .int .i64 (z3 * 12), .int .i64 (z4 * 12), .int .i64 (z5 * 12)] 23)).cell? ⟨w7.heap.size, 4, none⟩ = some (.int .i64 (z4 * 12)) ∧ (w7.alloc (.cells #[.int .i64 (z0 * 12), .int .i64 (z1 * 12), .int .i64 (z2 * 12), .int .i64 (z3 * 12), .int .i64 (z4 * 12), .int .i64 (z5 * 12)] 23)).cell? ⟨w7.heap.size, 5, none⟩ = some (.int .i64 (z5 * 12)) := ⟨by simp [go_sem, *], by simp [go_sem, *], by simp [go_sem, *], by simp [go_sem, *], by simp [go_sem, *], by simp [go_sem, *], by simp [go_sem, *], by simp [go_sem, *], by simp [go_sem, *], by simp [go_sem, *], by simp [go_sem, *], by simp [go_sem, *], by simp [go_sem, *], by simp [go_sem, *], by simp [go_sem, *], by simp [go_sem, *], by simp [go_sem, *], by simp [go_sem, *], by simp [go_sem, *], by simp [go_sem, *], by simp [go_sem, *], by simp [go_sem, *], by simp [go_sem, *], by simp [go_sem, *], by simp [go_sem, *], by simp [go_sem, *], by simp [go_sem, *], by simp [go_sem, *], by simp [go_sem, *], by simp [go_sem, *], by simp [go_sem, *], by simp [go_sem, *], by simp [go_sem, *], by simp [go_sem, *], by simp [go_sem, *], by simp [go_sem, *], by simp [go_sem, *], by simp [go_sem, *], by simp [go_sem, *], by simp [go_sem, *], by simp [go_sem, *], by simp [go_sem, *], by simp [go_sem, *], by simp [go_sem, *]⟩
  have hg7 : Gr w4 (w7.alloc (.cells #[.int .i64 (z0 * 12), .int .i64 (z1 * 12), .int .i64 (z2 * 12), .int .i64 (z3 * 12), .int .i64 (z4 * 12), .int .i64 (z5 * 12)] 23)) := (by repeat (first | with_reducible exact Gr.refl _ | with_reducible refine Gr.alloc ?_ _ | with_reducible refine Gr.drew ?_ | with_reducible refine Gr.trans ?_ (by assumption) | with_reducible refine Gr.setCell ?_ (by (try simp); (try omega)) _))
  have hs7 : w4.heap.size ≤ w5.heap.size ∧ w5.heap.size < w6.heap.size ∧ w6.heap.size < w7.heap.size ∧ w7.heap.size < (w7.alloc (.cells #[.int .i64 (z0 * 12), .int .i64 (z1 * 12), .int .i64 (z2 * 12), .int .i64 (z3 * 12), .int .i64 (z4 * 12), .int .i64 (z5 * 12)] 23)).heap.size := by simp; omega
  clear hb5 hz5 hc5 hf5 hn5 hb6 hz6 hc6 hf6 hn6 hb7 hz7 hc7 hf7 hn7
  clear cv0 cv1 cv2 cv3 cv4 cv5 cv6 cv7 cv8 cv9 cv10 cv11 cv12 cv13 cx0 cx1 cx2 cx3 cx4 cx5 cy0 cy1 cy2 cy3 cy4 cy5 cz0 cz1 cz2 cz3 cz4 cz5 cd0 cd1 cd2 cd3 cd4 cd5
  generalize w7.alloc (.cells #[.int .i64 (z0 * 12), .int .i64 (z1 * 12), .int .i64 (z2 * 12), .int .i64 (z3 * 12), .int .i64 (z4 * 12), .int .i64 (z5 * 12)] 23) = wq at *
  generalize w5.heap.size = B5 at *
  generalize w6.heap.size = B6 at *
  generalize w7.heap.size = B7 at *
  obtain ⟨t5, t6, t7, t8⟩ := hs7
  have HG7 := Lib.hid hg7
  clear hg7
  obtain ⟨cv0, cv1, cv2, cv3, cv4, cv5, cv6, cv7, cv8, cv9, cv10, cv11, cv12, cv13, cx0, cx1, cx2, cx3, cx4, cx5, cd0, cd1, cd2, cd3, cd4, cd5, cp0, cp1, cp2, cp3, cp4, cp5, cq0, cq1, cq2, cq3, cq4, cq5, cr0, cr1, cr2, cr3, cr4, cr5⟩ := hx7
  have ax := atV_in HQ.out.2.1
  have ay := atV_in HQ.out.2.2.1
  have az := atV_in HQ.out.2.2.2
  simp only [atV] at ax ay az
  have hC1 := fun W => r3cmp_ok (x0 * 12) (x1 * 12) (x2 * 12) (x3 * 12) (x4 * 12) (x5 * 12) (y0 * 12) (y1 * 12) (y2 * 12) (y3 * 12) (y4 * 12) (y5 * 12) W ax ay
  have hC2 := fun W => r3cmp_ok (y0 * 12) (y1 * 12) (y2 * 12) (y3 * 12) (y4 * 12) (y5 * 12) (z0 * 12) (z1 * 12) (z2 * 12) (z3 * 12) (z4 * 12) (z5 * 12) W ay az
  clear ax ay az
  generalize hlo : cmpP (V6.sub ⟨x0 * 12, x1 * 12, x2 * 12, x3 * 12, x4 * 12, x5 * 12⟩ ⟨y0 * 12, y1 * 12, y2 * 12, y3 * 12, y4 * 12, y5 * 12⟩) = low at hC1
  generalize hhi : cmpP (V6.sub ⟨y0 * 12, y1 * 12, y2 * 12, y3 * 12, y4 * 12, y5 * 12⟩ ⟨z0 * 12, z1 * 12, z2 * 12, z3 * 12, z4 * 12, z5 * 12⟩) = high at hC2
  have HC1 := Lib.hid hC1; have HC2 := Lib.hid hC2
  have HABC : Hid (low ≤ 0 → high ≤ 0 → a = true → c = true → b = true) := Lib.hid (fun u1 u2 u3 u4 => by
    rw [← hlo] at u1; rw [← hhi] at u2; rw [← HE.out.1] at u3; rw [← HE.out.2.2] at u4; rw [← HE.out.2.1]
    exact has_between (x := ⟨x0, x1, x2, x3, x4, x5⟩) (y := ⟨y0, y1, y2, y3, y4, y5⟩) (z := ⟨z0, z1, z2, z3, z4, z5⟩) (by simp only [atV]; exact u1) (by simp only [atV]; exact u2) u3 u4)
  clear hC1 hC2 hlo hhi
  go_wp2_with fail
  go_at_call 25
  with_reducible refine (HC1.out _).mono ?_
  rintro e w8 ⟨rfl, hb8⟩
  have hz8 := hb8.le
  obtain ⟨hc8, hf8⟩ := hb8.cells
  have hn8 := hb8.cellsN
  (try simp only [World.size_alloc] at hc8 hf8 hz8 hn8); (try simp only [World.size_setCell] at hc8 hf8 hz8 hn8); (try simp only [World.size_drew] at hc8 hf8 hz8 hn8)
  go_wp2_with fail
  go_at_call 25
  with_reducible refine (HC2.out _).mono ?_
  rintro e w9 ⟨rfl, hb9⟩
  have hz9 := hb9.le
  obtain ⟨hc9, hf9⟩ := hb9.cells
  have hn9 := hb9.cellsN
  (try simp only [World.size_alloc] at hc9 hf9 hz9 hn9); (try simp only [World.size_setCell] at hc9 hf9 hz9 hn9); (try simp only [World.size_drew] at hc9 hf9 hz9 hn9)
  go_upto_region 12 with fail
  go_cut [110] (fun s wx => s = .bool (decide (low ≤ 0) && (decide (high ≤ 0) && (a && c))) ∧ wx = w9)
  case first =>
    rcases tf (decide (low ≤ 0)) with u1 | u1
    · rcases tf (decide (high ≤ 0)) with u2 | u2
      · cases a
        · go_wp2_with fail
          go_meet
          exact ⟨by simp only [u1, u2, Bool.false_and, Bool.and_false], rfl⟩
        · cases c
          · go_wp2_with fail
            go_meet
            exact ⟨by simp only [u1, u2, Bool.and_false], rfl⟩
          · go_wp2_with fail
            go_meet
            exact ⟨by simp only [u1, u2, Bool.and_self], rfl⟩
      · go_wp2_with fail
        go_meet
        exact ⟨by simp only [u1, u2, Bool.false_and, Bool.and_false], rfl⟩
    · go_wp2_with fail
      go_meet
      exact ⟨by simp only [u1, Bool.false_and], rfl⟩
  case rest =>
    obtain ⟨rfl, hwc⟩ := hcut
    obtain rfl : w9 = wc := hwc.symm
    generalize hX : (decide (low ≤ 0) && (decide (high ≤ 0) && (a && c))) = X at *
    have HXB : Hid (X = true → b = true) := Lib.hid (fun u => by
      rw [← hX] at u
      simp only [Bool.and_eq_true, decide_eq_true_eq] at u
      exact HABC.out u.1 u.2.1 u.2.2.1 u.2.2.2)
    clear hX
    go_upto_if 110 with fail
    go_cut [11] (fun s wx => s = .bool true ∧ wx = w9)
    case first =>
      rcases tf X with u | u
      · have HBT := Lib.hid (HXB.out u)
        subst u
        go_wp2_with fail
        go_meet
        exact ⟨by rw [HBT.out], rfl⟩
      · subst u
        go_wp2_with fail
        go_meet
        exact ⟨rfl, rfl⟩
    case rest =>
      obtain ⟨rfl, hwc⟩ := hcut
      obtain rfl : w9 = wc := hwc.symm
      go_upto_region 16 with fail
      have hz9' : w9.heap.size < ((w9.alloc (.cells #[.int .i64 l0, .int .i64 l1, .int .i64 l2, .int .i64 l3, .int .i64 l4, .int .i64 l5, .int .i64 h0, .int .i64 h1, .int .i64 h2, .int .i64 h3, .int .i64 h4, .int .i64 h5, .int .i64 st, .int .i64 br] 25)).alloc (.cells #[.int .i64 x0, .int .i64 x1, .int .i64 x2, .int .i64 x3, .int .i64 x4, .int .i64 x5] 26)).heap.size := by simp; omega
      have hAs : w.heap.size + 1 + 1 + 1 + 1 < w9.heap.size := by have := HG7.out.size; omega
      have hS1 : RowG ((w9.alloc (.cells #[.int .i64 l0, .int .i64 l1, .int .i64 l2, .int .i64 l3, .int .i64 l4, .int .i64 l5, .int .i64 h0, .int .i64 h1, .int .i64 h2, .int .i64 h3, .int .i64 h4, .int .i64 h5, .int .i64 st, .int .i64 br] 25)).alloc (.cells #[.int .i64 x0, .int .i64 x1, .int .i64 x2, .int .i64 x3, .int .i64 x4, .int .i64 x5] 26)) w9.heap.size 14 (mvQ (V6.get ⟨l0, l1, l2, l3, l4, l5⟩) (V6.get ⟨h0, h1, h2, h3, h4, h5⟩) (V6.get ⟨d0, d1, d2, d3, d4, d5⟩) st br 0) := ⟨hz9', fun o => by simp [go_sem, *], fun i hi => by
        obtain rfl | rfl | rfl | rfl | rfl | rfl | rfl | rfl | rfl | rfl | rfl | rfl | rfl | rfl : i = 0 ∨ i = 1 ∨ i = 2 ∨ i = 3 ∨ i = 4 ∨ i = 5 ∨ i = 6 ∨ i = 7 ∨ i = 8 ∨ i = 9 ∨ i = 10 ∨ i = 11 ∨ i = 12 ∨ i = 13 := by omega
        all_goals simp [go_sem, mvQ, mvI, V6.get]⟩
      have hS2 : RowG ((w9.alloc (.cells #[.int .i64 l0, .int .i64 l1, .int .i64 l2, .int .i64 l3, .int .i64 l4, .int .i64 l5, .int .i64 h0, .int .i64 h1, .int .i64 h2, .int .i64 h3, .int .i64 h4, .int .i64 h5, .int .i64 st, .int .i64 br] 25)).alloc (.cells #[.int .i64 x0, .int .i64 x1, .int .i64 x2, .int .i64 x3, .int .i64 x4, .int .i64 x5] 26)) (w9.heap.size + 1) 6 (wQ (V6.get ⟨x0, x1, x2, x3, x4, x5⟩) (V6.get ⟨d0, d1, d2, d3, d4, d5⟩) 0) := ⟨by simp, fun o => by simp [go_sem, *], fun i hi => by
        obtain rfl | rfl | rfl | rfl | rfl | rfl : i = 0 ∨ i = 1 ∨ i = 2 ∨ i = 3 ∨ i = 4 ∨ i = 5 := by omega
        all_goals simp [go_sem, wQ, V6.get]⟩
      have hgq : Gr wq ((w9.alloc (.cells #[.int .i64 l0, .int .i64 l1, .int .i64 l2, .int .i64 l3, .int .i64 l4, .int .i64 l5, .int .i64 h0, .int .i64 h1, .int .i64 h2, .int .i64 h3, .int .i64 h4, .int .i64 h5, .int .i64 st, .int .i64 br] 25)).alloc (.cells #[.int .i64 x0, .int .i64 x1, .int .i64 x2, .int .i64 x3, .int .i64 x4, .int .i64 x5] 26)) := (by repeat (first | with_reducible exact Gr.refl _ | with_reducible refine Gr.alloc ?_ _ | with_reducible refine Gr.drew ?_ | with_reducible refine Gr.trans ?_ (by assumption) | with_reducible refine Gr.setCell ?_ (by (try simp); (try omega)) _))
      have hlq : w.heap.size + 1 + 1 + 1 + 1 < wq.heap.size := by omega
      have hD : ∀ i, i < 6 → ((w9.alloc (.cells #[.int .i64 l0, .int .i64 l1, .int .i64 l2, .int .i64 l3, .int .i64 l4, .int .i64 l5, .int .i64 h0, .int .i64 h1, .int .i64 h2, .int .i64 h3, .int .i64 h4, .int .i64 h5, .int .i64 st, .int .i64 br] 25)).alloc (.cells #[.int .i64 x0, .int .i64 x1, .int .i64 x2, .int .i64 x3, .int .i64 x4, .int .i64 x5] 26)).cell? ⟨w.heap.size + 1 + 1 + 1 + 1, i, none⟩ = some (.int .i64 (V6.get ⟨d0, d1, d2, d3, d4, d5⟩ i)) := fun i hi => by
        rw [Below.cell (p := ⟨w.heap.size + 1 + 1 + 1 + 1, i, none⟩) hgq hlq]
        obtain rfl | rfl | rfl | rfl | rfl | rfl : i = 0 ∨ i = 1 ∨ i = 2 ∨ i = 3 ∨ i = 4 ∨ i = 5 := by omega
        · exact cd0
        · exact cd1
        · exact cd2
        · exact cd3
        · exact cd4
        · exact cd5
      have hgw : Gr w ((w9.alloc (.cells #[.int .i64 l0, .int .i64 l1, .int .i64 l2, .int .i64 l3, .int .i64 l4, .int .i64 l5, .int .i64 h0, .int .i64 h1, .int .i64 h2, .int .i64 h3, .int .i64 h4, .int .i64 h5, .int .i64 st, .int .i64 br] 25)).alloc (.cells #[.int .i64 x0, .int .i64 x1, .int .i64 x2, .int .i64 x3, .int .i64 x4, .int .i64 x5] 26)) := HG4.out.trans (HG7.out.trans (by repeat (first | with_reducible exact Gr.refl _ | with_reducible refine Gr.alloc ?_ _ | with_reducible refine Gr.drew ?_ | with_reducible refine Gr.trans ?_ (by assumption) | with_reducible refine Gr.setCell ?_ (by (try simp); (try omega)) _)))
      have hws : w.heap.size ≤ w9.heap.size := by omega
      clear hgq hlq hb8 hz8 hc8 hf8 hn8 hb9 hz9 hc9 hf9 hn9 cv0 cv1 cv2 cv3 cv4 cv5 cv6 cv7 cv8 cv9 cv10 cv11 cv12 cv13 cx0 cx1 cx2 cx3 cx4 cx5 cd0 cd1 cd2 cd3 cd4 cd5 cp0 cp1 cp2 cp3 cp4 cp5 cq0 cq1 cq2 cq3 cq4 cq5 cr0 cr1 cr2 cr3 cr4 cr5 t5 t6 t7 t8 HC1 HC2 HABC HXB
      have HS10 := Lib.hid hS1; have HS20 := Lib.hid hS2; have HD0 := Lib.hid hD
      have ed0 : ((w9.alloc (.cells #[.int .i64 l0, .int .i64 l1, .int .i64 l2, .int .i64 l3, .int .i64 l4, .int .i64 l5, .int .i64 h0, .int .i64 h1, .int .i64 h2, .int .i64 h3, .int .i64 h4, .int .i64 h5, .int .i64 st, .int .i64 br] 25)).alloc (.cells #[.int .i64 x0, .int .i64 x1, .int .i64 x2, .int .i64 x3, .int .i64 x4, .int .i64 x5] 26)).cell? ⟨w.heap.size + 1 + 1 + 1 + 1, 0, none⟩ = some (.int .i64 d0) := hD 0 (by omega)
      have ed1 : ((w9.alloc (.cells #[.int .i64 l0, .int .i64 l1, .int .i64 l2, .int .i64 l3, .int .i64 l4, .int .i64 l5, .int .i64 h0, .int .i64 h1, .int .i64 h2, .int .i64 h3, .int .i64 h4, .int .i64 h5, .int .i64 st, .int .i64 br] 25)).alloc (.cells #[.int .i64 x0, .int .i64 x1, .int .i64 x2, .int .i64 x3, .int .i64 x4, .int .i64 x5] 26)).cell? ⟨w.heap.size + 1 + 1 + 1 + 1, 1, none⟩ = some (.int .i64 d1) := hD 1 (by omega)
      have ed2 : ((w9.alloc (.cells #[.int .i64 l0, .int .i64 l1, .int .i64 l2, .int .i64 l3, .int .i64 l4, .int .i64 l5, .int .i64 h0, .int .i64 h1, .int .i64 h2, .int .i64 h3, .int .i64 h4, .int .i64 h5, .int .i64 st, .int .i64 br] 25)).alloc (.cells #[.int .i64 x0, .int .i64 x1, .int .i64 x2, .int .i64 x3, .int .i64 x4, .int .i64 x5] 26)).cell? ⟨w.heap.size + 1 + 1 + 1 + 1, 2, none⟩ = some (.int .i64 d2) := hD 2 (by omega)
      have ed3 : ((w9.alloc (.cells #[.int .i64 l0, .int .i64 l1, .int .i64 l2, .int .i64 l3, .int .i64 l4, .int .i64 l5, .int .i64 h0, .int .i64 h1, .int .i64 h2, .int .i64 h3, .int .i64 h4, .int .i64 h5, .int .i64 st, .int .i64 br] 25)).alloc (.cells #[.int .i64 x0, .int .i64 x1, .int .i64 x2, .int .i64 x3, .int .i64 x4, .int .i64 x5] 26)).cell? ⟨w.heap.size + 1 + 1 + 1 + 1, 3, none⟩ = some (.int .i64 d3) := hD 3 (by omega)
      have ed4 : ((w9.alloc (.cells #[.int .i64 l0, .int .i64 l1, .int .i64 l2, .int .i64 l3, .int .i64 l4, .int .i64 l5, .int .i64 h0, .int .i64 h1, .int .i64 h2, .int .i64 h3, .int .i64 h4, .int .i64 h5, .int .i64 st, .int .i64 br] 25)).alloc (.cells #[.int .i64 x0, .int .i64 x1, .int .i64 x2, .int .i64 x3, .int .i64 x4, .int .i64 x5] 26)).cell? ⟨w.heap.size + 1 + 1 + 1 + 1, 4, none⟩ = some (.int .i64 d4) := hD 4 (by omega)
      have ed5 : ((w9.alloc (.cells #[.int .i64 l0, .int .i64 l1, .int .i64 l2, .int .i64 l3, .int .i64 l4, .int .i64 l5, .int .i64 h0, .int .i64 h1, .int .i64 h2, .int .i64 h3, .int .i64 h4, .int .i64 h5, .int .i64 st, .int .i64 br] 25)).alloc (.cells #[.int .i64 x0, .int .i64 x1, .int .i64 x2, .int .i64 x3, .int .i64 x4, .int .i64 x5] 26)).cell? ⟨w.heap.size + 1 + 1 + 1 + 1, 5, none⟩ = some (.int .i64 d5) := hD 5 (by omega)
      clear hS1 hS2 hD
      have hI := fun W => r3interval_any d0 d1 d2 d3 d4 d5 W
      rcases tf (allIn ⟨d0, d1, d2, d3, d4, d5⟩ 48 6) with qd | qd
      all_goals rw [qd] at hI
      · go_wp2_with fail
        go_at_call 26
        with_reducible refine (hI _).mono ?_
        rintro e wI ⟨rfl, hbI⟩
        have hzI := hbI.le
        obtain ⟨hcI, hfI⟩ := hbI.cells
        have hnI := hbI.cellsN
        (try simp only [World.size_alloc] at hcI hfI hzI hnI); (try simp only [World.size_setCell] at hcI hfI hzI hnI); (try simp only [World.size_drew] at hcI hfI hzI hnI)
        go_wp2_with fail
        have hgI : Gr ((w9.alloc (.cells #[.int .i64 l0, .int .i64 l1, .int .i64 l2, .int .i64 l3, .int .i64 l4, .int .i64 l5, .int .i64 h0, .int .i64 h1, .int .i64 h2, .int .i64 h3, .int .i64 h4, .int .i64 h5, .int .i64 st, .int .i64 br] 25)).alloc (.cells #[.int .i64 x0, .int .i64 x1, .int .i64 x2, .int .i64 x3, .int .i64 x4, .int .i64 x5] 26)) wI := hbI
        have HS1 := Lib.hid (HS10.out.keep hbI); have HS2 := Lib.hid (HS20.out.keep hbI); have HGW := Lib.hid (hgw.trans hbI)
        have HD : Hid (∀ i, i < 6 → wI.cell? ⟨w.heap.size + 1 + 1 + 1 + 1, i, none⟩ = some (.int .i64 (V6.get ⟨d0, d1, d2, d3, d4, d5⟩ i))) := Lib.hid (fun i hi => (Below.cell (p := ⟨w.heap.size + 1 + 1 + 1 + 1, i, none⟩) hbI (by simp; omega)).trans (HD0.out i hi))
        have hzI' : w9.heap.size + 1 < wI.heap.size := Nat.lt_of_lt_of_le (by simp) hbI.size
        clear hbI hgI HS10 HS20 HD0 hgw hz9' hcI hfI hzI hnI ed0 ed1 ed2 ed3 ed4 ed5
        generalize w9.heap.size = S at *
        have GL := allIn_at (voiceOk_parts HQ.out.1).1
        have GH := allIn_at (voiceOk_parts HQ.out.1).2.1
        have GX := allIn_at HQ.out.2.1
        have GD := allIn_at qd
        have HGL := Lib.hid (And.intro GL (And.intro GH (And.intro GX GD)))
        have HQD := Lib.hid qd
        clear GL GH GX GD hI qd
        go_loopw [31] (fun i wr => ∃ k : Nat, k ≤ 6 ∧ i = .int .i64 k ∧ RowG wr S 14 (mvQ (V6.get ⟨l0, l1, l2, l3, l4, l5⟩) (V6.get ⟨h0, h1, h2, h3, h4, h5⟩) (V6.get ⟨d0, d1, d2, d3, d4, d5⟩) st br k) ∧ RowG wr (S + 1) 6 (wQ (V6.get ⟨x0, x1, x2, x3, x4, x5⟩) (V6.get ⟨d0, d1, d2, d3, d4, d5⟩) k) ∧ (∀ i, i < 6 → wr.cell? ⟨w.heap.size + 1 + 1 + 1 + 1, i, none⟩ = some (.int .i64 (V6.get ⟨d0, d1, d2, d3, d4, d5⟩ i))) ∧ Gr w wr) (fun i _ => 6 - (intOf i).toNat)
        case atStart => exact ⟨0, by omega, rfl, HS1.out, HS2.out, HD.out, HGW.out⟩
        case round =>
          obtain ⟨k, hk, rfl, hR1, hR2, hR3, hR4⟩ := hrel
          by_cases hlt : k < 6
          · have m1 : wr.cell? ⟨S, k, none⟩ = some (.int .i64 (V6.get ⟨l0, l1, l2, l3, l4, l5⟩ k)) := (hR1.cell k (by omega)).trans (by simp [mvQ, mvI, hlt])
            have m2 : wr.cell? ⟨S, 6 + k, none⟩ = some (.int .i64 (V6.get ⟨h0, h1, h2, h3, h4, h5⟩ k)) := (hR1.cell (6 + k) (by omega)).trans (by unfold mvQ mvI; rw [if_neg (by omega), if_pos (by omega), if_neg (by omega), show 6 + k - 6 = k by omega])
            have m3 : wr.cell? ⟨S + 1, k, none⟩ = some (.int .i64 (V6.get ⟨x0, x1, x2, x3, x4, x5⟩ k)) := (hR2.cell k (by omega)).trans (by simp [wQ])
            have m4 := hR3 k hlt
            have f1 := hR1.froz k
            have f2 := hR1.froz (6 + k)
            have f3 := hR2.froz k
            have g1 := HGL.out.1 k hlt
            have g2 := HGL.out.2.1 k hlt
            have g3 := HGL.out.2.2.1 k hlt
            have g4 := HGL.out.2.2.2 k hlt
            have lt1 := hR1.lt
            have lt2 := hR2.lt
            have HR1 := Lib.hid hR1; have HR2 := Lib.hid hR2; have HR3 := Lib.hid hR3; have HR4 := Lib.hid hR4
            clear hR1 hR2 hR3 hR4
            generalize hgl : V6.get ⟨l0, l1, l2, l3, l4, l5⟩ k = Lk at m1 g1
            generalize hgh : V6.get ⟨h0, h1, h2, h3, h4, h5⟩ k = Hk at m2 g2
            generalize hgx : V6.get ⟨x0, x1, x2, x3, x4, x5⟩ k = Xk at m3 g3
            generalize hgd : V6.get ⟨d0, d1, d2, d3, d4, d5⟩ k = Dk at m4 g4
            have HGET := Lib.hid (And.intro hgl (And.intro hgh (And.intro hgx hgd)))
            clear hgl hgh hgx hgd
            have e1 : IntKind.i64.wrap (12 * Dk) = 12 * Dk := IntWalk.i64_in _ ⟨by omega, by omega⟩
            have e2 : IntKind.i64.wrap (Lk + 12 * Dk) = Lk + 12 * Dk := IntWalk.i64_in _ ⟨by omega, by omega⟩
            have e3 : IntKind.i64.wrap (Hk + 12 * Dk) = Hk + 12 * Dk := IntWalk.i64_in _ ⟨by omega, by omega⟩
            have e4 : IntKind.i64.wrap (Xk + Dk) = Xk + Dk := IntWalk.i64_in _ ⟨by omega, by omega⟩
            obtain ⟨wp, rfl⟩ : ∃ wp : World, wp = wr := ⟨_, rfl⟩
            go_wp2_with fail
            go_region
            go_wp2_with fail
            go_region
            go_wp2_with fail
            go_region
            go_wp2_with fail
            go_roundw
            case rel =>
              refine ⟨k + 1, by omega, by go_num, ?_, ?_, ?_, ?_⟩
              · refine RowG.congr (((((HR1.out.set (i := k) (by omega) (.int .i64 (Lk + 12 * Dk))).set (i := 6 + k) (by omega) (.int .i64 (Hk + 12 * Dk))).other (p := ⟨S + 1, k, none⟩) (by show S + 1 ≠ S; omega) (.int .i64 (Xk + Dk))).drew).drew).drew (fun j _ => ?_)
                rw [← mvQ_step _ _ _ st br k hlt j, HGET.out.1, HGET.out.2.1, HGET.out.2.2.2]
              · refine RowG.congr (((((HR2.out.other (p := ⟨S, k, none⟩) (by show S ≠ S + 1; omega) (.int .i64 (Lk + 12 * Dk))).other (p := ⟨S, 6 + k, none⟩) (by show S ≠ S + 1; omega) (.int .i64 (Hk + 12 * Dk))).set (i := k) (by omega) (.int .i64 (Xk + Dk))).drew).drew).drew (fun j _ => ?_)
                rw [← wQ_step _ _ k j, HGET.out.2.2.1, HGET.out.2.2.2]
              · intro i hi
                show (((wp.setCell ⟨S, k, none⟩ (.int .i64 (Lk + 12 * Dk))).setCell ⟨S, 6 + k, none⟩ (.int .i64 (Hk + 12 * Dk))).setCell ⟨S + 1, k, none⟩ (.int .i64 (Xk + Dk))).cell? ⟨w.heap.size + 1 + 1 + 1 + 1, i, none⟩ = _
                rw [World.cell?_setCell_other _ _ _ _ (by intro e; cases e; omega), World.cell?_setCell_other _ _ _ _ (by intro e; cases e; omega), World.cell?_setCell_other _ _ _ _ (by intro e; cases e; omega)]
                exact HR3.out i hi
              · exact ((((Gr.setCell (Gr.setCell (Gr.setCell HR4.out (by (try simp); omega) _) (by (try simp); omega) _) (by (try simp); omega) _).drew).drew).drew)
            case measure => simp [intOf]; omega
          · obtain rfl : k = 6 := by omega
            have ne0 : wr.cell? ⟨S, 0, none⟩ = some (.int .i64 (l0 + 12 * d0)) := (hR1.cell 0 (by omega)).trans (by simp [mvQ, mvI, V6.get])
            have ne1 : wr.cell? ⟨S, 1, none⟩ = some (.int .i64 (l1 + 12 * d1)) := (hR1.cell 1 (by omega)).trans (by simp [mvQ, mvI, V6.get])
            have ne2 : wr.cell? ⟨S, 2, none⟩ = some (.int .i64 (l2 + 12 * d2)) := (hR1.cell 2 (by omega)).trans (by simp [mvQ, mvI, V6.get])
            have ne3 : wr.cell? ⟨S, 3, none⟩ = some (.int .i64 (l3 + 12 * d3)) := (hR1.cell 3 (by omega)).trans (by simp [mvQ, mvI, V6.get])
            have ne4 : wr.cell? ⟨S, 4, none⟩ = some (.int .i64 (l4 + 12 * d4)) := (hR1.cell 4 (by omega)).trans (by simp [mvQ, mvI, V6.get])
            have ne5 : wr.cell? ⟨S, 5, none⟩ = some (.int .i64 (l5 + 12 * d5)) := (hR1.cell 5 (by omega)).trans (by simp [mvQ, mvI, V6.get])
            have ne6 : wr.cell? ⟨S, 6, none⟩ = some (.int .i64 (h0 + 12 * d0)) := (hR1.cell 6 (by omega)).trans (by simp [mvQ, mvI, V6.get])
            have ne7 : wr.cell? ⟨S, 7, none⟩ = some (.int .i64 (h1 + 12 * d1)) := (hR1.cell 7 (by omega)).trans (by simp [mvQ, mvI, V6.get])
            have ne8 : wr.cell? ⟨S, 8, none⟩ = some (.int .i64 (h2 + 12 * d2)) := (hR1.cell 8 (by omega)).trans (by simp [mvQ, mvI, V6.get])
            have ne9 : wr.cell? ⟨S, 9, none⟩ = some (.int .i64 (h3 + 12 * d3)) := (hR1.cell 9 (by omega)).trans (by simp [mvQ, mvI, V6.get])
            have ne10 : wr.cell? ⟨S, 10, none⟩ = some (.int .i64 (h4 + 12 * d4)) := (hR1.cell 10 (by omega)).trans (by simp [mvQ, mvI, V6.get])
            have ne11 : wr.cell? ⟨S, 11, none⟩ = some (.int .i64 (h5 + 12 * d5)) := (hR1.cell 11 (by omega)).trans (by simp [mvQ, mvI, V6.get])
            have ne12 : wr.cell? ⟨S, 12, none⟩ = some (.int .i64 st) := (hR1.cell 12 (by omega)).trans (by simp [mvQ, mvI])
            have ne13 : wr.cell? ⟨S, 13, none⟩ = some (.int .i64 br) := (hR1.cell 13 (by omega)).trans (by simp [mvQ, mvI])
            have nw0 : wr.cell? ⟨S + 1, 0, none⟩ = some (.int .i64 (x0 + d0)) := (hR2.cell 0 (by omega)).trans (by simp [wQ, V6.get])
            have nw1 : wr.cell? ⟨S + 1, 1, none⟩ = some (.int .i64 (x1 + d1)) := (hR2.cell 1 (by omega)).trans (by simp [wQ, V6.get])
            have nw2 : wr.cell? ⟨S + 1, 2, none⟩ = some (.int .i64 (x2 + d2)) := (hR2.cell 2 (by omega)).trans (by simp [wQ, V6.get])
            have nw3 : wr.cell? ⟨S + 1, 3, none⟩ = some (.int .i64 (x3 + d3)) := (hR2.cell 3 (by omega)).trans (by simp [wQ, V6.get])
            have nw4 : wr.cell? ⟨S + 1, 4, none⟩ = some (.int .i64 (x4 + d4)) := (hR2.cell 4 (by omega)).trans (by simp [wQ, V6.get])
            have nw5 : wr.cell? ⟨S + 1, 5, none⟩ = some (.int .i64 (x5 + d5)) := (hR2.cell 5 (by omega)).trans (by simp [wQ, V6.get])
            have lt1 := hR1.lt
            have lt2 := hR2.lt
            have HR4 := Lib.hid hR4
            clear hR1 hR2 hR3 hR4
            obtain ⟨wp, rfl⟩ : ∃ wp : World, wp = wr := ⟨_, rfl⟩
            have haa : (a == a) = true := by cases a <;> rfl
            have hHas := fun W h => vhas_any (l0 + 12 * d0) (l1 + 12 * d1) (l2 + 12 * d2) (l3 + 12 * d3) (l4 + 12 * d4) (l5 + 12 * d5) (h0 + 12 * d0) (h1 + 12 * d1) (h2 + 12 * d2) (h3 + 12 * d3) (h4 + 12 * d4) (h5 + 12 * d5) st br (x0 + d0) (x1 + d1) (x2 + d2) (x3 + d3) (x4 + d4) (x5 + d5) W h
            rcases tf (voiceOk ⟨l0 + 12 * d0, l1 + 12 * d1, l2 + 12 * d2, l3 + 12 * d3, l4 + 12 * d4, l5 + 12 * d5⟩ ⟨h0 + 12 * d0, h1 + 12 * d1, h2 + 12 * d2, h3 + 12 * d3, h4 + 12 * d4, h5 + 12 * d5⟩ st br) with r1 | r1
            · rcases tf (allIn ⟨x0 + d0, x1 + d1, x2 + d2, x3 + d3, x4 + d4, x5 + d5⟩ 48 6) with r2 | r2
              · simp only [r1, r2, has_moved, HE.out.1, Bool.true_and, Bool.and_self, cond_true] at hHas
                have HHA := Lib.hid hHas
                clear hHas r1 r2
                go_wp2_with fail
                go_at_call 13
                with_reducible refine (HHA.out _ (HP.out.keep (HR4.out.trans (by repeat (first | with_reducible exact Gr.refl _ | with_reducible refine Gr.alloc ?_ _ | with_reducible refine Gr.drew ?_ | with_reducible refine Gr.trans ?_ (by assumption) | with_reducible refine Gr.setCell ?_ (by (try simp); (try omega)) _))))).mono ?_
                rintro e wJ ⟨rfl, hbJ⟩
                go_wp2_with fail
                go_ret
                exact ⟨rfl, HR4.out.trans (by repeat (first | with_reducible exact Gr.refl _ | with_reducible refine Gr.alloc ?_ _ | with_reducible refine Gr.drew ?_ | with_reducible refine Gr.trans ?_ (by assumption) | with_reducible refine Gr.setCell ?_ (by (try simp); (try omega)) _))⟩
              · have hVa := fun W h => voiceValid_any (l0 + 12 * d0) (l1 + 12 * d1) (l2 + 12 * d2) (l3 + 12 * d3) (l4 + 12 * d4) (l5 + 12 * d5) (h0 + 12 * d0) (h1 + 12 * d1) (h2 + 12 * d2) (h3 + 12 * d3) (h4 + 12 * d4) (h5 + 12 * d5) st br W h
                have hIa := fun W => r3interval_any (x0 + d0) (x1 + d1) (x2 + d2) (x3 + d3) (x4 + d4) (x5 + d5) W
                simp only [r1, r2, Bool.false_and, Bool.and_false, cond_false] at hHas hVa hIa
                have HHA := Lib.hid hHas; have HVA := Lib.hid hVa; have HIA := Lib.hid hIa
                clear hHas hVa hIa r1 r2
                go_wp2_with fail
                go_at_call 13
                with_reducible refine (HHA.out _ (HP.out.keep (HR4.out.trans (by repeat (first | with_reducible exact Gr.refl _ | with_reducible refine Gr.alloc ?_ _ | with_reducible refine Gr.drew ?_ | with_reducible refine Gr.trans ?_ (by assumption) | with_reducible refine Gr.setCell ?_ (by (try simp); (try omega)) _))))).mono ?_
                rintro e wJ ⟨rfl, hbJ⟩
                have hzJ := hbJ.le
                obtain ⟨hcJ, hfJ⟩ := hbJ.cells
                have hnJ := hbJ.cellsN
                (try simp only [World.size_alloc] at hcJ hfJ hzJ hnJ); (try simp only [World.size_setCell] at hcJ hfJ hzJ hnJ); (try simp only [World.size_drew] at hcJ hfJ hzJ hnJ)
                go_wp2_with fail
                go_at_call 11
                with_reducible refine (HVA.out _ (HP.out.keep (HR4.out.trans (by repeat (first | with_reducible exact Gr.refl _ | with_reducible refine Gr.alloc ?_ _ | with_reducible refine Gr.drew ?_ | with_reducible refine Gr.trans ?_ (by assumption) | with_reducible refine Gr.setCell ?_ (by (try simp); (try omega)) _))))).mono ?_
                rintro e wK ⟨rfl, hbK⟩
                have hzK := hbK.le
                obtain ⟨hcK, hfK⟩ := hbK.cells
                have hnK := hbK.cellsN
                (try simp only [World.size_alloc] at hcK hfK hzK hnK); (try simp only [World.size_setCell] at hcK hfK hzK hnK); (try simp only [World.size_drew] at hcK hfK hzK hnK)
                go_wp2_with fail
                go_at_call 26
                with_reducible refine (HIA.out _).mono ?_
                rintro e wN ⟨rfl, hbN⟩
                go_wp2_with fail
                go_ret
                exact ⟨rfl, HR4.out.trans (by repeat (first | with_reducible exact Gr.refl _ | with_reducible refine Gr.alloc ?_ _ | with_reducible refine Gr.drew ?_ | with_reducible refine Gr.trans ?_ (by assumption) | with_reducible refine Gr.setCell ?_ (by (try simp); (try omega)) _))⟩
            · have hVa := fun W h => voiceValid_any (l0 + 12 * d0) (l1 + 12 * d1) (l2 + 12 * d2) (l3 + 12 * d3) (l4 + 12 * d4) (l5 + 12 * d5) (h0 + 12 * d0) (h1 + 12 * d1) (h2 + 12 * d2) (h3 + 12 * d3) (h4 + 12 * d4) (h5 + 12 * d5) st br W h
              simp only [r1, Bool.false_and, cond_false] at hHas hVa
              have HHA := Lib.hid hHas; have HVA := Lib.hid hVa
              clear hHas hVa r1
              go_wp2_with fail
              go_at_call 13
              with_reducible refine (HHA.out _ (HP.out.keep (HR4.out.trans (by repeat (first | with_reducible exact Gr.refl _ | with_reducible refine Gr.alloc ?_ _ | with_reducible refine Gr.drew ?_ | with_reducible refine Gr.trans ?_ (by assumption) | with_reducible refine Gr.setCell ?_ (by (try simp); (try omega)) _))))).mono ?_
              rintro e wJ ⟨rfl, hbJ⟩
              have hzJ := hbJ.le
              obtain ⟨hcJ, hfJ⟩ := hbJ.cells
              have hnJ := hbJ.cellsN
              (try simp only [World.size_alloc] at hcJ hfJ hzJ hnJ); (try simp only [World.size_setCell] at hcJ hfJ hzJ hnJ); (try simp only [World.size_drew] at hcJ hfJ hzJ hnJ)
              go_wp2_with fail
              go_at_call 11
              with_reducible refine (HVA.out _ (HP.out.keep (HR4.out.trans (by repeat (first | with_reducible exact Gr.refl _ | with_reducible refine Gr.alloc ?_ _ | with_reducible refine Gr.drew ?_ | with_reducible refine Gr.trans ?_ (by assumption) | with_reducible refine Gr.setCell ?_ (by (try simp); (try omega)) _))))).mono ?_
              rintro e wN ⟨rfl, hbN⟩
              go_wp2_with fail
              go_ret
              exact ⟨rfl, HR4.out.trans (by repeat (first | with_reducible exact Gr.refl _ | with_reducible refine Gr.alloc ?_ _ | with_reducible refine Gr.drew ?_ | with_reducible refine Gr.trans ?_ (by assumption) | with_reducible refine Gr.setCell ?_ (by (try simp); (try omega)) _))⟩
      · go_wp2_with fail
        go_at_call 26
        with_reducible refine (hI _).mono ?_
        rintro e wI ⟨rfl, hbI⟩
        have hzI := hbI.le
        obtain ⟨hcI, hfI⟩ := hbI.cells
        have hnI := hbI.cellsN
        (try simp only [World.size_alloc] at hcI hfI hzI hnI); (try simp only [World.size_setCell] at hcI hfI hzI hnI); (try simp only [World.size_drew] at hcI hfI hzI hnI)
        go_wp2_with fail
        go_ret
        exact ⟨rfl, hgw.trans (by repeat (first | with_reducible exact Gr.refl _ | with_reducible refine Gr.alloc ?_ _ | with_reducible refine Gr.drew ?_ | with_reducible refine Gr.trans ?_ (by assumption) | with_reducible refine Gr.setCell ?_ (by (try simp); (try omega)) _))⟩

theorem vrange_law (l0 l1 l2 l3 l4 l5 h0 h1 h2 h3 h4 h5 st br x0 x1 x2 x3 x4 x5 y0 y1 y2 y3 y4 y5 z0 z1 z2 z3 z4 z5 d0 d1 d2 d3 d4 d5 : Int) (w : World) (hP : Primes w) (hL : Logs w) :
    Calls Tryd.prog 4 #[.agg #[.int .i64 l0, .int .i64 l1, .int .i64 l2, .int .i64 l3, .int .i64 l4, .int .i64 l5, .int .i64 h0, .int .i64 h1, .int .i64 h2, .int .i64 h3, .int .i64 h4, .int .i64 h5, .int .i64 st, .int .i64 br], .agg #[.int .i64 x0, .int .i64 x1, .int .i64 x2, .int .i64 x3, .int .i64 x4, .int .i64 x5], .agg #[.int .i64 y0, .int .i64 y1, .int .i64 y2, .int .i64 y3, .int .i64 y4, .int .i64 y5], .agg #[.int .i64 z0, .int .i64 z1, .int .i64 z2, .int .i64 z3, .int .i64 z4, .int .i64 z5], .agg #[.int .i64 d0, .int .i64 d1, .int .i64 d2, .int .i64 d3, .int .i64 d4, .int .i64 d5]] w fun e w' => e = .returned (.bool true) ∧ Gr w w' := by
  have any : ∀ (x0 x1 x2 x3 x4 x5 : Int), Hid (∀ W, Primes W → Calls Tryd.prog 13 #[.agg #[.int .i64 l0, .int .i64 l1, .int .i64 l2, .int .i64 l3, .int .i64 l4, .int .i64 l5, .int .i64 h0, .int .i64 h1, .int .i64 h2, .int .i64 h3, .int .i64 h4, .int .i64 h5, .int .i64 st, .int .i64 br], .agg #[.int .i64 x0, .int .i64 x1, .int .i64 x2, .int .i64 x3, .int .i64 x4, .int .i64 x5]] W fun e w' => e = .returned (.tuple #[.bool (voiceOk ⟨l0, l1, l2, l3, l4, l5⟩ ⟨h0, h1, h2, h3, h4, h5⟩ st br && (allIn ⟨x0, x1, x2, x3, x4, x5⟩ 48 6 && hasB ⟨l0, l1, l2, l3, l4, l5⟩ ⟨h0, h1, h2, h3, h4, h5⟩ ⟨x0, x1, x2, x3, x4, x5⟩)), .int .i64 (cond (voiceOk ⟨l0, l1, l2, l3, l4, l5⟩ ⟨h0, h1, h2, h3, h4, h5⟩ st br && allIn ⟨x0, x1, x2, x3, x4, x5⟩ 48 6) 0 1)]) ∧ Gr W w') := fun x0 x1 x2 x3 x4 x5 => Lib.hid (fun W h => vhas_any l0 l1 l2 l3 l4 l5 h0 h1 h2 h3 h4 h5 st br x0 x1 x2 x3 x4 x5 W h)
  rcases tf (voiceOk ⟨l0, l1, l2, l3, l4, l5⟩ ⟨h0, h1, h2, h3, h4, h5⟩ st br && allIn ⟨x0, x1, x2, x3, x4, x5⟩ 48 6) with q1 | q1
  · rcases tf (allIn ⟨y0, y1, y2, y3, y4, y5⟩ 48 6) with q2 | q2
    · rcases tf (allIn ⟨z0, z1, z2, z3, z4, z5⟩ 48 6) with q3 | q3
      · have q0 : voiceOk ⟨l0, l1, l2, l3, l4, l5⟩ ⟨h0, h1, h2, h3, h4, h5⟩ st br = true ∧ allIn ⟨x0, x1, x2, x3, x4, x5⟩ 48 6 = true := by simpa only [Bool.and_eq_true] using q1
        exact vrange_good l0 l1 l2 l3 l4 l5 h0 h1 h2 h3 h4 h5 st br x0 x1 x2 x3 x4 x5 y0 y1 y2 y3 y4 y5 z0 z1 z2 z3 z4 z5 d0 d1 d2 d3 d4 d5 w hP hL q0.1 q0.2 q2 q3
      · have q0 : voiceOk ⟨l0, l1, l2, l3, l4, l5⟩ ⟨h0, h1, h2, h3, h4, h5⟩ st br = true ∧ allIn ⟨x0, x1, x2, x3, x4, x5⟩ 48 6 = true := by simpa only [Bool.and_eq_true] using q1
        exact vrange_bad1 l0 l1 l2 l3 l4 l5 h0 h1 h2 h3 h4 h5 st br x0 x1 x2 x3 x4 x5 y0 y1 y2 y3 y4 y5 z0 z1 z2 z3 z4 z5 d0 d1 d2 d3 d4 d5 w hP hL _ _ _ _ _ _ (any x0 x1 x2 x3 x4 x5) (any y0 y1 y2 y3 y4 y5) (any z0 z1 z2 z3 z4 z5) (Or.inr (Or.inr ⟨by rw [q1]; rfl, by rw [q0.1, q2]; rfl, by rw [q0.1, q3]; decide⟩))
    · have q0 : voiceOk ⟨l0, l1, l2, l3, l4, l5⟩ ⟨h0, h1, h2, h3, h4, h5⟩ st br = true ∧ allIn ⟨x0, x1, x2, x3, x4, x5⟩ 48 6 = true := by simpa only [Bool.and_eq_true] using q1
      exact vrange_bad1 l0 l1 l2 l3 l4 l5 h0 h1 h2 h3 h4 h5 st br x0 x1 x2 x3 x4 x5 y0 y1 y2 y3 y4 y5 z0 z1 z2 z3 z4 z5 d0 d1 d2 d3 d4 d5 w hP hL _ _ _ _ _ _ (any x0 x1 x2 x3 x4 x5) (any y0 y1 y2 y3 y4 y5) (any z0 z1 z2 z3 z4 z5) (Or.inr (Or.inl ⟨by rw [q1]; rfl, by rw [q0.1, q2]; decide⟩))
  · exact vrange_bad1 l0 l1 l2 l3 l4 l5 h0 h1 h2 h3 h4 h5 st br x0 x1 x2 x3 x4 x5 y0 y1 y2 y3 y4 y5 z0 z1 z2 z3 z4 z5 d0 d1 d2 d3 d4 d5 w hP hL _ _ _ _ _ _ (any x0 x1 x2 x3 x4 x5) (any y0 y1 y2 y3 y4 y5) (any z0 z1 z2 z3 z4 z5) (Or.inl (by rw [q1]; decide))
end Go.Proofs.YtiogfohjepobkaaDoor
