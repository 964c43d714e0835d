/-
  brass.Find: the plain side, and the inputs at which it returns an error.
-/
import Derived.Test.YtbaopniofhbjdaaDoorSound2
import Derived.Test.YtbaopniofhbjdaaDoorPOf
import Derived.Test.YtbaopniofhbjdaaDoorNear
namespace Go.Proofs.YtbaopniofhbjdaaDoor
open Go.RowKit Go.Shelf
attribute [local go_sem] Oper.semAt_some

/-- An interval as a pitch. -/
def atV (v : V6) : V6 := ⟨v.x0 * 12, v.x1 * 12, v.x2 * 12, v.x3 * 12, v.x4 * 12, v.x5 * 12⟩
theorem atV_in {v : V6} (h : allIn v 48 6 = true) : allIn (atV v) 576 6 = true := by
  simp only [allIn, V6.get, atV, Bool.and_eq_true, decide_eq_true_eq] at h ⊢
  repeat' apply And.intro
  all_goals first | rfl | trivial | omega
/-- A blow plays an interval. -/
def playsB (base : V6) (f : Nat → Nat → Int) (n : Nat) (tol : Int) (v : V6) (x s : Nat) : Bool :=
  allIn (soundV base f n x s) 576 6 && (surelyI (sumLo ((atV v).sub (soundV base f n x s)) 6) (sumHi ((atV v).sub (soundV base f n x s)) 6) (-10000 * tol) (10000 * tol) == 1)
/-- The blows that play an interval, among those of a list. -/
def findL {m Q : Nat} (base : V6) (f : Nat → Nat → Int) (n : Nat) (tol : Int) (v : V6) (pre : List (BlowIx m Q)) : List (BlowIx m Q) := pre.filter fun p => playsB base f n tol v (p.1.1 + 1) p.1.2
theorem findL_yes {m Q : Nat} {base : V6} {f : Nat → Nat → Int} {n : Nat} {tol : Int} {v : V6} {pre : List (BlowIx m Q)} {p : BlowIx m Q} (h : playsB base f n tol v (p.1.1 + 1) p.1.2 = true) : findL base f n tol v (pre ++ [p]) = findL base f n tol v pre ++ [p] := by
  simp [findL, h]
theorem findL_no {m Q : Nat} {base : V6} {f : Nat → Nat → Int} {n : Nat} {tol : Int} {v : V6} {pre : List (BlowIx m Q)} {p : BlowIx m Q} (h : playsB base f n tol v (p.1.1 + 1) p.1.2 = false) : findL base f n tol v (pre ++ [p]) = findL base f n tol v pre := by
  simp [findL, h]

set_option maxRecDepth 100000 in
set_option maxHeartbeats 4000000 in
theorem Find_bad1 (b0 b1 b2 b3 b4 b5 most tol v0 v1 v2 v3 v4 v5 : Int) (A : Option Addr) (n c : Nat) (w : World) (hv : allIn ⟨v0, v1, v2, v3, v4, v5⟩ 48 6 = false) :
    Calls Tryd.prog 17 #[.agg #[.int .i64 b0, .int .i64 b1, .int .i64 b2, .int .i64 b3, .int .i64 b4, .int .i64 b5, .slice A n c, .int .i64 most, .int .i64 tol], .agg #[.int .i64 v0, .int .i64 v1, .int .i64 v2, .int .i64 v3, .int .i64 v4, .int .i64 v5]] w fun e w' => e = .returned (.tuple #[.slice none 0 0, .int .i64 1]) ∧ Gr w w' := by
  have HC := Lib.hid (fun W => pof_bad v0 v1 v2 v3 v4 v5 W hv)
  clear hv
  refine (callsIn_wide (n := 6)).1 ?_
  refine callsIn_of_wp_marks Tryd.func17 rfl trivial ?_ rfl
  simp only [Tryd.ntmps17, List.size_toArray, List.length_cons, List.length_nil, Nat.reduceAdd, Nat.reduceSub, Array.replicate_succ, Array.replicate_zero, List.push_toArray, List.append_toArray, List.nil_append, List.cons_append]
  gi_wp2_with fail
  refine ⟨trivial, callsIn_wide.2 ((HC.out _).mono ?_)⟩
  rintro e w' ⟨rfl, hb⟩
  have hz := hb.le; obtain ⟨hc, hf⟩ := hb.cells; simp only [World.size_alloc] at hc hf hz
  have hg : Gr w w' := (by repeat (first | exact Gr.refl _ | refine Gr.alloc ?_ _ | refine Gr.drew ?_ | refine Gr.trans ?_ (by assumption) | refine Gr.setCell ?_ (by (try simp); (try omega)) _))
  gi_wp2
  refine ⟨trivial, ?_⟩
  gi_wp2
  exact ⟨_, by simp [results, Tryd.f17, go_sem], rfl, hg.alloc _⟩
set_option maxRecDepth 100000 in
set_option maxHeartbeats 4000000 in
theorem Find_bad2 (b0 b1 b2 b3 b4 b5 most tol v0 v1 v2 v3 v4 v5 : Int) (A : Option Addr) (n c : Nat) (f : Nat → Nat → Int) (w : World) (hP : Primes w) (hV : RowsAt w 6 A n f) (hn : n ≤ 9223372036854775807) (hv : allIn ⟨v0, v1, v2, v3, v4, v5⟩ 48 6 = true) (hok : hornOk ⟨b0, b1, b2, b3, b4, b5⟩ n f most tol = false) :
    Calls Tryd.prog 17 #[.agg #[.int .i64 b0, .int .i64 b1, .int .i64 b2, .int .i64 b3, .int .i64 b4, .int .i64 b5, .slice A n c, .int .i64 most, .int .i64 tol], .agg #[.int .i64 v0, .int .i64 v1, .int .i64 v2, .int .i64 v3, .int .i64 v4, .int .i64 v5]] w fun e w' => e = .returned (.tuple #[.slice none 0 0, .int .i64 1]) ∧ Gr w w' := by
  have HC := Lib.hid (fun W => pof_ok v0 v1 v2 v3 v4 v5 W hv)
  have HH := Lib.hid (fun W h h' => hornValid_any b0 b1 b2 b3 b4 b5 most tol A n c f W h h' hn)
  rw [hok] at HH
  have HP := Lib.hid hP; have HV := Lib.hid hV
  clear hv hP hV hok
  refine (callsIn_wide (n := 6)).1 ?_
  refine callsIn_of_wp_marks Tryd.func17 rfl trivial ?_ rfl
  simp only [Tryd.ntmps17, List.size_toArray, List.length_cons, List.length_nil, Nat.reduceAdd, Nat.reduceSub, Array.replicate_succ, Array.replicate_zero, List.push_toArray, List.append_toArray, List.nil_append, List.cons_append]
  gi_wp2_with fail
  refine ⟨trivial, callsIn_wide.2 ((HC.out _).mono ?_)⟩
  rintro e w1 ⟨rfl, hb⟩
  have hz := hb.le; obtain ⟨hc, hf⟩ := hb.cells; simp only [World.size_alloc] at hc hf hz
  have hg : Gr w w1 := (by repeat (first | exact Gr.refl _ | refine Gr.alloc ?_ _ | refine Gr.drew ?_ | refine Gr.trans ?_ (by assumption) | refine Gr.setCell ?_ (by (try simp); (try omega)) _))
  have HG := Lib.hid hg
  clear hg
  gi_wp2_with fail
  refine ⟨trivial, callsIn_wide.2 ((HH.out _ (HP.out.keep (HG.out.alloc _)) (HV.out.keep (HG.out.alloc _))).mono ?_)⟩
  rintro e w2 ⟨rfl, hb2⟩
  have HG2 := Lib.hid ((HG.out.alloc _).trans hb2)
  gi_wp2
  exact ⟨_, by simp [results, Tryd.f17, go_sem], rfl, HG2.out⟩
end Go.Proofs.YtbaopniofhbjdaaDoor
