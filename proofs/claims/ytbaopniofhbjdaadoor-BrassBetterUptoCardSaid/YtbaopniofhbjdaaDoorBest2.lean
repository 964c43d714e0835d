/-
  brass.Best.
-/
import Derived.Test.YtbaopniofhbjdaaDoorBestPlain
namespace Go.Proofs.YtbaopniofhbjdaaDoor
open Go.RowKit Go.Shelf
attribute [local go_sem] Oper.semAt_some

theorem blowCells_pair {m Q : Nat} (l : List (BlowIx m Q)) : blowCells l = pairCells (fun p : BlowIx m Q => (p.1.1 : Int) + 1) (fun p : BlowIx m Q => (p.1.2 : Int)) l := rfl
/-- The rows of a list of blows. -/
def blowF {m Q : Nat} (l : List (BlowIx m Q)) : Nat → Nat → Int := pairF (fun p : BlowIx m Q => (p.1.1 : Int) + 1) (fun p : BlowIx m Q => (p.1.2 : Int)) l

set_option maxRecDepth 100000 in
set_option maxHeartbeats 16000000 in
theorem Best_bad (b0 b1 b2 b3 b4 b5 most tol v0 v1 v2 v3 v4 v5 : Int) (A : Option Addr) (n c : Nat) (w : World)
    (hF : ∀ W, Gr w W → Calls Tryd.prog 17 #[.agg #[.int .i64 b0, .int .i64 b1, .int .i64 b2, .int .i64 b3, .int .i64 b4, .int .i64 b5, .slice A n c, .int .i64 most, .int .i64 tol], .agg #[.int .i64 v0, .int .i64 v1, .int .i64 v2, .int .i64 v3, .int .i64 v4, .int .i64 v5]] W fun e w' => e = .returned (.tuple #[.slice none 0 0, .int .i64 1]) ∧ Gr W w') :
    Calls Tryd.prog 20 #[.agg #[.int .i64 b0, .int .i64 b1, .int .i64 b2, .int .i64 b3, .int .i64 b4, .int .i64 b5, .slice A n c, .int .i64 most, .int .i64 tol], .agg #[.int .i64 v0, .int .i64 v1, .int .i64 v2, .int .i64 v3, .int .i64 v4, .int .i64 v5]] w fun e w' => e = .returned (.tuple #[.agg #[.int .i64 0, .int .i64 0], .int .i64 1]) ∧ Gr w w' := by
  have HF := Lib.hid hF
  clear hF
  go_enter Tryd.func20, Tryd.ntmps20
  go_wp2_with (go_at_call 17; with_reducible refine (HF.out _ (by repeat (first | exact Gr.refl _ | refine Gr.alloc ?_ _ | refine Gr.drew ?_ | refine Gr.trans ?_ (by assumption) | refine Gr.setCell ?_ (by (try simp); (try omega)) _))).mono ?_; rintro e w' ⟨rfl, hb⟩; have hz := hb.le; obtain ⟨hc, hf⟩ := hb.cells; (try simp only [World.size_alloc] at hc hf hz); (try simp only [World.size_setCell] at hc hf hz); (try simp only [World.size_drew] at hc hf hz))
  exact bodyPost_ret (v := .tuple #[.agg #[.int .i64 0, .int .i64 0], .int .i64 1]) (by simp [results, Tryd.results20, go_sem, *]) rfl ⟨rfl, (by repeat (first | exact Gr.refl _ | refine Gr.alloc ?_ _ | refine Gr.drew ?_ | refine Gr.trans ?_ (by assumption) | refine Gr.setCell ?_ (by (try simp); (try omega)) _))⟩

set_option maxRecDepth 100000 in
set_option maxHeartbeats 16000000 in
theorem Best_none (b0 b1 b2 b3 b4 b5 most tol v0 v1 v2 v3 v4 v5 : Int) (A : Option Addr) (n c : Nat) (w : World)
    (hF : ∀ W, Gr w W → Calls Tryd.prog 17 #[.agg #[.int .i64 b0, .int .i64 b1, .int .i64 b2, .int .i64 b3, .int .i64 b4, .int .i64 b5, .slice A n c, .int .i64 most, .int .i64 tol], .agg #[.int .i64 v0, .int .i64 v1, .int .i64 v2, .int .i64 v3, .int .i64 v4, .int .i64 v5]] W fun e w' => e = .returned (.tuple #[.slice none 0 0, .int .i64 0]) ∧ Gr W w') :
    Calls Tryd.prog 20 #[.agg #[.int .i64 b0, .int .i64 b1, .int .i64 b2, .int .i64 b3, .int .i64 b4, .int .i64 b5, .slice A n c, .int .i64 most, .int .i64 tol], .agg #[.int .i64 v0, .int .i64 v1, .int .i64 v2, .int .i64 v3, .int .i64 v4, .int .i64 v5]] w fun e w' => e = .returned (.tuple #[.agg #[.int .i64 0, .int .i64 0], .int .i64 4]) ∧ Gr w w' := by
  have HF := Lib.hid hF
  clear hF
  go_enter Tryd.func20, Tryd.ntmps20
  go_wp2_with (go_at_call 17; with_reducible refine (HF.out _ (by repeat (first | exact Gr.refl _ | refine Gr.alloc ?_ _ | refine Gr.drew ?_ | refine Gr.trans ?_ (by assumption) | refine Gr.setCell ?_ (by (try simp); (try omega)) _))).mono ?_; rintro e w' ⟨rfl, hb⟩; have hz := hb.le; obtain ⟨hc, hf⟩ := hb.cells; (try simp only [World.size_alloc] at hc hf hz); (try simp only [World.size_setCell] at hc hf hz); (try simp only [World.size_drew] at hc hf hz))
  exact bodyPost_ret (v := .tuple #[.agg #[.int .i64 0, .int .i64 0], .int .i64 4]) (by simp [results, Tryd.results20, go_sem, *]) rfl ⟨rfl, (by repeat (first | exact Gr.refl _ | refine Gr.alloc ?_ _ | refine Gr.drew ?_ | refine Gr.trans ?_ (by assumption) | refine Gr.setCell ?_ (by (try simp); (try omega)) _))⟩

/-- The best so far lies in its two boxes. -/
def BestAcc {m Q : Nat} (base : V6) (f : Nat → Nat → Int) (n : Nat) (v : V6) (W : World) (Bb Bl : Nat) (acc : Option (BlowIx m Q)) : Prop :=
  BestAt W Bb Bl (accX acc) (accS acc) (accV base f n v acc).x0 (accV base f n v acc).x1 (accV base f n v acc).x2 (accV base f n v acc).x3 (accV base f n v acc).x4 (accV base f n v acc).x5
set_option maxRecDepth 100000 in
set_option maxHeartbeats 4000000 in
theorem try_step (b0 b1 b2 b3 b4 b5 tol v0 v1 v2 v3 v4 v5 : Int) (A : Option Addr) (n c m Q : Nat) (f : Nat → Nat → Int) (acc : Option (BlowIx m Q)) (p : BlowIx m Q) (Bh Ba Bb Bl : Nat) (w : World) (hP : Primes w) (hBP : BPrimes w) (hV : RowsAt w 6 A n f) (hvv : allIn (atV ⟨v0, v1, v2, v3, v4, v5⟩) 576 6 = true) (hok : hornOk ⟨b0, b1, b2, b3, b4, b5⟩ n f m tol = true)
    (hsn : allIn (soundV ⟨b0, b1, b2, b3, b4, b5⟩ f n (p.1.1 + 1) p.1.2) 576 6 = true) (hacc : allIn (accV ⟨b0, b1, b2, b3, b4, b5⟩ f n ⟨v0, v1, v2, v3, v4, v5⟩ acc) 576 6 = true)
    (hT : TryW b0 b1 b2 b3 b4 b5 m tol (v0 * 12) (v1 * 12) (v2 * 12) (v3 * 12) (v4 * 12) (v5 * 12) A n c Bh Ba w) (hB : BestAcc ⟨b0, b1, b2, b3, b4, b5⟩ f n ⟨v0, v1, v2, v3, v4, v5⟩ w Bb Bl acc) :
    ∃ (R : Int) (acc' : Option (BlowIx m Q)), Calls Tryd.prog 63 #[.agg #[.int .i64 ((p.1.1 : Int) + 1), .int .i64 (p.1.2 : Int)], .pointer (some ⟨Bh, 0, none⟩), .pointer (some ⟨Ba, 0, none⟩), .pointer (some ⟨Bl, 0, none⟩), .pointer (some ⟨Bb, 0, none⟩)] w
      (fun e w' => e = .returned (.int .i64 R) ∧ Below Bb w w' ∧ BestAcc ⟨b0, b1, b2, b3, b4, b5⟩ f n ⟨v0, v1, v2, v3, v4, v5⟩ w' Bb Bl acc') ∧
      ((okB ⟨b0, b1, b2, b3, b4, b5⟩ f n ⟨v0, v1, v2, v3, v4, v5⟩ p = false ∧ R = 3 ∧ acc' = acc) ∨ (okB ⟨b0, b1, b2, b3, b4, b5⟩ f n ⟨v0, v1, v2, v3, v4, v5⟩ p = true ∧ R = 0 ∧ acc' = pickB ⟨b0, b1, b2, b3, b4, b5⟩ f n ⟨v0, v1, v2, v3, v4, v5⟩ acc p)) := by
  obtain ⟨-, hn4, -, hm16, ht0, ht1, -⟩ := hornOk_parts hok
  obtain ⟨⟨i, j⟩, hi, hj⟩ := p
  dsimp only at hsn hi hj ⊢
  have hs := fun W (g : Gr w W) => sound_any b0 b1 b2 b3 b4 b5 m tol A n c (i + 1) j f W (hBP.keep g) (hV.keep g) hok (by omega) (by omega)
  rw [show ((i + 1 : Nat) : Int) = (i : Int) + 1 from rfl] at hs
  have hva := hsn
  unfold soundV at hva
  have hvb := hvv
  unfold atV at hvb
  obtain ⟨y0, y1, y2, y3, y4, y5, E, hd, hcase⟩ := dist_any _ _ _ _ _ _ _ _ _ _ _ _ hva hvb
  have hd' := fun W (g : Gr w W) => hd W (hP.keep g)
  have hdv : distV (soundV ⟨b0, b1, b2, b3, b4, b5⟩ f n (i + 1) j) (atV ⟨v0, v1, v2, v3, v4, v5⟩) = distB ⟨b0, b1, b2, b3, b4, b5⟩ f n ⟨v0, v1, v2, v3, v4, v5⟩ (⟨(i, j), hi, hj⟩ : BlowIx m Q) := rfl
  change (allIn (distV (soundV ⟨b0, b1, b2, b3, b4, b5⟩ f n (i + 1) j) (atV ⟨v0, v1, v2, v3, v4, v5⟩)) 576 6 = true ∧ E = 0 ∧ (⟨y0, y1, y2, y3, y4, y5⟩ : V6) = distV (soundV ⟨b0, b1, b2, b3, b4, b5⟩ f n (i + 1) j) (atV ⟨v0, v1, v2, v3, v4, v5⟩)) ∨ (allIn (distV (soundV ⟨b0, b1, b2, b3, b4, b5⟩ f n (i + 1) j) (atV ⟨v0, v1, v2, v3, v4, v5⟩)) 576 6 = false ∧ E = 3) at hcase
  rw [hdv] at hcase
  rcases hcase with ⟨hg, rfl, hy⟩ | ⟨hg, rfl⟩
  · have hyi : allIn ⟨y0, y1, y2, y3, y4, y5⟩ 576 6 = true := by rw [hy]; exact hg
    have hc := fun W (g : Gr w W) => pcmp_ok y0 y1 y2 y3 y4 y5 _ _ _ _ _ _ W (hP.keep g) hyi (show allIn ⟨(accV ⟨b0, b1, b2, b3, b4, b5⟩ f n ⟨v0, v1, v2, v3, v4, v5⟩ acc).x0, (accV ⟨b0, b1, b2, b3, b4, b5⟩ f n ⟨v0, v1, v2, v3, v4, v5⟩ acc).x1, (accV ⟨b0, b1, b2, b3, b4, b5⟩ f n ⟨v0, v1, v2, v3, v4, v5⟩ acc).x2, (accV ⟨b0, b1, b2, b3, b4, b5⟩ f n ⟨v0, v1, v2, v3, v4, v5⟩ acc).x3, (accV ⟨b0, b1, b2, b3, b4, b5⟩ f n ⟨v0, v1, v2, v3, v4, v5⟩ acc).x4, (accV ⟨b0, b1, b2, b3, b4, b5⟩ f n ⟨v0, v1, v2, v3, v4, v5⟩ acc).x5⟩ 576 6 = true from hacc)
    have ho := try_out ⟨b0, b1, b2, b3, b4, b5⟩ f n ⟨v0, v1, v2, v3, v4, v5⟩ acc (⟨(i, j), hi, hj⟩ : BlowIx m Q) _ rfl
    rw [← hy] at ho
    rcases ho with ⟨ho, hp⟩ | ⟨ho1, ho2, hp⟩
    · refine ⟨0, some ⟨(i, j), hi, hj⟩, (try_any b0 b1 b2 b3 b4 b5 m tol _ _ _ _ _ _ _ _ _ _ _ _ _ _ y0 y1 y2 y3 y4 y5 0 _ _ _ _ _ _ _ _ _ 0 0 _ _ y0 y1 y2 y3 y4 y5 A n c Bh Ba Bb Bl w hT hB hs hd' (fun _ => hc) (.inr (.inl ⟨rfl, rfl, ho, rfl, rfl, rfl, rfl, rfl, rfl, rfl, rfl⟩))).mono ?_, .inr ⟨hg, rfl, hp.symm⟩⟩
      rintro e w' ⟨h1, h2, h3⟩
      refine ⟨h1, h2, ?_⟩
      unfold BestAcc
      rw [show accV ⟨b0, b1, b2, b3, b4, b5⟩ f n ⟨v0, v1, v2, v3, v4, v5⟩ (some (⟨(i, j), hi, hj⟩ : BlowIx m Q)) = ⟨y0, y1, y2, y3, y4, y5⟩ from hy.symm]
      exact h3
    · exact ⟨0, acc, try_any b0 b1 b2 b3 b4 b5 m tol _ _ _ _ _ _ _ _ _ _ _ _ _ _ y0 y1 y2 y3 y4 y5 0 _ _ _ _ _ _ _ _ _ 0 0 _ _ _ _ _ _ _ _ A n c Bh Ba Bb Bl w hT hB hs hd' (fun _ => hc) (.inr (.inr ⟨rfl, rfl, ho1, ho2, rfl, rfl, rfl, rfl, rfl, rfl, rfl, rfl⟩)), .inr ⟨hg, rfl, hp.symm⟩⟩
  · exact ⟨3, acc, try_any b0 b1 b2 b3 b4 b5 m tol _ _ _ _ _ _ _ _ _ _ _ _ _ _ y0 y1 y2 y3 y4 y5 3 _ _ _ _ _ _ _ _ 0 0 3 _ _ _ _ _ _ _ _ A n c Bh Ba Bb Bl w hT hB hs hd' (fun h => absurd h (by omega)) (.inl ⟨rfl, rfl, rfl, rfl, rfl, rfl, rfl, rfl, rfl, rfl⟩), .inl ⟨hg, rfl, rfl⟩⟩

set_option maxRecDepth 100000 in
set_option maxHeartbeats 16000000 in
theorem Best_some (b0 b1 b2 b3 b4 b5 tol v0 v1 v2 v3 v4 v5 X S E : Int) (A : Option Addr) (n c m Q : Nat) (f : Nat → Nat → Int) (L : List (BlowIx m Q)) (w : World) (hP : Primes w) (hBP : BPrimes w) (hV : RowsAt w 6 A n f) (hv : allIn ⟨v0, v1, v2, v3, v4, v5⟩ 48 6 = true) (hok : hornOk ⟨b0, b1, b2, b3, b4, b5⟩ n f m tol = true)
    (hF : ∀ W, Gr w W → Calls Tryd.prog 17 #[.agg #[.int .i64 b0, .int .i64 b1, .int .i64 b2, .int .i64 b3, .int .i64 b4, .int .i64 b5, .slice A n c, .int .i64 m, .int .i64 tol], .agg #[.int .i64 v0, .int .i64 v1, .int .i64 v2, .int .i64 v3, .int .i64 v4, .int .i64 v5]] W (FindRes L W))
    (hL : L ≠ []) (hsn : ∀ p ∈ L, allIn (soundV ⟨b0, b1, b2, b3, b4, b5⟩ f n (p.1.1 + 1) p.1.2) 576 6 = true) (hres : BestRes ⟨b0, b1, b2, b3, b4, b5⟩ f n ⟨v0, v1, v2, v3, v4, v5⟩ L X S E) :
    Calls Tryd.prog 20 #[.agg #[.int .i64 b0, .int .i64 b1, .int .i64 b2, .int .i64 b3, .int .i64 b4, .int .i64 b5, .slice A n c, .int .i64 m, .int .i64 tol], .agg #[.int .i64 v0, .int .i64 v1, .int .i64 v2, .int .i64 v3, .int .i64 v4, .int .i64 v5]] w fun e w' => e = .returned (.tuple #[.agg #[.int .i64 X, .int .i64 S], .int .i64 E]) ∧ Gr w w' := by
  obtain ⟨-, hn4, -, hm16, ht0, ht1, -⟩ := hornOk_parts hok
  have HF := Lib.hid hF; have HP := Lib.hid hP; have HBP := Lib.hid hBP; have HV := Lib.hid hV; have HOK := Lib.hid hok; have HL := Lib.hid hL; have HSN := Lib.hid hsn; have HRES := Lib.hid hres
  have HC := Lib.hid (fun W => pof_ok v0 v1 v2 v3 v4 v5 W hv)
  have HVV := Lib.hid (atV_in hv)
  have hpos : 0 < L.length := List.length_pos_iff.2 hL
  clear hF hP hBP hV hok hL hsn hres hv
  go_enter Tryd.func20, Tryd.ntmps20
  go_wp2_with fail
  (go_at_call 17; refine (HF.out _ (by repeat (first | with_reducible exact Gr.refl _ | with_reducible refine Gr.alloc ?_ _ | with_reducible refine Gr.drew ?_ | with_reducible refine Gr.trans ?_ (by assumption) | with_reducible refine Gr.setCell ?_ (by (try simp); (try omega)) _))).mono ?_; rintro e wf ⟨v, rfl, hrow, -, hb⟩)
  obtain ⟨A2, c2, rfl, hrows, hmax⟩ := rows_of_own hrow (blowF L) (fun i j hi hj => pairCells_at _ _ L i j hi hj)
  unfold maxLen at hmax
  have HR := Lib.hid hrows
  have HG := Lib.hid (show Gr w wf from (by repeat (first | with_reducible exact Gr.refl _ | with_reducible refine Gr.alloc ?_ _ | with_reducible refine Gr.drew ?_ | with_reducible refine Gr.trans ?_ (by assumption) | with_reducible refine Gr.setCell ?_ (by (try simp); (try omega)) _)))
  have hz := hb.le; obtain ⟨hc, hf⟩ := hb.cells; simp only [World.size_alloc] at hc hf hz
  have r0 : wf.cell? ⟨w.heap.size + 1 + 1, 0, none⟩ = some (.int .i64 0) := by simp [go_sem, *]
  have r1 : wf.cell? ⟨w.heap.size + 1 + 1, 1, none⟩ = some (.int .i64 0) := by simp [go_sem, *]
  have rf : ∀ o, wf.frozen? ⟨w.heap.size + 1 + 1, o, none⟩ = false := by intro o; simp [go_sem, *]
  have u : SixV wf (w.heap.size + 1) (.int .i64 v0) (.int .i64 v1) (.int .i64 v2) (.int .i64 v3) (.int .i64 v4) (.int .i64 v5) := ⟨by simp [go_sem, *], by simp [go_sem, *], by simp [go_sem, *], by simp [go_sem, *], by simp [go_sem, *], by simp [go_sem, *]⟩
  have hH : HornAt wf w.heap.size b0 b1 b2 b3 b4 b5 (.slice A n c) m tol := ⟨by simp [go_sem, *], by simp [go_sem, *], by simp [go_sem, *], by simp [go_sem, *], by simp [go_sem, *], by simp [go_sem, *], by simp [go_sem, *], by simp [go_sem, *], by simp [go_sem, *]⟩
  have HH := Lib.hid hH
  obtain ⟨u0, u1, u2, u3, u4, u5⟩ := u
  clear hrow hrows hb hc hf hH
  have hmf : ∀ (fn : Fn) (first cap : Array Value) (w : World), (Instr.makeFunc fn first cap).run Tryd.prog w = .ok (.func fn first cap) w := fun _ _ _ _ => rfl
  go_wp2_with fail
  (go_at_call 23; refine (HC.out _).mono ?_; rintro e w1 ⟨rfl, hb⟩)
  have HG1 := Lib.hid hb
  have hz1 := hb.le
  clear hb
  go_wp2_with fail
  have HRR := Lib.hid (And.intro r0 (And.intro r1 rf))
  clear hmf u0 u1 u2 u3 u4 u5 r0 r1 rf
  have hS : TryW b0 b1 b2 b3 b4 b5 m tol (v0 * 12) (v1 * 12) (v2 * 12) (v3 * 12) (v4 * 12) (v5 * 12) A n c w.heap.size w1.heap.size (((w1.alloc (.cells #[.int .i64 (v0 * 12), .int .i64 (v1 * 12), .int .i64 (v2 * 12), .int .i64 (v3 * 12), .int .i64 (v4 * 12), .int .i64 (v5 * 12)] 23)).alloc (.cells #[.int .i64 0, .int .i64 0] 28)).alloc (.cells #[.int .i64 0, .int .i64 0, .int .i64 0, .int .i64 0, .int .i64 0, .int .i64 0] 23)) :=
    ⟨HH.out.keep (((HG1.out.alloc _).alloc _).alloc _) (by omega), ⟨by simp [go_sem], by simp [go_sem], by simp [go_sem], by simp [go_sem], by simp [go_sem], by simp [go_sem]⟩, by simp; omega, by simp; omega⟩
  have hB : BestAcc (m := m) (Q := Q) ⟨b0, b1, b2, b3, b4, b5⟩ f n ⟨v0, v1, v2, v3, v4, v5⟩ (((w1.alloc (.cells #[.int .i64 (v0 * 12), .int .i64 (v1 * 12), .int .i64 (v2 * 12), .int .i64 (v3 * 12), .int .i64 (v4 * 12), .int .i64 (v5 * 12)] 23)).alloc (.cells #[.int .i64 0, .int .i64 0] 28)).alloc (.cells #[.int .i64 0, .int .i64 0, .int .i64 0, .int .i64 0, .int .i64 0, .int .i64 0] 23)) (w1.heap.size + 1) (w1.heap.size + 1 + 1) none :=
    ⟨by omega, by simp, by simp [go_sem, accX], by simp [go_sem, accS], fun o => by simp [go_sem], ⟨by simp [go_sem, accV], by simp [go_sem, accV], by simp [go_sem, accV], by simp [go_sem, accV], by simp [go_sem, accV], by simp [go_sem, accV]⟩, fun o => by simp [go_sem]⟩
  have hG : Gr wf (((w1.alloc (.cells #[.int .i64 (v0 * 12), .int .i64 (v1 * 12), .int .i64 (v2 * 12), .int .i64 (v3 * 12), .int .i64 (v4 * 12), .int .i64 (v5 * 12)] 23)).alloc (.cells #[.int .i64 0, .int .i64 0] 28)).alloc (.cells #[.int .i64 0, .int .i64 0, .int .i64 0, .int .i64 0, .int .i64 0, .int .i64 0] 23)) := ((HG1.out.alloc _).alloc _).alloc _
  generalize (((w1.alloc (.cells #[.int .i64 (v0 * 12), .int .i64 (v1 * 12), .int .i64 (v2 * 12), .int .i64 (v3 * 12), .int .i64 (v4 * 12), .int .i64 (v5 * 12)] 23)).alloc (.cells #[.int .i64 0, .int .i64 0] 28)).alloc (.cells #[.int .i64 0, .int .i64 0, .int .i64 0, .int .i64 0, .int .i64 0, .int .i64 0] 23)) = W0 at *
  generalize w1.heap.size = Ba at *
  have HS := Lib.hid hS; have HB := Lib.hid hB; have HG0 := Lib.hid hG
  clear hS hB hG HG1 HH
  go_loopw [38] (fun i wr => ∃ k : Nat, k ≤ L.length ∧ i = .int .i64 k ∧ (∀ p ∈ L.take k, okB ⟨b0, b1, b2, b3, b4, b5⟩ f n ⟨v0, v1, v2, v3, v4, v5⟩ p = true) ∧ Gr wf wr ∧ TryW b0 b1 b2 b3 b4 b5 m tol (v0 * 12) (v1 * 12) (v2 * 12) (v3 * 12) (v4 * 12) (v5 * 12) A n c w.heap.size Ba wr ∧ BestAcc ⟨b0, b1, b2, b3, b4, b5⟩ f n ⟨v0, v1, v2, v3, v4, v5⟩ wr (Ba + 1) (Ba + 1 + 1) (bestL ⟨b0, b1, b2, b3, b4, b5⟩ f n ⟨v0, v1, v2, v3, v4, v5⟩ (L.take k))) (fun i _ => L.length - (intOf i).toNat)
  case atStart => exact ⟨0, Nat.zero_le _, rfl, by simp, HG0.out, HS.out, HB.out⟩
  case round =>
    obtain ⟨k, hk, rfl, hall, hg, hT, hB⟩ := hrel
    have HALL := Lib.hid hall; have HGW := Lib.hid hg; have HT := Lib.hid hT; have HBA := Lib.hid hB
    clear hall hg hT hB HS HB HG0
    by_cases hlt : k < L.length
    · obtain ⟨p, hp⟩ : ∃ p, L[k]? = some p := ⟨_, List.getElem?_eq_getElem hlt⟩
      obtain ⟨b, off, rfl, hbl, c0, c1⟩ := (HR.out.keep HGW.out).two hlt
      unfold blowF at c0 c1
      rw [pairF_0 hp] at c0
      rw [pairF_1 hp] at c1
      have hmem : p ∈ L := List.mem_of_getElem? hp
      have hwf := HGW.out.size
      have hG0 := (Gr.refl wr).alloc (.cells #[.int .i64 ((p.1.1 : Int) + 1), .int .i64 (p.1.2 : Int)] 28)
      have hGW := HG.out.trans (HGW.out.trans hG0)
      have hsz := HT.out.h2
      have hszb := HBA.out.sz
      obtain ⟨R, acc', hcall, hcase⟩ := try_step b0 b1 b2 b3 b4 b5 tol v0 v1 v2 v3 v4 v5 A n c m Q f (bestL ⟨b0, b1, b2, b3, b4, b5⟩ f n ⟨v0, v1, v2, v3, v4, v5⟩ (L.take k)) p w.heap.size Ba (Ba + 1) (Ba + 1 + 1) (wr.alloc (.cells #[.int .i64 ((p.1.1 : Int) + 1), .int .i64 (p.1.2 : Int)] 28))
        (HP.out.keep hGW) (HBP.out.keep hGW) (HV.out.keep hGW) HVV.out HOK.out (HSN.out p hmem) (accV_in _ _ _ _ _ HALL.out) (HT.out.keep hG0 (by omega) hsz) (HBA.out.keep hG0)
      have HCALL := Lib.hid hcall; have HCASE := Lib.hid hcase; have HP1 := Lib.hid hp; have HMEM := Lib.hid hmem; have HGW2 := Lib.hid hGW
      clear hcall hcase hp hmem hG0 hGW
      generalize ((p.1.1 : Int) + 1) = px at *
      generalize (p.1.2 : Int) = ps at *
      go_wp2_with fail
      (go_at_call 63; refine HCALL.out.mono ?_; rintro e w3 ⟨rfl, hb, hB3⟩)
      have hG3 : Gr wf w3 := (HGW.out.alloc _).below hb (by omega)
      have HG3 := Lib.hid hG3
      have hwz := HG.out.size
      have r0 := (Below.cell (p := ⟨w.heap.size + 1 + 1, 0, none⟩) hG3 (show w.heap.size + 1 + 1 < wf.heap.size by omega)).trans HRR.out.1
      have r1 := (Below.cell (p := ⟨w.heap.size + 1 + 1, 1, none⟩) hG3 (show w.heap.size + 1 + 1 < wf.heap.size by omega)).trans HRR.out.2.1
      have rf : ∀ o, w3.frozen? ⟨w.heap.size + 1 + 1, o, none⟩ = false := fun o => (Below.frozen (p := ⟨w.heap.size + 1 + 1, o, none⟩) hG3 (show w.heap.size + 1 + 1 < wf.heap.size by omega)).trans (HRR.out.2.2 o)
      rcases HCASE.out with ⟨hbad, rfl, rfl⟩ | ⟨hgood, rfl, rfl⟩
      · obtain ⟨rfl, rfl, rfl⟩ := HRES.out.bad HMEM.out hbad
        clear hbad hb hB3 hG3
        go_wp2_with fail
        exact bodyPost_ret (v := .tuple #[.agg #[.int .i64 0, .int .i64 0], .int .i64 3]) (by simp [results, Tryd.results20, go_sem, *]) rfl ⟨rfl, ((HG.out.trans HG3.out).setCell (by simp only; omega) _).setCell (by simp only; omega) _⟩
      · have HB3 := Lib.hid hB3; have HBW := Lib.hid hb; have HGD := Lib.hid hgood
        clear hgood hb hB3 hG3 r0 r1 rf
        go_wp2_with fail
        go_roundw
        case rel =>
          refine ⟨k + 1, by omega, by go_num, ?_, HG3.out, (HT.out.keep ((Gr.refl wr).alloc _) (by omega) hsz).keep HBW.out (by omega) (by omega), ?_⟩
          · rw [take_snoc HP1.out]
            intro q hq
            rcases List.mem_append.1 hq with hq | hq
            · exact HALL.out q hq
            · obtain rfl := List.mem_singleton.1 hq; exact HGD.out
          · rw [take_snoc HP1.out, bestL_snoc]; exact HB3.out
        case measure => simp [intOf]; omega
    · obtain rfl : k = L.length := by omega
      rw [List.take_length] at HALL HBA
      obtain ⟨hX, hS, rfl⟩ := HRES.out.good HL.out HALL.out
      obtain ⟨j1, j2, k0, k1, -, -, -⟩ := HBA.out
      rw [← hX] at k0
      rw [← hS] at k1
      have hwz := HG.out.size
      have hG3 := HGW.out
      have r0 := (Below.cell (p := ⟨w.heap.size + 1 + 1, 0, none⟩) hG3 (show w.heap.size + 1 + 1 < wf.heap.size by omega)).trans HRR.out.1
      have r1 := (Below.cell (p := ⟨w.heap.size + 1 + 1, 1, none⟩) hG3 (show w.heap.size + 1 + 1 < wf.heap.size by omega)).trans HRR.out.2.1
      have rf : ∀ o, wr.frozen? ⟨w.heap.size + 1 + 1, o, none⟩ = false := fun o => (Below.frozen (p := ⟨w.heap.size + 1 + 1, o, none⟩) hG3 (show w.heap.size + 1 + 1 < wf.heap.size by omega)).trans (HRR.out.2.2 o)
      clear hG3 hX hS
      go_wp2_with fail
      exact bodyPost_ret (v := .tuple #[.agg #[.int .i64 X, .int .i64 S], .int .i64 0]) (by simp [results, Tryd.results20, go_sem, *]) rfl ⟨rfl, ((HG.out.trans HGW.out).setCell (by simp only; omega) _).setCell (by simp only; omega) _⟩
end Go.Proofs.YtbaopniofhbjdaaDoor
