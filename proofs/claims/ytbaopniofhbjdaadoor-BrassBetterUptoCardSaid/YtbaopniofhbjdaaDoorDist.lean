/-
  brass.distance.
-/
import Derived.Test.YtbaopniofhbjdaaDoorPCmp
import Derived.Test.YtbaopniofhbjdaaDoorMul
import Derived.Test.YtbaopniofhbjdaaDoorSix
namespace Go.Proofs.YtbaopniofhbjdaaDoor
open Go.RowKit Go.Shelf
attribute [local go_sem] Oper.semAt_some

theorem div_any (a0 a1 a2 a3 a4 a5 b0 b1 b2 b3 b4 b5 : Int) (hva : allIn ⟨a0, a1, a2, a3, a4, a5⟩ 576 6 = true) (hvb : allIn ⟨b0, b1, b2, b3, b4, b5⟩ 576 6 = true) :
    ∃ y0 y1 y2 y3 y4 y5 E : Int, (∀ W, Calls Tryd.prog 32 #[.agg #[.int .i64 a0, .int .i64 a1, .int .i64 a2, .int .i64 a3, .int .i64 a4, .int .i64 a5], .agg #[.int .i64 b0, .int .i64 b1, .int .i64 b2, .int .i64 b3, .int .i64 b4, .int .i64 b5]] W fun e w' => e = .returned (.tuple #[.agg #[.int .i64 y0, .int .i64 y1, .int .i64 y2, .int .i64 y3, .int .i64 y4, .int .i64 y5], .int .i64 E]) ∧ Gr W w') ∧
      ((allIn ⟨a0 - b0, a1 - b1, a2 - b2, a3 - b3, a4 - b4, a5 - b5⟩ 576 6 = true ∧ E = 0 ∧ (⟨y0, y1, y2, y3, y4, y5⟩ : V6) = ⟨a0 - b0, a1 - b1, a2 - b2, a3 - b3, a4 - b4, a5 - b5⟩) ∨
       (allIn ⟨a0 - b0, a1 - b1, a2 - b2, a3 - b3, a4 - b4, a5 - b5⟩ 576 6 = false ∧ E = 3)) := by
  cases h : allIn ⟨a0 - b0, a1 - b1, a2 - b2, a3 - b3, a4 - b4, a5 - b5⟩ 576 6 with
  | true => exact ⟨_, _, _, _, _, _, _, fun W => div_ok _ _ _ _ _ _ _ _ _ _ _ _ W hva hvb h, .inl ⟨rfl, rfl, rfl⟩⟩
  | false => exact ⟨_, _, _, _, _, _, _, fun W => div_out _ _ _ _ _ _ _ _ _ _ _ _ W hva hvb h, .inr ⟨rfl, rfl⟩⟩
/-- The distance of two pitches. -/
def distV (u v : V6) : V6 := if cmpP (u.sub v) < 0 then v.sub u else u.sub v

set_option maxHeartbeats 2000000 in
theorem dist_any (a0 a1 a2 a3 a4 a5 b0 b1 b2 b3 b4 b5 : Int) (hva : allIn ⟨a0, a1, a2, a3, a4, a5⟩ 576 6 = true) (hvb : allIn ⟨b0, b1, b2, b3, b4, b5⟩ 576 6 = true) :
    ∃ y0 y1 y2 y3 y4 y5 E : Int, (∀ W, Primes W → Calls Tryd.prog 64 #[.agg #[.int .i64 a0, .int .i64 a1, .int .i64 a2, .int .i64 a3, .int .i64 a4, .int .i64 a5], .agg #[.int .i64 b0, .int .i64 b1, .int .i64 b2, .int .i64 b3, .int .i64 b4, .int .i64 b5]] W fun e w' => e = .returned (.tuple #[.agg #[.int .i64 y0, .int .i64 y1, .int .i64 y2, .int .i64 y3, .int .i64 y4, .int .i64 y5], .int .i64 E]) ∧ Gr W w') ∧
      ((allIn (distV ⟨a0, a1, a2, a3, a4, a5⟩ ⟨b0, b1, b2, b3, b4, b5⟩) 576 6 = true ∧ E = 0 ∧ (⟨y0, y1, y2, y3, y4, y5⟩ : V6) = distV ⟨a0, a1, a2, a3, a4, a5⟩ ⟨b0, b1, b2, b3, b4, b5⟩) ∨
       (allIn (distV ⟨a0, a1, a2, a3, a4, a5⟩ ⟨b0, b1, b2, b3, b4, b5⟩) 576 6 = false ∧ E = 3)) := by
  have HP := fun W h => pcmp_ok a0 a1 a2 a3 a4 a5 b0 b1 b2 b3 b4 b5 W h hva hvb
  by_cases hs : cmpP (V6.sub ⟨a0, a1, a2, a3, a4, a5⟩ ⟨b0, b1, b2, b3, b4, b5⟩) < 0
  · obtain ⟨y0, y1, y2, y3, y4, y5, E, hd, hc⟩ := div_any b0 b1 b2 b3 b4 b5 a0 a1 a2 a3 a4 a5 hvb hva
    refine ⟨y0, y1, y2, y3, y4, y5, E, fun W hP => ?_, by rw [distV, if_pos hs]; exact hc⟩
    have hr := cmpP_range (V6.sub ⟨a0, a1, a2, a3, a4, a5⟩ ⟨b0, b1, b2, b3, b4, b5⟩)
    have e : cmpP (V6.sub ⟨a0, a1, a2, a3, a4, a5⟩ ⟨b0, b1, b2, b3, b4, b5⟩) = -1 := by omega
    rw [e] at HP
    have HC := Lib.hid HP; have HD := Lib.hid hd; have HPW := Lib.hid hP
    clear hd hc hva hvb HP hP hr e hs
    go_enter Tryd.func64, Tryd.ntmps64
    go_wp2_with fail
    (go_at_call 27; with_reducible refine (HC.out _ (HPW.out.keep (by repeat (first | with_reducible exact Gr.refl _ | with_reducible refine Gr.alloc ?_ _ | with_reducible refine Gr.drew ?_ | with_reducible refine Gr.trans ?_ (by assumption) | with_reducible refine Gr.setCell ?_ (by (try simp); (try omega)) _)))).mono ?_; rintro e w' ⟨rfl, hb⟩; have hz := hb.le; obtain ⟨hc, hf⟩ := hb.cells; have hn := hb.cellsN; (try simp only [World.size_alloc] at hc hf hz hn); (try simp only [World.size_setCell] at hc hf hz hn); (try simp only [World.size_drew] at hc hf hz hn))
    go_upto_region 4 with fail
    have hg : Gr W w' := (by repeat (first | with_reducible exact Gr.refl _ | with_reducible refine Gr.alloc ?_ _ | with_reducible refine Gr.drew ?_ | with_reducible refine Gr.trans ?_ (by assumption) | with_reducible refine Gr.setCell ?_ (by (try simp); (try omega)) _))
    have s1 : SixV w' W.heap.size (.int .i64 a0) (.int .i64 a1) (.int .i64 a2) (.int .i64 a3) (.int .i64 a4) (.int .i64 a5) := ⟨by simp [go_sem, *], by simp [go_sem, *], by simp [go_sem, *], by simp [go_sem, *], by simp [go_sem, *], by simp [go_sem, *]⟩
    have s2 : SixV w' (W.heap.size + 1) (.int .i64 b0) (.int .i64 b1) (.int .i64 b2) (.int .i64 b3) (.int .i64 b4) (.int .i64 b5) := ⟨by simp [go_sem, *], by simp [go_sem, *], by simp [go_sem, *], by simp [go_sem, *], by simp [go_sem, *], by simp [go_sem, *]⟩
    have s3 : SixV w' (W.heap.size + 1 + 1) (.int .i64 0) (.int .i64 0) (.int .i64 0) (.int .i64 0) (.int .i64 0) (.int .i64 0) := ⟨by simp [go_sem, *], by simp [go_sem, *], by simp [go_sem, *], by simp [go_sem, *], by simp [go_sem, *], by simp [go_sem, *]⟩
    have f3 : ∀ o, w'.frozen? ⟨W.heap.size + 1 + 1, o, none⟩ = false := by intro o; simp [go_sem, *]
    change Code.wp _ _ _ _ (set6 (set6 w' W.heap.size (.int .i64 b0) (.int .i64 b1) (.int .i64 b2) (.int .i64 b3) (.int .i64 b4) (.int .i64 b5)) (W.heap.size + 1) (.int .i64 a0) (.int .i64 a1) (.int .i64 a2) (.int .i64 a3) (.int .i64 a4) (.int .i64 a5))
    have t1 := (set6_own s1.some (.int .i64 b0) (.int .i64 b1) (.int .i64 b2) (.int .i64 b3) (.int .i64 b4) (.int .i64 b5)).other (b := W.heap.size + 1) (by omega) (.int .i64 a0) (.int .i64 a1) (.int .i64 a2) (.int .i64 a3) (.int .i64 a4) (.int .i64 a5)
    have t2 := set6_own (s2.other (b := W.heap.size) (by omega) (.int .i64 b0) (.int .i64 b1) (.int .i64 b2) (.int .i64 b3) (.int .i64 b4) (.int .i64 b5)).some (.int .i64 a0) (.int .i64 a1) (.int .i64 a2) (.int .i64 a3) (.int .i64 a4) (.int .i64 a5)
    have t3 := (s3.other (b := W.heap.size) (by omega) (.int .i64 b0) (.int .i64 b1) (.int .i64 b2) (.int .i64 b3) (.int .i64 b4) (.int .i64 b5)).other (b := W.heap.size + 1) (by omega) (.int .i64 a0) (.int .i64 a1) (.int .i64 a2) (.int .i64 a3) (.int .i64 a4) (.int .i64 a5)
    have hg2 : Gr W _ := set6_below (set6_below hg (Nat.le_refl _) (.int .i64 b0) (.int .i64 b1) (.int .i64 b2) (.int .i64 b3) (.int .i64 b4) (.int .i64 b5)) (show W.heap.size ≤ W.heap.size + 1 by omega) (.int .i64 a0) (.int .i64 a1) (.int .i64 a2) (.int .i64 a3) (.int .i64 a4) (.int .i64 a5)
    have f3' : ∀ o, (set6 (set6 w' W.heap.size (.int .i64 b0) (.int .i64 b1) (.int .i64 b2) (.int .i64 b3) (.int .i64 b4) (.int .i64 b5)) (W.heap.size + 1) (.int .i64 a0) (.int .i64 a1) (.int .i64 a2) (.int .i64 a3) (.int .i64 a4) (.int .i64 a5)).frozen? ⟨W.heap.size + 1 + 1, o, none⟩ = false := fun o => by rw [set6_frozen, set6_frozen]; exact f3 o
    have hz2 : (set6 (set6 w' W.heap.size (.int .i64 b0) (.int .i64 b1) (.int .i64 b2) (.int .i64 b3) (.int .i64 b4) (.int .i64 b5)) (W.heap.size + 1) (.int .i64 a0) (.int .i64 a1) (.int .i64 a2) (.int .i64 a3) (.int .i64 a4) (.int .i64 a5)).heap.size = w'.heap.size := by rw [set6_size, set6_size]
    generalize set6 (set6 w' W.heap.size (.int .i64 b0) (.int .i64 b1) (.int .i64 b2) (.int .i64 b3) (.int .i64 b4) (.int .i64 b5)) (W.heap.size + 1) (.int .i64 a0) (.int .i64 a1) (.int .i64 a2) (.int .i64 a3) (.int .i64 a4) (.int .i64 a5) = W2 at *
    obtain ⟨u0, u1, u2, u3, u4, u5⟩ := t1
    obtain ⟨v0, v1, v2, v3, v4, v5⟩ := t2
    have HS3 := Lib.hid t3; have HG2 := Lib.hid hg2; have HF3 := Lib.hid f3'
    clear s1 s2 s3 f3 hb hc hf hn hg t3 hg2 f3'
    go_wp2_with fail
    (go_at_call 32; with_reducible refine (HD.out _).mono ?_; rintro e w3 ⟨rfl, hb⟩)
    have hs3 := HS3.out.keep hb (by omega)
    have hf3 : ∀ o, w3.frozen? ⟨W.heap.size + 1 + 1, o, none⟩ = false := fun o => (Below.frozen (p := ⟨W.heap.size + 1 + 1, o, none⟩) hb (by simp only; omega)).trans (HF3.out o)
    have HG3 := Lib.hid (HG2.out.trans hb)
    have HSS := Lib.hid hs3.some
    obtain ⟨r0, r1, r2, r3, r4, r5⟩ := hs3
    clear hb u0 u1 u2 u3 u4 u5 v0 v1 v2 v3 v4 v5
    go_wp2_with fail
    refine bodyPost_six HSS.out ?_
    intro W' hW' s0 s1 s2 s3 s4 s5
    exact bodyPost_ret (v := .tuple #[.agg #[.int .i64 y0, .int .i64 y1, .int .i64 y2, .int .i64 y3, .int .i64 y4, .int .i64 y5], .int .i64 E]) (by simp [results, Tryd.results64, go_sem, s0, s1, s2, s3, s4, s5]) rfl ⟨rfl, hW' _ HG3.out (by omega)⟩
  · obtain ⟨y0, y1, y2, y3, y4, y5, E, hd, hc⟩ := div_any a0 a1 a2 a3 a4 a5 b0 b1 b2 b3 b4 b5 hva hvb
    refine ⟨y0, y1, y2, y3, y4, y5, E, fun W hP => ?_, by rw [distV, if_neg hs]; exact hc⟩
    generalize cmpP (V6.sub ⟨a0, a1, a2, a3, a4, a5⟩ ⟨b0, b1, b2, b3, b4, b5⟩) = C at HP hs
    have HC := Lib.hid HP; have HD := Lib.hid hd; have HPW := Lib.hid hP
    clear hd hc hva hvb HP hP
    go_enter Tryd.func64, Tryd.ntmps64
    go_wp2_with fail
    (go_at_call 27; with_reducible refine (HC.out _ (HPW.out.keep (by repeat (first | with_reducible exact Gr.refl _ | with_reducible refine Gr.alloc ?_ _ | with_reducible refine Gr.drew ?_ | with_reducible refine Gr.trans ?_ (by assumption) | with_reducible refine Gr.setCell ?_ (by (try simp); (try omega)) _)))).mono ?_; rintro e w' ⟨rfl, hb⟩; have hz := hb.le; obtain ⟨hc, hf⟩ := hb.cells; have hn := hb.cellsN; (try simp only [World.size_alloc] at hc hf hz hn); (try simp only [World.size_setCell] at hc hf hz hn); (try simp only [World.size_drew] at hc hf hz hn))
    go_upto_region 4 with fail
    have hg : Gr W w' := (by repeat (first | with_reducible exact Gr.refl _ | with_reducible refine Gr.alloc ?_ _ | with_reducible refine Gr.drew ?_ | with_reducible refine Gr.trans ?_ (by assumption) | with_reducible refine Gr.setCell ?_ (by (try simp); (try omega)) _))
    have s1 : SixV w' W.heap.size (.int .i64 a0) (.int .i64 a1) (.int .i64 a2) (.int .i64 a3) (.int .i64 a4) (.int .i64 a5) := ⟨by simp [go_sem, *], by simp [go_sem, *], by simp [go_sem, *], by simp [go_sem, *], by simp [go_sem, *], by simp [go_sem, *]⟩
    have s2 : SixV w' (W.heap.size + 1) (.int .i64 b0) (.int .i64 b1) (.int .i64 b2) (.int .i64 b3) (.int .i64 b4) (.int .i64 b5) := ⟨by simp [go_sem, *], by simp [go_sem, *], by simp [go_sem, *], by simp [go_sem, *], by simp [go_sem, *], by simp [go_sem, *]⟩
    have s3 : SixV w' (W.heap.size + 1 + 1) (.int .i64 0) (.int .i64 0) (.int .i64 0) (.int .i64 0) (.int .i64 0) (.int .i64 0) := ⟨by simp [go_sem, *], by simp [go_sem, *], by simp [go_sem, *], by simp [go_sem, *], by simp [go_sem, *], by simp [go_sem, *]⟩
    have f3 : ∀ o, w'.frozen? ⟨W.heap.size + 1 + 1, o, none⟩ = false := by intro o; simp [go_sem, *]
    obtain ⟨W2, rfl⟩ : ∃ W2 : World, W2 = w' := ⟨_, rfl⟩
    obtain ⟨u0, u1, u2, u3, u4, u5⟩ := s1
    obtain ⟨v0, v1, v2, v3, v4, v5⟩ := s2
    have HS3 := Lib.hid s3; have HG2 := Lib.hid hg; have HF3 := Lib.hid f3
    have hz2 : W2.heap.size = W2.heap.size := rfl
    clear s3 f3 hb hc hf hn hg
    go_wp2_with fail
    (go_at_call 32; with_reducible refine (HD.out _).mono ?_; rintro e w3 ⟨rfl, hb⟩)
    have hs3 := HS3.out.keep hb (by omega)
    have hf3 : ∀ o, w3.frozen? ⟨W.heap.size + 1 + 1, o, none⟩ = false := fun o => (Below.frozen (p := ⟨W.heap.size + 1 + 1, o, none⟩) hb (by simp only; omega)).trans (HF3.out o)
    have HG3 := Lib.hid (HG2.out.trans hb)
    have HSS := Lib.hid hs3.some
    obtain ⟨r0, r1, r2, r3, r4, r5⟩ := hs3
    clear hb u0 u1 u2 u3 u4 u5 v0 v1 v2 v3 v4 v5
    go_wp2_with fail
    refine bodyPost_six HSS.out ?_
    intro W' hW' s0 s1 s2 s3 s4 s5
    exact bodyPost_ret (v := .tuple #[.agg #[.int .i64 y0, .int .i64 y1, .int .i64 y2, .int .i64 y3, .int .i64 y4, .int .i64 y5], .int .i64 E]) (by simp [results, Tryd.results64, go_sem, s0, s1, s2, s3, s4, s5]) rfl ⟨rfl, hW' _ HG3.out (by omega)⟩
end Go.Proofs.YtbaopniofhbjdaaDoor
