/-
  brass.Find at a valid horn.
-/
import Derived.Test.YtbaopniofhbjdaaDoorFind2
import Derived.Test.YtbaopniofhbjdaaDoorRound
namespace Go.Proofs.YtbaopniofhbjdaaDoor
open Go.RowKit Go.Shelf
attribute [local go_sem] Oper.semAt_some

set_option linter.unusedSimpArgs false in
set_option maxRecDepth 100000 in
set_option maxHeartbeats 16000000 in
theorem Find_ok (b0 b1 b2 b3 b4 b5 tol v0 v1 v2 v3 v4 v5 : Int) (A : Option Addr) (n c m Q : Nat) (f : Nat → Nat → Int) (w : World) (hL : Logs w) (hP : Primes w) (hBP : BPrimes w) (hV : RowsAt w 6 A n f) (hv : allIn ⟨v0, v1, v2, v3, v4, v5⟩ 48 6 = true) (hok : hornOk ⟨b0, b1, b2, b3, b4, b5⟩ n f m tol = true) (hQ : 2 ^ n = Q) :
    Calls Tryd.prog 17 #[.agg #[.int .i64 b0, .int .i64 b1, .int .i64 b2, .int .i64 b3, .int .i64 b4, .int .i64 b5, .slice A n c, .int .i64 (m : Int), .int .i64 tol], .agg #[.int .i64 v0, .int .i64 v1, .int .i64 v2, .int .i64 v3, .int .i64 v4, .int .i64 v5]] w (FindRes (findL ⟨b0, b1, b2, b3, b4, b5⟩ f n tol ⟨v0, v1, v2, v3, v4, v5⟩ (blowsTo m Q m)) w) := by
  obtain ⟨-, hn4, -, hm16, ht0, ht1, -⟩ := hornOk_parts hok
  have hQ16 : Q ≤ 16 := by rw [← hQ]; exact Nat.pow_le_pow_right (by omega) hn4
  obtain ⟨i0, hinfo, hz0, hz1, hz2⟩ := info_parts infoBlow
  have HC := Lib.hid (fun W => pof_ok v0 v1 v2 v3 v4 v5 W hv)
  have HH := Lib.hid (fun W h h' => hornValid_any b0 b1 b2 b3 b4 b5 m tol A n c f W h h' (by omega))
  rw [hok] at HH
  have HVV := Lib.hid (atV_in hv)
  have HP := Lib.hid hP; have HV := Lib.hid hV; have HBP := Lib.hid hBP; have HL := Lib.hid hL; have HOK := Lib.hid hok; have HQ := Lib.hid hQ
  clear hv hP hV hBP hL hok hQ
  refine (callsIn_wide (n := 6)).1 ?_
  refine callsIn_of_wp_marks Tryd.func17 rfl trivial ?_ rfl
  simp only [Tryd.ntmps17, List.size_toArray, List.length_cons, List.length_nil, Nat.reduceAdd, Nat.reduceSub, Array.replicate_succ, Array.replicate_zero, List.push_toArray, List.append_toArray, List.nil_append, List.cons_append]
  gi_wp2_with fail
  refine ⟨trivial, callsIn_wide.2 ((HC.out _).mono ?_)⟩
  rintro e w1 ⟨rfl, hb⟩
  have HB1 := Lib.hid hb
  have hz := hb.le; obtain ⟨hc, hf⟩ := hb.cells; simp only [World.size_alloc] at hc hf hz
  have hg : Gr w w1 := (by repeat (first | exact Gr.refl _ | refine Gr.alloc ?_ _ | refine Gr.drew ?_ | refine Gr.trans ?_ (by assumption) | refine Gr.setCell ?_ (by (try simp); (try omega)) _))
  have HG := Lib.hid hg
  clear hg
  gi_wp2_with fail
  refine ⟨trivial, callsIn_wide.2 ((HH.out _ (HP.out.keep (HG.out.alloc _)) (HV.out.keep (HG.out.alloc _))).mono ?_)⟩
  rintro e w2 ⟨rfl, hb2⟩
  have HS := Lib.hid (fnd_start b0 b1 b2 b3 b4 b5 tol v0 v1 v2 v3 v4 v5 A n c m Q w w1 w2 hb hb2)
  have hz2 := hb2.le; obtain ⟨hc2, hf2⟩ := hb2.cells; simp only [World.size_alloc] at hc2 hf2 hz2
  gi_wp2_with (refine ⟨trivial, ?_⟩; gi_at_call 57; refine (blows_in b0 b1 b2 b3 b4 b5 m tol A n c _ _).mono ?_; rintro e w' ⟨rfl, rfl⟩)
  clear hb hc hf hz hb2 hc2 hf2 hz2 HC HH HB1 HG
  have HZ0 : Hid (((w2.alloc (.cells #[.slice none 0 0] 35)).alloc (.cells #[.int .i64 b0, .int .i64 b1, .int .i64 b2, .int .i64 b3, .int .i64 b4, .int .i64 b5, .slice A n c, .int .i64 (m : Int), .int .i64 tol] 26)).heap.size = w2.heap.size + 2) := Lib.hid (by simp)
  generalize (w2.alloc (.cells #[.slice none 0 0] 35)).alloc (.cells #[.int .i64 b0, .int .i64 b1, .int .i64 b2, .int .i64 b3, .int .i64 b4, .int .i64 b5, .slice A n c, .int .i64 (m : Int), .int .i64 tol] 26) = W0 at *
  generalize w2.heap.size = Bl at *
  generalize w1.heap.size = Bt at *
  have hS := HS.out
  have hsz := HZ0.out
  have hle := hS.1.le
  have hlt := hS.1.lt
  have hown : W0.cell? ⟨Bl + 1, 6, none⟩ = some (.slice A n c) ∧ W0.cell? ⟨Bl + 1, 7, none⟩ = some (.int .i64 (m : Int)) := by
    have := hS.2.2
    constructor <;> simp [World.cell?, this]
  refine wpIn_rangeFunc_ownH rfl (by omega) (gf := 82) (lb := #[.pointer (some ⟨Bl + 1, 0, none⟩)]) rfl trivial (enters_of Tryd.func82 (by kernel_rfl) rfl)
    (blows_stops A n c m Q HQ.out hn4 (by omega) (6 - 1) (by omega) (Bl + 1) W0 (by omega) hown.1 hown.2) (fun h k => keepBox_t h k) (fun W l o o' h1 h2 h3 h4 => keepBox_b (show Bl + 1 < W0.heap.size by omega) W l o o' h1 h2 h3 h4) (Below.refl _ _) (fun _ => rfl)
    (fun pre W => FndW b0 b1 b2 b3 b4 b5 tol v0 v1 v2 v3 v4 v5 A n c m w W Bt Bl ∧ FndL #[.int .i64 b0, .int .i64 b1, .int .i64 b2, .int .i64 b3, .int .i64 b4, .int .i64 b5, .slice A n c, .int .i64 (m : Int), .int .i64 tol] Bl (findL ⟨b0, b1, b2, b3, b4, b5⟩ f n tol ⟨v0, v1, v2, v3, v4, v5⟩ pre) W)
    (fun _ _ _ => False)
    (OwnFrom.and (fndW_own b0 b1 b2 b3 b4 b5 tol v0 v1 v2 v3 v4 v5 A n c m w Bt Bl _ (by omega)) ((fndL_own #[.int .i64 b0, .int .i64 b1, .int .i64 b2, .int .i64 b3, .int .i64 b4, .int .i64 b5, .slice A n c, .int .i64 (m : Int), .int .i64 tol] Bl (findL ⟨b0, b1, b2, b3, b4, b5⟩ f n tol ⟨v0, v1, v2, v3, v4, v5⟩)).from _))
    (fun _ _ _ _ _ hs _ _ => hs)
    ⟨hS.1, hS.2⟩
    (fun p a' W => ∃ Bx, (W.cell? ⟨Bx, 0, none⟩ = some (.int .i64 ((p.1.1 : Int) + 1)) ∧ W.cell? ⟨Bx, 1, none⟩ = some (.int .i64 (p.1.2 : Int))) ∧ Bx < W.heap.size ∧ a' = { tmps := #[.agg #[.int .i64 b0, .int .i64 b1, .int .i64 b2, .int .i64 b3, .int .i64 b4, .int .i64 b5, .slice A n c, .int .i64 (m : Int), .int .i64 tol], .agg #[.int .i64 v0, .int .i64 v1, .int .i64 v2, .int .i64 v3, .int .i64 v4, .int .i64 v5], .pointer (some ⟨w.heap.size, 0, none⟩), .pointer (some ⟨w.heap.size + 1, 0, none⟩), .slice none 0 0, .int .i64 0, .pointer (some ⟨Bt, 0, none⟩), .int .i64 0, .pointer (some ⟨Bl, 0, none⟩), .pointer (some ⟨Bx, 0, none⟩), undef, undef, .tuple #[.agg #[.int .i64 (v0 * 12), .int .i64 (v1 * 12), .int .i64 (v2 * 12), .int .i64 (v3 * 12), .int .i64 (v4 * 12), .int .i64 (v5 * 12)], .int .i64 0], .agg #[.int .i64 v0, .int .i64 v1, .int .i64 v2, .int .i64 v3, .int .i64 v4, .int .i64 v5], .tuple #[.agg #[.int .i64 (v0 * 12), .int .i64 (v1 * 12), .int .i64 (v2 * 12), .int .i64 (v3 * 12), .int .i64 (v4 * 12), .int .i64 (v5 * 12)], .int .i64 0], .agg #[.int .i64 (v0 * 12), .int .i64 (v1 * 12), .int .i64 (v2 * 12), .int .i64 (v3 * 12), .int .i64 (v4 * 12), .int .i64 (v5 * 12)], .int .i64 0, .int .i64 0, .bool false, .bool false, .agg #[.int .i64 b0, .int .i64 b1, .int .i64 b2, .int .i64 b3, .int .i64 b4, .int .i64 b5, .slice A n c, .int .i64 (m : Int), .int .i64 tol], .bool true, .bool false, .bool false, .agg #[.int .i64 b0, .int .i64 b1, .int .i64 b2, .int .i64 b3, .int .i64 b4, .int .i64 b5, .slice A n c, .int .i64 (m : Int), .int .i64 tol], .func (.func 82) #[] #[.pointer (some ⟨Bl + 1, 0, none⟩)], .agg #[.int .i64 ((p.1.1 : Int) + 1), .int .i64 (p.1.2 : Int)], undef, undef, undef, undef, undef, undef, undef, undef, undef, undef, undef, undef, undef, undef, undef, undef, undef, undef, undef, undef, undef], defers := [] })
    (fun p a' _ X Y row hs hg hr => by obtain ⟨Bx, ⟨h2, h3⟩, h5, h4⟩ := hs; exact ⟨Bx, ⟨cell_kept h2 hg (fun r e => (hr r e).2), cell_kept h3 hg (fun r e => (hr r e).2)⟩, Nat.lt_of_lt_of_le h5 hg.size, h4⟩)
    ?assign ?body ?done ?stop
  case assign =>
    rintro l pre p W K ⟨hW, hF⟩ hK
    have HW := Lib.hid hW; have HF := Lib.hid hF
    clear hW hF hown hS
    unfold encB
    gi_wp2
    have hl := (Array.getElem?_eq_some_iff.1 HF.out.2).1
    exact hK _ _ ((KeepsOthers.alloc _ _).from _) (Below.keepBox ((Gr.refl W).alloc _) hl) ⟨HW.out.below (Below.mono ((Gr.refl W).alloc _) (by omega)), by
      obtain ⟨⟨v, h1, h2, h3⟩, h4⟩ := HF.out
      exact ⟨⟨v, h1.alloc _, h2.alloc _, h3⟩, (Below.heap_alloc _ _ _ hl).trans h4⟩⟩ ⟨W.heap.size, ⟨by simp [go_sem], by simp [go_sem]⟩, by simp, rfl⟩
  case body =>
    rintro l pre ⟨⟨i, j⟩, hi, hj⟩ a' W hl ⟨r, hr⟩ ⟨hW, hF⟩ ⟨Bx, ⟨c0, c1⟩, hbx, rfl⟩ hlt'
    dsimp only at hi hj c0 c1 ⊢
    have HW := Lib.hid hW; have HF := Lib.hid hF
    obtain ⟨k0, k1, k2, k3, k4, k5, k6, k7, k8⟩ := hW.horn
    have a0 := hW.a0; have a1 := hW.a1; have a2 := hW.a2; have a3 := hW.a3; have a4 := hW.a4; have a5 := hW.a5
    have hWg := hW.gr
    have hll : Bl + 1 < W.heap.size := (Array.getElem?_eq_some_iff.1 hF.2).1
    have i1 : w.heap.size < W.heap.size := by omega
    have i2 : Bt < W.heap.size := by omega
    have hsnd := fun W' (g : Gr W W') => sound_any b0 b1 b2 b3 b4 b5 m tol A n c (i + 1) j f W' ((HBP.out.keep hWg).keep g) ((HV.out.keep hWg).keep g) HOK.out (by omega) (by omega)
    have HLW := Lib.hid (HL.out.keep hWg)
    rw [show ((i + 1 : Nat) : Int) = (i : Int) + 1 from rfl] at hsnd
    obtain ⟨X, E, hnear, hcase⟩ := near_plays b0 b1 b2 b3 b4 b5 tol v0 v1 v2 v3 v4 v5 n f (i + 1) j HVV.out ht0 ht1
    generalize soundF ⟨b0, b1, b2, b3, b4, b5⟩ f n (i + 1) j 0 = y0 at hsnd hnear
    generalize soundF ⟨b0, b1, b2, b3, b4, b5⟩ f n (i + 1) j 1 = y1 at hsnd hnear
    generalize soundF ⟨b0, b1, b2, b3, b4, b5⟩ f n (i + 1) j 2 = y2 at hsnd hnear
    generalize soundF ⟨b0, b1, b2, b3, b4, b5⟩ f n (i + 1) j 3 = y3 at hsnd hnear
    generalize soundF ⟨b0, b1, b2, b3, b4, b5⟩ f n (i + 1) j 4 = y4 at hsnd hnear
    generalize soundF ⟨b0, b1, b2, b3, b4, b5⟩ f n (i + 1) j 5 = y5 at hsnd hnear
    have HLEN : Hid ((findL ⟨b0, b1, b2, b3, b4, b5⟩ f n tol ⟨v0, v1, v2, v3, v4, v5⟩ pre).length ≤ 256) := Lib.hid (by have h1 : (findL ⟨b0, b1, b2, b3, b4, b5⟩ f n tol ⟨v0, v1, v2, v3, v4, v5⟩ pre).length ≤ pre.length := List.length_filter_le _ _; have h2 := Nat.mul_le_mul (show m ≤ 16 by omega) hQ16; omega)
    have HN := Lib.hid hnear; have HSD := Lib.hid hsnd; have HCS := Lib.hid hcase
    clear hnear hsnd hcase hW hF hWg hr hlt' hown hS
    have HR : Hid (∀ K : Act → World → Prop, ∀ Q' : Exit → Act → World → Prop, True) := Lib.hid (fun _ _ => trivial)
    clear HR
    gi_wp2_with fail
    refine Code.wpIn_mono (Q := fun e a' w' => e = .normal ∧ a' = { tmps := #[.agg #[.int .i64 b0, .int .i64 b1, .int .i64 b2, .int .i64 b3, .int .i64 b4, .int .i64 b5, .slice A n c, .int .i64 (m : Int), .int .i64 tol], .agg #[.int .i64 v0, .int .i64 v1, .int .i64 v2, .int .i64 v3, .int .i64 v4, .int .i64 v5], .pointer (some ⟨w.heap.size, 0, none⟩), .pointer (some ⟨w.heap.size + 1, 0, none⟩), .slice none 0 0, .int .i64 0, .pointer (some ⟨Bt, 0, none⟩), .int .i64 0, .pointer (some ⟨Bl, 0, none⟩), .pointer (some ⟨Bx, 0, none⟩), .int .i64 X, .int .i64 E, .tuple #[.agg #[.int .i64 (v0 * 12), .int .i64 (v1 * 12), .int .i64 (v2 * 12), .int .i64 (v3 * 12), .int .i64 (v4 * 12), .int .i64 (v5 * 12)], .int .i64 0], .agg #[.int .i64 v0, .int .i64 v1, .int .i64 v2, .int .i64 v3, .int .i64 v4, .int .i64 v5], .tuple #[.agg #[.int .i64 (v0 * 12), .int .i64 (v1 * 12), .int .i64 (v2 * 12), .int .i64 (v3 * 12), .int .i64 (v4 * 12), .int .i64 (v5 * 12)], .int .i64 0], .agg #[.int .i64 (v0 * 12), .int .i64 (v1 * 12), .int .i64 (v2 * 12), .int .i64 (v3 * 12), .int .i64 (v4 * 12), .int .i64 (v5 * 12)], .int .i64 0, .int .i64 0, .bool false, .bool false, .agg #[.int .i64 b0, .int .i64 b1, .int .i64 b2, .int .i64 b3, .int .i64 b4, .int .i64 b5, .slice A n c, .int .i64 (m : Int), .int .i64 tol], .bool true, .bool false, .bool false, .agg #[.int .i64 b0, .int .i64 b1, .int .i64 b2, .int .i64 b3, .int .i64 b4, .int .i64 b5, .slice A n c, .int .i64 (m : Int), .int .i64 tol], .func (.func 82) #[] #[.pointer (some ⟨Bl + 1, 0, none⟩)], .agg #[.int .i64 ((i : Int) + 1), .int .i64 (j : Int)], .tuple #[.int .i64 X, .int .i64 E], .agg #[.int .i64 (v0 * 12), .int .i64 (v1 * 12), .int .i64 (v2 * 12), .int .i64 (v3 * 12), .int .i64 (v4 * 12), .int .i64 (v5 * 12)], .agg #[.int .i64 b0, .int .i64 b1, .int .i64 b2, .int .i64 b3, .int .i64 b4, .int .i64 b5, .slice A n c, .int .i64 (m : Int), .int .i64 tol], .agg #[.int .i64 ((i : Int) + 1), .int .i64 (j : Int)], .agg #[.int .i64 y0, .int .i64 y1, .int .i64 y2, .int .i64 y3, .int .i64 y4, .int .i64 y5], .pointer (some ⟨w.heap.size, 8, none⟩), .int .i64 tol, .tuple #[.int .i64 X, .int .i64 E], .int .i64 X, .int .i64 E, undef, undef, undef, undef, undef, undef, undef, undef, undef, undef, undef], defers := [] } ∧ Gr W w') ?rest ?region
    case region =>
      have keep : ∀ x y : World, (Gr W x ∧ x.cell? ⟨Bt, 0, none⟩ = some (.int .i64 (v0 * 12)) ∧ x.cell? ⟨Bt, 1, none⟩ = some (.int .i64 (v1 * 12)) ∧ x.cell? ⟨Bt, 2, none⟩ = some (.int .i64 (v2 * 12)) ∧ x.cell? ⟨Bt, 3, none⟩ = some (.int .i64 (v3 * 12)) ∧ x.cell? ⟨Bt, 4, none⟩ = some (.int .i64 (v4 * 12)) ∧ x.cell? ⟨Bt, 5, none⟩ = some (.int .i64 (v5 * 12)) ∧ x.cell? ⟨w.heap.size, 0, none⟩ = some (.int .i64 b0) ∧ x.cell? ⟨w.heap.size, 1, none⟩ = some (.int .i64 b1) ∧ x.cell? ⟨w.heap.size, 2, none⟩ = some (.int .i64 b2) ∧ x.cell? ⟨w.heap.size, 3, none⟩ = some (.int .i64 b3) ∧ x.cell? ⟨w.heap.size, 4, none⟩ = some (.int .i64 b4) ∧ x.cell? ⟨w.heap.size, 5, none⟩ = some (.int .i64 b5) ∧ x.cell? ⟨w.heap.size, 6, none⟩ = some (.slice A n c) ∧ x.cell? ⟨w.heap.size, 7, none⟩ = some (.int .i64 (m : Int)) ∧ x.cell? ⟨w.heap.size, 8, none⟩ = some (.int .i64 tol) ∧ x.cell? ⟨Bx, 0, none⟩ = some (.int .i64 ((i : Int) + 1)) ∧ x.cell? ⟨Bx, 1, none⟩ = some (.int .i64 (j : Int))) → Gr x y → (fun x : World => Gr W x ∧ x.cell? ⟨Bt, 0, none⟩ = some (.int .i64 (v0 * 12)) ∧ x.cell? ⟨Bt, 1, none⟩ = some (.int .i64 (v1 * 12)) ∧ x.cell? ⟨Bt, 2, none⟩ = some (.int .i64 (v2 * 12)) ∧ x.cell? ⟨Bt, 3, none⟩ = some (.int .i64 (v3 * 12)) ∧ x.cell? ⟨Bt, 4, none⟩ = some (.int .i64 (v4 * 12)) ∧ x.cell? ⟨Bt, 5, none⟩ = some (.int .i64 (v5 * 12)) ∧ x.cell? ⟨w.heap.size, 0, none⟩ = some (.int .i64 b0) ∧ x.cell? ⟨w.heap.size, 1, none⟩ = some (.int .i64 b1) ∧ x.cell? ⟨w.heap.size, 2, none⟩ = some (.int .i64 b2) ∧ x.cell? ⟨w.heap.size, 3, none⟩ = some (.int .i64 b3) ∧ x.cell? ⟨w.heap.size, 4, none⟩ = some (.int .i64 b4) ∧ x.cell? ⟨w.heap.size, 5, none⟩ = some (.int .i64 b5) ∧ x.cell? ⟨w.heap.size, 6, none⟩ = some (.slice A n c) ∧ x.cell? ⟨w.heap.size, 7, none⟩ = some (.int .i64 (m : Int)) ∧ x.cell? ⟨w.heap.size, 8, none⟩ = some (.int .i64 tol) ∧ x.cell? ⟨Bx, 0, none⟩ = some (.int .i64 ((i : Int) + 1)) ∧ x.cell? ⟨Bx, 1, none⟩ = some (.int .i64 (j : Int))) y := by
        rintro x y ⟨g, q0, q1, q2, q3, q4, q5, p0, p1, p2, p3, p4, p5, p6, p7, p8, z0, z1⟩ h
        have hx := g.size
        have k1 : ∀ o, y.cell? ⟨Bt, o, none⟩ = x.cell? ⟨Bt, o, none⟩ := fun o => Below.cell (p := ⟨Bt, o, none⟩) h (show Bt < x.heap.size by omega)
        have k2 : ∀ o, y.cell? ⟨w.heap.size, o, none⟩ = x.cell? ⟨w.heap.size, o, none⟩ := fun o => Below.cell (p := ⟨w.heap.size, o, none⟩) h (show w.heap.size < x.heap.size by omega)
        have k3 : ∀ o, y.cell? ⟨Bx, o, none⟩ = x.cell? ⟨Bx, o, none⟩ := fun o => Below.cell (p := ⟨Bx, o, none⟩) h (show Bx < x.heap.size by omega)
        exact ⟨g.trans h, (k1 _).trans q0, (k1 _).trans q1, (k1 _).trans q2, (k1 _).trans q3, (k1 _).trans q4, (k1 _).trans q5, (k2 _).trans p0, (k2 _).trans p1, (k2 _).trans p2, (k2 _).trans p3, (k2 _).trans p4, (k2 _).trans p5, (k2 _).trans p6, (k2 _).trans p7, (k2 _).trans p8, (k3 _).trans z0, (k3 _).trans z1⟩
      refine region_round_drew (S := fun x : World => Gr W x ∧ x.cell? ⟨Bt, 0, none⟩ = some (.int .i64 (v0 * 12)) ∧ x.cell? ⟨Bt, 1, none⟩ = some (.int .i64 (v1 * 12)) ∧ x.cell? ⟨Bt, 2, none⟩ = some (.int .i64 (v2 * 12)) ∧ x.cell? ⟨Bt, 3, none⟩ = some (.int .i64 (v3 * 12)) ∧ x.cell? ⟨Bt, 4, none⟩ = some (.int .i64 (v4 * 12)) ∧ x.cell? ⟨Bt, 5, none⟩ = some (.int .i64 (v5 * 12)) ∧ x.cell? ⟨w.heap.size, 0, none⟩ = some (.int .i64 b0) ∧ x.cell? ⟨w.heap.size, 1, none⟩ = some (.int .i64 b1) ∧ x.cell? ⟨w.heap.size, 2, none⟩ = some (.int .i64 b2) ∧ x.cell? ⟨w.heap.size, 3, none⟩ = some (.int .i64 b3) ∧ x.cell? ⟨w.heap.size, 4, none⟩ = some (.int .i64 b4) ∧ x.cell? ⟨w.heap.size, 5, none⟩ = some (.int .i64 b5) ∧ x.cell? ⟨w.heap.size, 6, none⟩ = some (.slice A n c) ∧ x.cell? ⟨w.heap.size, 7, none⟩ = some (.int .i64 (m : Int)) ∧ x.cell? ⟨w.heap.size, 8, none⟩ = some (.int .i64 tol) ∧ x.cell? ⟨Bx, 0, none⟩ = some (.int .i64 ((i : Int) + 1)) ∧ x.cell? ⟨Bx, 1, none⟩ = some (.int .i64 (j : Int))) (by kernel_rfl) (by kernel_rfl) (by rintro ⟨_, _, h, _⟩; cases h) (keep W W.drew ⟨Below.refl _ _, a0, a1, a2, a3, a4, a5, k0, k1, k2, k3, k4, k5, k6, k7, k8, c0, c1⟩ ((Gr.refl W).drew)) (fun hHeld => ?_)
      refine wpAnyH_take (i := 0) (oi := _) (v := .agg #[.int .i64 (v0 * 12), .int .i64 (v1 * 12), .int .i64 (v2 * 12), .int .i64 (v3 * 12), .int .i64 (v4 * 12), .int .i64 (v5 * 12)]) rfl (by kernel_rfl) (by kernel_rfl) (by kernel_rfl) (fun _ _ _ h => by cases h.1) (Or.inl ⟨by rfl, ?_⟩) hHeld ?_
      · clear hHeld keep; intro x hSw; obtain ⟨-, q0, q1, q2, q3, q4, q5, p0, p1, p2, p3, p4, p5, p6, p7, p8, z0, z1⟩ := hSw; go_simp
      try simp only [Act.put, List.setIfInBounds_toArray, List.set_cons_zero, List.set_cons_succ]
      refine wpAnyH_take (i := 1) (oi := _) (v := .agg #[.int .i64 b0, .int .i64 b1, .int .i64 b2, .int .i64 b3, .int .i64 b4, .int .i64 b5, .slice A n c, .int .i64 (m : Int), .int .i64 tol]) rfl (by kernel_rfl) (by kernel_rfl) (by kernel_rfl) (fun _ _ _ h => by cases h.1) (Or.inl ⟨by rfl, ?_⟩) hHeld ?_
      · clear hHeld keep; intro x hSw; obtain ⟨-, q0, q1, q2, q3, q4, q5, p0, p1, p2, p3, p4, p5, p6, p7, p8, z0, z1⟩ := hSw; go_simp
      try simp only [Act.put, List.setIfInBounds_toArray, List.set_cons_zero, List.set_cons_succ]
      refine wpAnyH_take (i := 2) (oi := _) (v := .agg #[.int .i64 ((i : Int) + 1), .int .i64 (j : Int)]) rfl (by kernel_rfl) (by kernel_rfl) (by kernel_rfl) (fun _ _ _ h => by cases h.1) (Or.inl ⟨by rfl, ?_⟩) hHeld ?_
      · clear hHeld keep; intro x hSw; obtain ⟨-, q0, q1, q2, q3, q4, q5, p0, p1, p2, p3, p4, p5, p6, p7, p8, z0, z1⟩ := hSw; go_simp
      try simp only [Act.put, List.setIfInBounds_toArray, List.set_cons_zero, List.set_cons_succ]
      refine wpAnyH_take (i := 4) (oi := _) (v := .pointer (some ⟨w.heap.size, 8, none⟩)) rfl (by kernel_rfl) (by kernel_rfl) (by kernel_rfl) (fun _ _ _ h => by cases h.1) (Or.inl ⟨by rfl, ?_⟩) hHeld ?_
      · clear hHeld keep; intro x hSw; obtain ⟨-, q0, q1, q2, q3, q4, q5, p0, p1, p2, p3, p4, p5, p6, p7, p8, z0, z1⟩ := hSw; go_simp
      try simp only [Act.put, List.setIfInBounds_toArray, List.set_cons_zero, List.set_cons_succ]
      refine wpAnyH_take (i := 5) (oi := _) (v := .int .i64 tol) rfl (by kernel_rfl) (by kernel_rfl) (by kernel_rfl) (fun _ _ _ h => by cases h.1) (Or.inl ⟨by rfl, ?_⟩) hHeld ?_
      · clear hHeld keep; intro x hSw; obtain ⟨-, q0, q1, q2, q3, q4, q5, p0, p1, p2, p3, p4, p5, p6, p7, p8, z0, z1⟩ := hSw; go_simp
      try simp only [Act.put, List.setIfInBounds_toArray, List.set_cons_zero, List.set_cons_succ]
      refine wpAnyH_ready (rs := [3]) (by kernel_rfl) (by simp) (AllReadyH.cons (o := _) rfl (fun K hK => ?_) AllReadyH.nil)
      go_simp
      go_at_call 58
      refine (HSD.out _ hHeld.1).mono ?_
      rintro e w' ⟨rfl, hb⟩
      refine hK.out _ _ (keep _ _ hHeld hb) (fun hHeld => ?_)
      clear hK K
      try simp only [Act.put, List.setIfInBounds_toArray, List.set_cons_zero, List.set_cons_succ]
      refine wpAnyH_ready (rs := [6]) (by kernel_rfl) (by simp) (AllReadyH.cons (o := _) rfl (fun K hK => ?_) AllReadyH.nil)
      go_simp
      go_at_call 25
      refine (HN.out _ (HLW.out.keep hHeld.1)).mono ?_
      rintro e w' ⟨rfl, hb⟩
      refine hK.out _ _ (keep _ _ hHeld hb) (fun hHeld => ?_)
      clear hK K
      try simp only [Act.put, List.setIfInBounds_toArray, List.set_cons_zero, List.set_cons_succ]
      refine wpAnyH_take (i := 7) (oi := _) (v := .tuple #[.int .i64 X, .int .i64 E]) rfl (by kernel_rfl) (by kernel_rfl) (by kernel_rfl) (fun _ _ _ h => by cases h.1) (Or.inl ⟨by rfl, ?_⟩) hHeld ?_
      · clear hHeld keep; intro x hSw; obtain ⟨-, q0, q1, q2, q3, q4, q5, p0, p1, p2, p3, p4, p5, p6, p7, p8, z0, z1⟩ := hSw; go_simp
      try simp only [Act.put, List.setIfInBounds_toArray, List.set_cons_zero, List.set_cons_succ]
      refine wpAnyH_take (i := 8) (oi := _) (v := .int .i64 X) rfl (by kernel_rfl) (by kernel_rfl) (by kernel_rfl) (fun _ _ _ h => by cases h.1) (Or.inl ⟨by rfl, ?_⟩) hHeld ?_
      · clear hHeld keep; intro x hSw; obtain ⟨-, q0, q1, q2, q3, q4, q5, p0, p1, p2, p3, p4, p5, p6, p7, p8, z0, z1⟩ := hSw; go_simp
      try simp only [Act.put, List.setIfInBounds_toArray, List.set_cons_zero, List.set_cons_succ]
      refine wpAnyH_take (i := 9) (oi := _) (v := .int .i64 E) rfl (by kernel_rfl) (by kernel_rfl) (by kernel_rfl) (fun _ _ _ h => by cases h.1) (Or.inl ⟨by rfl, ?_⟩) hHeld ?_
      · clear hHeld keep; intro x hSw; obtain ⟨-, q0, q1, q2, q3, q4, q5, p0, p1, p2, p3, p4, p5, p6, p7, p8, z0, z1⟩ := hSw; go_simp
      try simp only [Act.put, List.setIfInBounds_toArray, List.set_cons_zero, List.set_cons_succ]
      refine wpAnyH_take (i := 10) (oi := _) (v := .int .i64 X) rfl (by kernel_rfl) (by kernel_rfl) (by kernel_rfl) (fun _ _ _ h => by cases h.1) (Or.inl ⟨by rfl, ?_⟩) hHeld ?_
      · clear hHeld keep; intro x hSw; obtain ⟨-, q0, q1, q2, q3, q4, q5, p0, p1, p2, p3, p4, p5, p6, p7, p8, z0, z1⟩ := hSw; go_simp
      try simp only [Act.put, List.setIfInBounds_toArray, List.set_cons_zero, List.set_cons_succ]
      refine wpAnyH_take (i := 11) (oi := _) (v := .int .i64 E) rfl (by kernel_rfl) (by kernel_rfl) (by kernel_rfl) (fun _ _ _ h => by cases h.1) (Or.inl ⟨by rfl, ?_⟩) hHeld ?_
      · clear hHeld keep; intro x hSw; obtain ⟨-, q0, q1, q2, q3, q4, q5, p0, p1, p2, p3, p4, p5, p6, p7, p8, z0, z1⟩ := hSw; go_simp
      try simp only [Act.put, List.setIfInBounds_toArray, List.set_cons_zero, List.set_cons_succ]
      exact wpAnyH_done (by kernel_rfl) ⟨rfl, rfl, hHeld.1⟩ _
    case rest =>
      rintro e a' w' ⟨rfl, rfl, hg⟩
      have hsz' := hg.size
      have HG := Lib.hid hg
      have HW' := Lib.hid (HW.out.below (Below.mono hg (by omega)))
      have hF' := fndL_keep HF.out hg
      have HF' := Lib.hid hF'
      obtain ⟨⟨v, hv, hrow, hnil⟩, hh⟩ := hF'
      have HH := Lib.hid hh; have HNIL := Lib.hid hnil; have HV' := Lib.hid hv; have HROW := Lib.hid hrow
      have hl2 : Bl + 1 < w'.heap.size := (Array.getElem?_eq_some_iff.1 hh).1
      have hc := hv.cell
      have x0 := (Below.cell (p := ⟨Bx, 0, none⟩) hg hbx).trans c0
      have x1 := (Below.cell (p := ⟨Bx, 1, none⟩) hg hbx).trans c1
      have hbx' : Bx < w'.heap.size := by omega
      clear hg hh hnil k0 k1 k2 k3 k4 k5 k6 k7 k8 c0 c1 a0 a1 a2 a3 a4 a5
      rcases HCS.out with ⟨hp, rfl, rfl⟩ | ⟨hp, ⟨rfl, hX⟩ | rfl⟩
      · have HPB := Lib.hid hp
        clear hp
        gi_wp2_with (gi_at_builtin; refine wpListIn_append_own _ rfl _ _ 35 rfl Bl 28 i0 (.agg #[.int .i64 0, .int .i64 0]) 2 16 Tryd.underlying35 hinfo hz0 hz1 hz2 rfl (by decide) _ _ _ rfl (HROW.out.alloc _) ⟨w'.heap.size, 0, none⟩ 1 1 [.int .i64 ((i : Int) + 1), .int .i64 (j : Int)] rfl rfl (cell_two_new _ _ _ _) (by simp [Value.oneCell']) (by have := HLEN.out; simp only [maxLen]; omega) (by have := HLEN.out; omega) (by simp; omega) ?_; intro v' w1 hown' hgrow _; obtain ⟨g', cap', rfl⟩ := ownsRow_succ hown'; obtain ⟨hv1, hv2, hr2, hk2, hb2⟩ := HV'.out.appended (by decide) HROW.out (by omega) (Nat.le_refl _) hown' hgrow; have hc1 := hv1.cell; have hf1 := hv1.frozen; have HO := Lib.hid (fnd_horn (v' := .slice (some ⟨g', 0, none⟩) ((findL ⟨b0, b1, b2, b3, b4, b5⟩ f n tol ⟨v0, v1, v2, v3, v4, v5⟩ pre).length + 1) cap') HH.out HROW.out hgrow))
        have hkb : KeepBox (Bl + 1) W (w1.setCell ⟨Bl, 0, none⟩ (.slice (some ⟨g', 0, none⟩) ((findL ⟨b0, b1, b2, b3, b4, b5⟩ f n tol ⟨v0, v1, v2, v3, v4, v5⟩ pre).length + 1) cap')) := keepBox_t (Below.keepBox HG.out (by omega)) (fun o => by simp only [World.cell?]; rw [HO.out])
        have e1 := (HG.out.keeps (Bl + 2)).trans (hk2.from _)
        have e2 := HW'.out.below hb2
        have e3 := HO.out.trans HH.out
        have r2 : blowCells (findL ⟨b0, b1, b2, b3, b4, b5⟩ f n tol ⟨v0, v1, v2, v3, v4, v5⟩ (pre ++ [⟨(i, j), hi, hj⟩])) = blowCells (findL ⟨b0, b1, b2, b3, b4, b5⟩ f n tol ⟨v0, v1, v2, v3, v4, v5⟩ pre) ++ [.int .i64 ((i : Int) + 1), .int .i64 (j : Int)] := by rw [findL_yes (p := ⟨(i, j), hi, hj⟩) (pre := pre) HPB.out, blowCells_snoc]
        have r3 : (findL ⟨b0, b1, b2, b3, b4, b5⟩ f n tol ⟨v0, v1, v2, v3, v4, v5⟩ (pre ++ [⟨(i, j), hi, hj⟩])).length = (findL ⟨b0, b1, b2, b3, b4, b5⟩ f n tol ⟨v0, v1, v2, v3, v4, v5⟩ pre).length + 1 := by rw [findL_yes (p := ⟨(i, j), hi, hj⟩) (pre := pre) HPB.out, List.length_append]; rfl
        have r4 : ¬ findL ⟨b0, b1, b2, b3, b4, b5⟩ f n tol ⟨v0, v1, v2, v3, v4, v5⟩ (pre ++ [⟨(i, j), hi, hj⟩]) = [] := by rw [findL_yes (p := ⟨(i, j), hi, hj⟩) (pre := pre) HPB.out]; exact List.append_ne_nil_of_right_ne_nil _ (by simp)
        refine ⟨e1, hkb, e2, ⟨_, hv2, ?_, ?_⟩, e3⟩
        · rw [r2, r3]; exact hr2
        · exact ⟨(fun h => by simp at h), fun h => (r4 h).elim⟩
      · have HPB := Lib.hid hp
        clear hp
        gi_wp2
        refine ⟨HG.out.keeps _, ?_, ?_, ?_⟩
        · exact Below.keepBox HG.out (by omega)
        · exact HW'.out
        · have r1 := findL_no (p := ⟨(i, j), hi, hj⟩) (pre := pre) HPB.out
          rw [r1]; exact HF'.out
      · have HPB := Lib.hid hp
        clear hp
        gi_wp2
        refine ⟨HG.out.keeps _, ?_, ?_, ?_⟩
        · exact Below.keepBox HG.out (by omega)
        · exact HW'.out
        · have r1 := findL_no (p := ⟨(i, j), hi, hj⟩) (pre := pre) HPB.out
          rw [r1]; exact HF'.out
  case done =>
    rintro D xs W hD rfl ⟨hW, hF⟩ hK
    obtain ⟨⟨v, hv, hrow, hnil⟩, hh⟩ := hF
    have hc := hv.cell
    have HW := Lib.hid hW; have HDD := Lib.hid hD; have HNIL := Lib.hid hnil; have HK := Lib.hid hK; have HROW := Lib.hid hrow
    clear hW hD hnil hh hK hv hrow hS hown
    gi_wp2
    refine ⟨by simp, .inl ⟨_, _, rfl, run_takeDeferred HK.out, ?_⟩⟩
    have hDD := HDD.out
    have hWs := HW.out.gr.size
    have hbl : w.heap.size ≤ Bl := by omega
    have hrow2 : (W.putObj D (.deferred none)).ownsRow w.heap.size 28 2 v (findL ⟨b0, b1, b2, b3, b4, b5⟩ f n tol ⟨v0, v1, v2, v3, v4, v5⟩ (blowsTo m Q m)).length (blowCells (findL ⟨b0, b1, b2, b3, b4, b5⟩ f n tol ⟨v0, v1, v2, v3, v4, v5⟩ (blowsTo m Q m))) := by
      have h := ownsRow_putObj HROW.out (.deferred none) HK.out rfl
      refine ⟨h.1, h.2.imp id fun ⟨g, cap, cur, e1, e2, e3⟩ => ⟨g, cap, cur, e1, by omega, e3⟩⟩
    exact ⟨_, by simp [results, Tryd.f17, go_sem], v, rfl, hrow2, HNIL.out, Below.trans HW.out.gr (belowK_b (w := w) (Nat.le_refl _) W D _ _ (by omega) HK.out rfl rfl)⟩
  case stop =>
    rintro D cc pre W _ _ h _
    exact h.elim
end Go.Proofs.YtbaopniofhbjdaaDoor
