/-
  The law VoiceLine.
-/
import Derived.Test.YtiogfohjepobkaaDoorLinP
import Derived.Test.YtiogfohjepobkaaDoorVHd
namespace Go.Proofs.YtiogfohjepobkaaDoor
open Go.RowKit

set_option maxRecDepth 100000 in
set_option maxHeartbeats 16000000 in
theorem vline_big (l0 l1 l2 l3 l4 l5 h0 h1 h2 h3 h4 h5 st br : Int) (at_ y : Int) (A : Option Addr) (n c : Nat) (f : Nat → Nat → Int) (w : World) (hP : Primes w) (hL : Logs w) (_hA : RowsAt w 8 A n f) (_hcap : n ≤ c) (_ha : 0 ≤ at_ ∧ at_ ≤ 255) (_hy : 0 ≤ y ∧ y ≤ 65535) (hbig : 40 < n) :
    Calls Tryd.prog 8 #[.agg #[.int .i64 l0, .int .i64 l1, .int .i64 l2, .int .i64 l3, .int .i64 l4, .int .i64 l5, .int .i64 h0, .int .i64 h1, .int .i64 h2, .int .i64 h3, .int .i64 h4, .int .i64 h5, .int .i64 st, .int .i64 br], .slice A n c, .int .u8 at_, .int .u16 y] w fun e w' => e = .returned (.bool true) ∧ Gr w w' := by
  have HP := Lib.hid hP; have HL := Lib.hid hL
  clear hP hL
  go_enter Tryd.func8, Tryd.ntmps8
  go_wp2_with fail
  (go_at_call 10; with_reducible refine (vhead_any _ (HP.out.keep (by repeat (first | with_reducible exact Gr.refl _ | with_reducible refine Gr.alloc ?_ _ | with_reducible refine Gr.drew ?_ | with_reducible refine Gr.trans ?_ (by assumption) | with_reducible refine Gr.setCell ?_ (by (try simp); (try omega)) _))) (HL.out.keep (by repeat (first | with_reducible exact Gr.refl _ | with_reducible refine Gr.alloc ?_ _ | with_reducible refine Gr.drew ?_ | with_reducible refine Gr.trans ?_ (by assumption) | with_reducible refine Gr.setCell ?_ (by (try simp); (try omega)) _)))).mono ?_; rintro e w' ⟨rfl, hb⟩; have hz := hb.le; obtain ⟨hc, hf⟩ := hb.cells; have hn := hb.cellsN; (try simp only [World.size_alloc] at hc hf hz hn); (try simp only [World.size_setCell] at hc hf hz hn); (try simp only [World.size_drew] at hc hf hz hn))
  go_wp2_with fail
  go_ret
  exact ⟨rfl, (by repeat (first | with_reducible exact Gr.refl _ | with_reducible refine Gr.alloc ?_ _ | with_reducible refine Gr.drew ?_ | with_reducible refine Gr.trans ?_ (by assumption) | with_reducible refine Gr.setCell ?_ (by (try simp); (try omega)) _))⟩

set_option maxRecDepth 100000 in
set_option maxHeartbeats 16000000 in
theorem vline_bad (l0 l1 l2 l3 l4 l5 h0 h1 h2 h3 h4 h5 st br : Int) (at_ y : Int) (A : Option Addr) (n c : Nat) (f : Nat → Nat → Int) (w : World) (hP : Primes w) (hL : Logs w) (_hA : RowsAt w 8 A n f) (_hcap : n ≤ c) (_ha : 0 ≤ at_ ∧ at_ ≤ 255) (_hy : 0 ≤ y ∧ y ≤ 65535) (hn40 : n ≤ 40) (hB : ∀ W, Gr w W → Calls Tryd.prog 20 #[.agg #[.int .i64 l0, .int .i64 l1, .int .i64 l2, .int .i64 l3, .int .i64 l4, .int .i64 l5, .int .i64 h0, .int .i64 h1, .int .i64 h2, .int .i64 h3, .int .i64 h4, .int .i64 h5, .int .i64 st, .int .i64 br], .slice A n c] W  fun e w' => e = .returned (.tuple #[.int .i64 0, .int .i64 1]) ∧ Gr W w') :
    Calls Tryd.prog 8 #[.agg #[.int .i64 l0, .int .i64 l1, .int .i64 l2, .int .i64 l3, .int .i64 l4, .int .i64 l5, .int .i64 h0, .int .i64 h1, .int .i64 h2, .int .i64 h3, .int .i64 h4, .int .i64 h5, .int .i64 st, .int .i64 br], .slice A n c, .int .u8 at_, .int .u16 y] w fun e w' => e = .returned (.bool true) ∧ Gr w w' := by
  have HP := Lib.hid hP; have HL := Lib.hid hL; have HB := Lib.hid hB
  clear hP hL hB
  go_enter Tryd.func8, Tryd.ntmps8
  go_wp2_with fail
  (go_at_call 10; with_reducible refine (vhead_any _ (HP.out.keep (by repeat (first | with_reducible exact Gr.refl _ | with_reducible refine Gr.alloc ?_ _ | with_reducible refine Gr.drew ?_ | with_reducible refine Gr.trans ?_ (by assumption) | with_reducible refine Gr.setCell ?_ (by (try simp); (try omega)) _))) (HL.out.keep (by repeat (first | with_reducible exact Gr.refl _ | with_reducible refine Gr.alloc ?_ _ | with_reducible refine Gr.drew ?_ | with_reducible refine Gr.trans ?_ (by assumption) | with_reducible refine Gr.setCell ?_ (by (try simp); (try omega)) _)))).mono ?_; rintro e w' ⟨rfl, hb⟩; have hz := hb.le; obtain ⟨hc, hf⟩ := hb.cells; have hn := hb.cellsN; (try simp only [World.size_alloc] at hc hf hz hn); (try simp only [World.size_setCell] at hc hf hz hn); (try simp only [World.size_drew] at hc hf hz hn))
  go_wp2_with fail
  (go_at_call 20; with_reducible refine (HB.out _ (by repeat (first | with_reducible exact Gr.refl _ | with_reducible refine Gr.alloc ?_ _ | with_reducible refine Gr.drew ?_ | with_reducible refine Gr.trans ?_ (by assumption) | with_reducible refine Gr.setCell ?_ (by (try simp); (try omega)) _))).mono ?_; rintro e w' ⟨rfl, hb⟩; have hz := hb.le; obtain ⟨hc, hf⟩ := hb.cells; have hn := hb.cellsN; (try simp only [World.size_alloc] at hc hf hz hn); (try simp only [World.size_setCell] at hc hf hz hn); (try simp only [World.size_drew] at hc hf hz hn))
  go_wp2_with fail
  go_ret
  exact ⟨rfl, (by repeat (first | with_reducible exact Gr.refl _ | with_reducible refine Gr.alloc ?_ _ | with_reducible refine Gr.drew ?_ | with_reducible refine Gr.trans ?_ (by assumption) | with_reducible refine Gr.setCell ?_ (by (try simp); (try omega)) _))⟩

theorem rows8_prefix {W : World} {A : Option Addr} {n k : Nat} {f : Nat → Nat → Int} (h : RowsAt W 8 A n f) (hk : k ≤ n) : RowsAt W 8 A k f := fun h0 => by
  obtain ⟨b, off, e, hb, hc⟩ := h (by omega)
  exact ⟨b, off, e, hb, fun i hi => hc i (by omega)⟩

set_option maxRecDepth 100000 in
set_option maxHeartbeats 16000000 in
theorem vline_good (l0 l1 l2 l3 l4 l5 h0 h1 h2 h3 h4 h5 st br : Int) (at_ y : Int) (A : Option Addr) (n c : Nat) (f : Nat → Nat → Int) (w : World) (hP : Primes w) (hL : Logs w) (hA : RowsAt w 8 A n f) (hcap : n ≤ c) (ha : 0 ≤ at_ ∧ at_ ≤ 255) (hy : 0 ≤ y ∧ y ≤ 65535) (hn40 : n ≤ 40) (hok : voiceOk ⟨l0, l1, l2, l3, l4, l5⟩ ⟨h0, h1, h2, h3, h4, h5⟩ st br = true) (hgood : lineGood f n = true) :
    Calls Tryd.prog 8 #[.agg #[.int .i64 l0, .int .i64 l1, .int .i64 l2, .int .i64 l3, .int .i64 l4, .int .i64 l5, .int .i64 h0, .int .i64 h1, .int .i64 h2, .int .i64 h3, .int .i64 h4, .int .i64 h5, .int .i64 st, .int .i64 br], .slice A n c, .int .u8 at_, .int .u16 y] w fun e w' => e = .returned (.bool true) ∧ Gr w w' := by
  obtain ⟨ha0, ha1⟩ := ha
  obtain ⟨hy0, hy1⟩ := hy
  have hB := fun W (h : Gr w W) => line_good l0 l1 l2 l3 l4 l5 h0 h1 h2 h3 h4 h5 st br A n c f W (hP.keep h) (hL.keep h) (hA.keep h) hok (by omega) hgood
  obtain ⟨k, hk⟩ : ∃ k : Nat, at_.tmod ((n : Int) + 1) = (k : Int) := ⟨(at_.tmod ((n : Int) + 1)).toNat, by have := Int.tmod_nonneg ((n : Int) + 1) ha0; omega⟩
  have hkn : k ≤ n := by have := Int.tmod_lt_of_pos at_ (show 0 < (n : Int) + 1 by omega); omega
  have hkw : IntKind.i64.wrap (k : Int) = (k : Int) := IntWalk.i64_in _ ⟨by omega, by omega⟩
  have hn1 : IntKind.i64.wrap ((n : Int) + 1) = (n : Int) + 1 := IntWalk.i64_in _ ⟨by omega, by omega⟩
  have hk0 : (0 : Int) ≤ (k : Int) := by omega
  have hkc : (k : Int) ≤ (c : Int) := by omega
  have hkc' : k ≤ c := by omega
  have HP := Lib.hid hP; have HL := Lib.hid hL; have HA := Lib.hid hA; have HB := Lib.hid hB; have HOK := Lib.hid hok; have HGD := Lib.hid hgood
  clear hP hL hA hB hok hgood
  go_enter Tryd.func8, Tryd.ntmps8
  go_wp2_with fail
  (go_at_call 10; with_reducible refine (vhead_any _ (HP.out.keep (by repeat (first | with_reducible exact Gr.refl _ | with_reducible refine Gr.alloc ?_ _ | with_reducible refine Gr.drew ?_ | with_reducible refine Gr.trans ?_ (by assumption) | with_reducible refine Gr.setCell ?_ (by (try simp); (try omega)) _))) (HL.out.keep (by repeat (first | with_reducible exact Gr.refl _ | with_reducible refine Gr.alloc ?_ _ | with_reducible refine Gr.drew ?_ | with_reducible refine Gr.trans ?_ (by assumption) | with_reducible refine Gr.setCell ?_ (by (try simp); (try omega)) _)))).mono ?_; rintro e w' ⟨rfl, hb⟩; have hz := hb.le; obtain ⟨hc, hf⟩ := hb.cells; have hn := hb.cellsN; (try simp only [World.size_alloc] at hc hf hz hn); (try simp only [World.size_setCell] at hc hf hz hn); (try simp only [World.size_drew] at hc hf hz hn))
  go_wp2_with fail
  go_at_call 20
  with_reducible refine (HB.out _ (by repeat (first | with_reducible exact Gr.refl _ | with_reducible refine Gr.alloc ?_ _ | with_reducible refine Gr.drew ?_ | with_reducible refine Gr.trans ?_ (by assumption) | with_reducible refine Gr.setCell ?_ (by (try simp); (try omega)) _))).mono ?_
  rintro e wB ⟨r, rfl, hr, hgr⟩
  have hz := hgr.le
  obtain ⟨hc, hf⟩ := hgr.cells
  have hnn := hgr.cellsN
  (try simp only [World.size_alloc] at hc hf hz hnn); (try simp only [World.size_setCell] at hc hf hz hnn); (try simp only [World.size_drew] at hc hf hz hnn)
  obtain ⟨hr0, hr1⟩ := lineR_range hr
  have HR := Lib.hid hr
  clear hr
  have d1 : decide (r < -1) = false := decide_eq_false (by omega)
  have d2 : decide ((n : Int) ≤ r) = false := decide_eq_false (by omega)
  have hx4 : (wB).cell? ⟨w.heap.size, 0, none⟩ = some (.int .i64 l0) ∧ (wB).cell? ⟨w.heap.size, 1, none⟩ = some (.int .i64 l1) ∧ (wB).cell? ⟨w.heap.size, 2, none⟩ = some (.int .i64 l2) ∧ (wB).cell? ⟨w.heap.size, 3, none⟩ = some (.int .i64 l3) ∧ (wB).cell? ⟨w.heap.size, 4, none⟩ = some (.int .i64 l4) ∧ (wB).cell? ⟨w.heap.size, 5, none⟩ = some (.int .i64 l5) ∧ (wB).cell? ⟨w.heap.size, 6, none⟩ = some (.int .i64 h0) ∧ (wB).cell? ⟨w.heap.size, 7, none⟩ = some (.int .i64 h1) ∧ (wB).cell? ⟨w.heap.size, 8, none⟩ = some (.int .i64 h2) ∧ (wB).cell? ⟨w.heap.size, 9, none⟩ = some (.int .i64 h3) ∧ (wB).cell? ⟨w.heap.size, 10, none⟩ = some (.int .i64 h4) ∧ (wB).cell? ⟨w.heap.size, 11, none⟩ = some (.int .i64 h5) ∧ (wB).cell? ⟨w.heap.size, 12, none⟩ = some (.int .i64 st) ∧ (wB).cell? ⟨w.heap.size, 13, none⟩ = some (.int .i64 br) := ⟨by simp [go_sem, *], by simp [go_sem, *], by simp [go_sem, *], by simp [go_sem, *], by simp [go_sem, *], by simp [go_sem, *], by simp [go_sem, *], by simp [go_sem, *], by simp [go_sem, *], by simp [go_sem, *], by simp [go_sem, *], by simp [go_sem, *], by simp [go_sem, *], by simp [go_sem, *]⟩
  have hg4 : Gr w wB := (by repeat (first | with_reducible exact Gr.refl _ | with_reducible refine Gr.alloc ?_ _ | with_reducible refine Gr.drew ?_ | with_reducible refine Gr.trans ?_ (by assumption) | with_reducible refine Gr.setCell ?_ (by (try simp); (try omega)) _))
  have hs4 : w.heap.size < wB.heap.size := by (try simp at hz); omega
  go_upto_region 10 with fail
  obtain ⟨wp, rfl⟩ : ∃ wp : World, wp = wB := ⟨_, rfl⟩
  have HG4 := Lib.hid hg4
  clear hg4 hgr hc hf hz hnn
  have hk2 : ∀ W, Gr w W → Calls Tryd.prog 20 #[.agg #[.int .i64 l0, .int .i64 l1, .int .i64 l2, .int .i64 l3, .int .i64 l4, .int .i64 l5, .int .i64 h0, .int .i64 h1, .int .i64 h2, .int .i64 h3, .int .i64 h4, .int .i64 h5, .int .i64 st, .int .i64 br], .slice A k c] W  fun e w' => e = .returned (.tuple #[.int .i64 (if 0 ≤ r ∧ r < (k : Int) then r else -1), .int .i64 0]) ∧ Gr W w' := fun W h =>
    (line_good l0 l1 l2 l3 l4 l5 h0 h1 h2 h3 h4 h5 st br A k c f W (HP.out.keep h) (HL.out.keep h) (rows8_prefix (HA.out.keep h) hkn) HOK.out (by omega) (lineGood_prefix HGD.out hkn)).mono fun e w' ⟨r', e1, e2, e3⟩ => by
      rw [lineR_one e2 (lineR_prefix HR.out hkn)] at e1
      exact ⟨e1, e3⟩
  have hk3 : ∀ W, Gr w W → ∀ A' c', RowsAt W 8 A' n (latF f y n) → (∀ j, j + 1 = n → f j 1 + y ≤ 100000) → Calls Tryd.prog 20 #[.agg #[.int .i64 l0, .int .i64 l1, .int .i64 l2, .int .i64 l3, .int .i64 l4, .int .i64 l5, .int .i64 h0, .int .i64 h1, .int .i64 h2, .int .i64 h3, .int .i64 h4, .int .i64 h5, .int .i64 st, .int .i64 br], .slice A' n c'] W  fun e w' => e = .returned (.tuple #[.int .i64 r, .int .i64 0]) ∧ Gr W w' := fun W h A' c' hA' hu =>
    (line_good l0 l1 l2 l3 l4 l5 h0 h1 h2 h3 h4 h5 st br A' n c' (latF f y n) W (HP.out.keep h) (HL.out.keep h) hA' HOK.out (by omega) (lineGood_lat HGD.out hy0 hu)).mono fun e w' ⟨r', e1, e2, e3⟩ => by
      rw [lineR_one e2 (lineR_lat HR.out)] at e1
      exact ⟨e1, e3⟩
  have hk4 : ∀ W, Gr w W → ∀ A' c', RowsAt W 8 A' n (latF f y n) → ∀ j, j + 1 = n → 100000 < f j 1 + y → Calls Tryd.prog 20 #[.agg #[.int .i64 l0, .int .i64 l1, .int .i64 l2, .int .i64 l3, .int .i64 l4, .int .i64 l5, .int .i64 h0, .int .i64 h1, .int .i64 h2, .int .i64 h3, .int .i64 h4, .int .i64 h5, .int .i64 st, .int .i64 br], .slice A' n c'] W  fun e w' => e = .returned (.tuple #[.int .i64 0, .int .i64 1]) ∧ Gr W w' := fun W h A' c' hA' j hj hu =>
    line_bad3 l0 l1 l2 l3 l4 l5 h0 h1 h2 h3 h4 h5 st br A' n c' (latF f y n) W (HP.out.keep h) hA' HOK.out (by omega) (lineGood_late hj hu)
  have hlt : ∀ W, Gr w W → Calls Tryd.prog 29 #[.slice A n c, .int .i64 y] W (LaterP f y n W) := fun W h =>
    later_ok A n c f y W (HA.out.keep h) (by omega) (fun j hj => by have := line_bounds HGD.out j hj; omega) ⟨hy0, hy1⟩
  have H3 := Lib.hid hk3; have H4 := Lib.hid hk4; have HLT := Lib.hid hlt
  clear hk3 hk4 hlt
  obtain ⟨x0, x1, x2, x3, x4, x5, x6, x7, x8, x9, x10, x11, x12, x13⟩ := hx4
  have hthree : (0 ≤ r ∧ r < (k : Int)) ∨ (0 ≤ r ∧ ¬ r < (k : Int)) ∨ (¬ 0 ≤ r) := by omega
  rcases hthree with ⟨q1, q2⟩ | ⟨q1, q2⟩ | q1
  · rw [if_pos ⟨q1, q2⟩] at hk2
    have d3 : decide (0 ≤ r) = true := decide_eq_true q1
    have d4 : decide (r < (k : Int)) = true := decide_eq_true q2
    have H2 := Lib.hid hk2
    clear hk2
    refine wp_region_held_drew (S := fun wx => (∀ b o, (⟨min (b + 1) wp.heap.size, 0, none⟩ : Addr) = ⟨b + 1, 0, none⟩ → wx.cell? ⟨b, o, none⟩ = wp.cell? ⟨b, o, none⟩) ∧ Gr wp wx) (by kernel_rfl) (held_drew wp) (fun hHeld => ?_)
    refine take_at (i := 0) (oi := _) (d := some 55) (v := ?_) rfl rfl (by kernel_rfl) (by kernel_rfl) (by kernel_rfl) (fun _ _ _ h => h) (Or.inl ⟨by rfl, ?_⟩) hHeld ?_
    rotate_left
    next => (intro w hSw; (try dsimp only at hSw); go_simp; try with_reducible rfl)
    try simp only [Act.put, List.setIfInBounds_toArray, List.set_cons_zero, List.set_cons_succ]
    refine take_at (i := 1) (oi := _) (d := some 56) (v := ?_) rfl rfl (by kernel_rfl) (by kernel_rfl) (by kernel_rfl) (fun _ _ _ h => h) (Or.inl ⟨by rfl, ?_⟩) hHeld ?_
    rotate_left
    next => (intro w hSw; (try dsimp only at hSw); go_simp; try with_reducible rfl)
    try simp only [Act.put, List.setIfInBounds_toArray, List.set_cons_zero, List.set_cons_succ]
    refine take_at (i := 2) (oi := _) (d := some 57) (v := ?_) rfl rfl (by kernel_rfl) (by kernel_rfl) (by kernel_rfl) (fun _ _ _ h => h) (Or.inl ⟨by rfl, ?_⟩) hHeld ?_
    rotate_left
    next => (intro w hSw; (try dsimp only at hSw); go_simp; try with_reducible rfl)
    try simp only [Act.put, List.setIfInBounds_toArray, List.set_cons_zero, List.set_cons_succ]
    refine take_at (i := 3) (oi := _) (d := some 58) (v := ?_) rfl rfl (by kernel_rfl) (by kernel_rfl) (by kernel_rfl) (fun _ _ _ h => h) (Or.inl ⟨by rfl, ?_⟩) hHeld ?_
    rotate_left
    next => (intro w hSw; (try dsimp only at hSw); go_simp; try with_reducible rfl)
    try simp only [Act.put, List.setIfInBounds_toArray, List.set_cons_zero, List.set_cons_succ]
    refine wpAnyH_ready (rs := [4]) (by kernel_rfl) (by simp) (AllReadyH.cons (o := _) rfl (fun K hK => ?_) AllReadyH.nil)
    go_simp
    go_at_call 20
    refine (H2.out _ (HG4.out.trans hHeld.2)).mono ?_
    rintro e w' ⟨rfl, hb⟩
    refine hK.out _ _ (held_call hHeld hb) (fun hHeld => ?_)
    clear hK K hb
    try simp only [Act.put, List.setIfInBounds_toArray, List.set_cons_zero, List.set_cons_succ]
    refine take_at (i := 5) (oi := _) (d := some 54) (v := ?_) rfl rfl (by kernel_rfl) (by kernel_rfl) (by kernel_rfl) (fun _ _ _ h => h) (Or.inl ⟨by rfl, ?_⟩) hHeld ?_
    rotate_left
    next => (intro w hSw; (try dsimp only at hSw); go_simp; try with_reducible rfl)
    try simp only [Act.put, List.setIfInBounds_toArray, List.set_cons_zero, List.set_cons_succ]
    refine take_at (i := 6) (oi := _) (d := some 60) (v := ?_) rfl rfl (by kernel_rfl) (by kernel_rfl) (by kernel_rfl) (fun _ _ _ h => h) (Or.inl ⟨by rfl, ?_⟩) hHeld ?_
    rotate_left
    next => (intro w hSw; (try dsimp only at hSw); go_simp; try with_reducible rfl)
    try simp only [Act.put, List.setIfInBounds_toArray, List.set_cons_zero, List.set_cons_succ]
    refine take_at (i := 7) (oi := _) (d := some 61) (v := ?_) rfl rfl (by kernel_rfl) (by kernel_rfl) (by kernel_rfl) (fun _ _ _ h => h) (Or.inl ⟨by rfl, ?_⟩) hHeld ?_
    rotate_left
    next => (intro w hSw; (try dsimp only at hSw); go_simp; try with_reducible rfl)
    try simp only [Act.put, List.setIfInBounds_toArray, List.set_cons_zero, List.set_cons_succ]
    refine take_at (i := 8) (oi := _) (d := some 13) (v := ?_) rfl rfl (by kernel_rfl) (by kernel_rfl) (by kernel_rfl) (fun _ _ _ h => h) (Or.inl ⟨by rfl, ?_⟩) hHeld ?_
    rotate_left
    next => (intro w hSw; (try dsimp only at hSw); go_simp; try with_reducible rfl)
    try simp only [Act.put, List.setIfInBounds_toArray, List.set_cons_zero, List.set_cons_succ]
    refine take_at (i := 9) (oi := _) (d := some 14) (v := ?_) rfl rfl (by kernel_rfl) (by kernel_rfl) (by kernel_rfl) (fun _ _ _ h => h) (Or.inl ⟨by rfl, ?_⟩) hHeld ?_
    rotate_left
    next => (intro w hSw; (try dsimp only at hSw); go_simp; try with_reducible rfl)
    try simp only [Act.put, List.setIfInBounds_toArray, List.set_cons_zero, List.set_cons_succ]
    refine wpAnyH_done (by kernel_rfl) ?_ _
    obtain ⟨w7, rfl⟩ : ∃ x : World, x = w' := ⟨_, rfl⟩
    have hg7 : Gr w w7 := HG4.out.trans hHeld.2
    have hx7 : w7.cell? ⟨w.heap.size, 0, none⟩ = some (.int .i64 l0) ∧ w7.cell? ⟨w.heap.size, 1, none⟩ = some (.int .i64 l1) ∧ w7.cell? ⟨w.heap.size, 2, none⟩ = some (.int .i64 l2) ∧ w7.cell? ⟨w.heap.size, 3, none⟩ = some (.int .i64 l3) ∧ w7.cell? ⟨w.heap.size, 4, none⟩ = some (.int .i64 l4) ∧ w7.cell? ⟨w.heap.size, 5, none⟩ = some (.int .i64 l5) ∧ w7.cell? ⟨w.heap.size, 6, none⟩ = some (.int .i64 h0) ∧ w7.cell? ⟨w.heap.size, 7, none⟩ = some (.int .i64 h1) ∧ w7.cell? ⟨w.heap.size, 8, none⟩ = some (.int .i64 h2) ∧ w7.cell? ⟨w.heap.size, 9, none⟩ = some (.int .i64 h3) ∧ w7.cell? ⟨w.heap.size, 10, none⟩ = some (.int .i64 h4) ∧ w7.cell? ⟨w.heap.size, 11, none⟩ = some (.int .i64 h5) ∧ w7.cell? ⟨w.heap.size, 12, none⟩ = some (.int .i64 st) ∧ w7.cell? ⟨w.heap.size, 13, none⟩ = some (.int .i64 br) := ⟨(Below.cell (p := ⟨w.heap.size, 0, none⟩) hHeld.2 hs4).trans x0, (Below.cell (p := ⟨w.heap.size, 1, none⟩) hHeld.2 hs4).trans x1, (Below.cell (p := ⟨w.heap.size, 2, none⟩) hHeld.2 hs4).trans x2, (Below.cell (p := ⟨w.heap.size, 3, none⟩) hHeld.2 hs4).trans x3, (Below.cell (p := ⟨w.heap.size, 4, none⟩) hHeld.2 hs4).trans x4, (Below.cell (p := ⟨w.heap.size, 5, none⟩) hHeld.2 hs4).trans x5, (Below.cell (p := ⟨w.heap.size, 6, none⟩) hHeld.2 hs4).trans x6, (Below.cell (p := ⟨w.heap.size, 7, none⟩) hHeld.2 hs4).trans x7, (Below.cell (p := ⟨w.heap.size, 8, none⟩) hHeld.2 hs4).trans x8, (Below.cell (p := ⟨w.heap.size, 9, none⟩) hHeld.2 hs4).trans x9, (Below.cell (p := ⟨w.heap.size, 10, none⟩) hHeld.2 hs4).trans x10, (Below.cell (p := ⟨w.heap.size, 11, none⟩) hHeld.2 hs4).trans x11, (Below.cell (p := ⟨w.heap.size, 12, none⟩) hHeld.2 hs4).trans x12, (Below.cell (p := ⟨w.heap.size, 13, none⟩) hHeld.2 hs4).trans x13⟩
    have hs7 : w.heap.size < w7.heap.size := Nat.lt_of_lt_of_le hs4 hHeld.2.size
    have HG7 := Lib.hid hg7
    clear hHeld hg7 x0 x1 x2 x3 x4 x5 x6 x7 x8 x9 x10 x11 x12 x13
    obtain ⟨x0, x1, x2, x3, x4, x5, x6, x7, x8, x9, x10, x11, x12, x13⟩ := hx7
    go_wp2_with fail
    go_at_call 29
    with_reducible refine (HLT.out _ (HG7.out.trans (by repeat (first | with_reducible exact Gr.refl _ | with_reducible refine Gr.alloc ?_ _ | with_reducible refine Gr.drew ?_ | with_reducible refine Gr.trans ?_ (by assumption) | with_reducible refine Gr.setCell ?_ (by (try simp); (try omega)) _)))).mono ?_
    rintro e w8 ⟨A8, c8, rfl, hA8, hg8⟩
    have hz8 := hg8.le
    obtain ⟨hc8, hf8⟩ := hg8.cells
    have HG8 := Lib.hid (HG7.out.trans hg8)
    have HA8 := Lib.hid hA8
    clear hA8
    by_cases hn0 : n = 0
    · have d5 : decide (0 < (n : Int)) = false := decide_eq_false (by omega)
      have d5' : decide (0 < n) = false := decide_eq_false (by omega)
      have hu : ∀ j, j + 1 = n → f j 1 + y ≤ 100000 := fun j hj => by omega
      clear hn0
      go_wp2_with fail
      go_at_call 20
      with_reducible refine (H3.out _ (HG8.out.trans (by repeat (first | with_reducible exact Gr.refl _ | with_reducible refine Gr.alloc ?_ _ | with_reducible refine Gr.drew ?_ | with_reducible refine Gr.trans ?_ (by assumption) | with_reducible refine Gr.setCell ?_ (by (try simp); (try omega)) _))) A8 c8 (HA8.out.keep (by repeat (first | with_reducible exact Gr.refl _ | with_reducible refine Gr.alloc ?_ _ | with_reducible refine Gr.drew ?_ | with_reducible refine Gr.trans ?_ (by assumption) | with_reducible refine Gr.setCell ?_ (by (try simp); (try omega)) _))) hu).mono ?_
      rintro e w9 ⟨rfl, hb9⟩
      go_wp2_with fail
      go_ret
      exact ⟨rfl, HG8.out.trans (by repeat (first | with_reducible exact Gr.refl _ | with_reducible refine Gr.alloc ?_ _ | with_reducible refine Gr.drew ?_ | with_reducible refine Gr.trans ?_ (by assumption) | with_reducible refine Gr.setCell ?_ (by (try simp); (try omega)) _))⟩
    · obtain ⟨m', hm'⟩ : ∃ m' : Nat, n = m' + 1 := ⟨n - 1, by omega⟩
      have d5 : decide (0 < (n : Int)) = true := decide_eq_true (by omega)
      have d5' : decide (0 < n) = true := decide_eq_true (by omega)
      have hwn : IntKind.i64.wrap ((n : Int) - 1) = (m' : Int) := (IntWalk.i64_in _ ⟨by omega, by omega⟩).trans (by omega)
      have hm0 : (0 : Int) ≤ (m' : Int) := by omega
      have hmn : (m' : Int) < (n : Int) := by omega
      obtain ⟨b8, o8, rfl, hb8, z0, z1, -⟩ := HA8.out.eight (show m' < n by omega)
      rw [latF1 f y (show m' < n by omega)] at z1
      clear z0 hn0
      by_cases hu' : f m' 1 + y ≤ 100000
      · have hu : ∀ j, j + 1 = n → f j 1 + y ≤ 100000 := fun j hj => by obtain rfl : j = m' := by omega
                                                                        exact hu'
        have d6 : decide (100000 < f m' 1 + y) = false := decide_eq_false (by omega)
        clear hu' hm'
        go_wp2_with fail
        go_at_call 20
        with_reducible refine (H3.out _ (HG8.out.trans (by repeat (first | with_reducible exact Gr.refl _ | with_reducible refine Gr.alloc ?_ _ | with_reducible refine Gr.drew ?_ | with_reducible refine Gr.trans ?_ (by assumption) | with_reducible refine Gr.setCell ?_ (by (try simp); (try omega)) _))) _ _ (HA8.out.keep (by repeat (first | with_reducible exact Gr.refl _ | with_reducible refine Gr.alloc ?_ _ | with_reducible refine Gr.drew ?_ | with_reducible refine Gr.trans ?_ (by assumption) | with_reducible refine Gr.setCell ?_ (by (try simp); (try omega)) _))) hu).mono ?_
        rintro e w9 ⟨rfl, hb9⟩
        have z2 := (Below.cell (p := ⟨b8, o8 + m' * 8 + 1, none⟩) hb9 hb8).trans z1
        go_wp2_with fail
        go_ret
        exact ⟨rfl, HG8.out.trans (by repeat (first | with_reducible exact Gr.refl _ | with_reducible refine Gr.alloc ?_ _ | with_reducible refine Gr.drew ?_ | with_reducible refine Gr.trans ?_ (by assumption) | with_reducible refine Gr.setCell ?_ (by (try simp); (try omega)) _))⟩
      · have hu : 100000 < f m' 1 + y := by omega
        have d6 : decide (100000 < f m' 1 + y) = true := decide_eq_true hu
        have H5 := Lib.hid (fun W h A' c' hA' => H4.out W h A' c' hA' m' hm'.symm hu)
        clear hu' hm' hu
        go_wp2_with fail
        go_at_call 20
        with_reducible refine (H5.out _ (HG8.out.trans (by repeat (first | with_reducible exact Gr.refl _ | with_reducible refine Gr.alloc ?_ _ | with_reducible refine Gr.drew ?_ | with_reducible refine Gr.trans ?_ (by assumption) | with_reducible refine Gr.setCell ?_ (by (try simp); (try omega)) _))) _ _ (HA8.out.keep (by repeat (first | with_reducible exact Gr.refl _ | with_reducible refine Gr.alloc ?_ _ | with_reducible refine Gr.drew ?_ | with_reducible refine Gr.trans ?_ (by assumption) | with_reducible refine Gr.setCell ?_ (by (try simp); (try omega)) _)))).mono ?_
        rintro e w9 ⟨rfl, hb9⟩
        have z2 := (Below.cell (p := ⟨b8, o8 + m' * 8 + 1, none⟩) hb9 hb8).trans z1
        go_wp2_with fail
        go_ret
        exact ⟨rfl, HG8.out.trans (by repeat (first | with_reducible exact Gr.refl _ | with_reducible refine Gr.alloc ?_ _ | with_reducible refine Gr.drew ?_ | with_reducible refine Gr.trans ?_ (by assumption) | with_reducible refine Gr.setCell ?_ (by (try simp); (try omega)) _))⟩
  · rw [if_neg (fun h => q2 h.2)] at hk2
    have d3 : decide (0 ≤ r) = true := decide_eq_true q1
    have d4 : decide (r < (k : Int)) = false := decide_eq_false q2
    have H2 := Lib.hid hk2
    clear hk2
    refine wp_region_held_drew (S := fun wx => (∀ b o, (⟨min (b + 1) wp.heap.size, 0, none⟩ : Addr) = ⟨b + 1, 0, none⟩ → wx.cell? ⟨b, o, none⟩ = wp.cell? ⟨b, o, none⟩) ∧ Gr wp wx) (by kernel_rfl) (held_drew wp) (fun hHeld => ?_)
    refine take_at (i := 0) (oi := _) (d := some 55) (v := ?_) rfl rfl (by kernel_rfl) (by kernel_rfl) (by kernel_rfl) (fun _ _ _ h => h) (Or.inl ⟨by rfl, ?_⟩) hHeld ?_
    rotate_left
    next => (intro w hSw; (try dsimp only at hSw); go_simp; try with_reducible rfl)
    try simp only [Act.put, List.setIfInBounds_toArray, List.set_cons_zero, List.set_cons_succ]
    refine take_at (i := 1) (oi := _) (d := some 56) (v := ?_) rfl rfl (by kernel_rfl) (by kernel_rfl) (by kernel_rfl) (fun _ _ _ h => h) (Or.inl ⟨by rfl, ?_⟩) hHeld ?_
    rotate_left
    next => (intro w hSw; (try dsimp only at hSw); go_simp; try with_reducible rfl)
    try simp only [Act.put, List.setIfInBounds_toArray, List.set_cons_zero, List.set_cons_succ]
    refine take_at (i := 2) (oi := _) (d := some 57) (v := ?_) rfl rfl (by kernel_rfl) (by kernel_rfl) (by kernel_rfl) (fun _ _ _ h => h) (Or.inl ⟨by rfl, ?_⟩) hHeld ?_
    rotate_left
    next => (intro w hSw; (try dsimp only at hSw); go_simp; try with_reducible rfl)
    try simp only [Act.put, List.setIfInBounds_toArray, List.set_cons_zero, List.set_cons_succ]
    refine take_at (i := 3) (oi := _) (d := some 58) (v := ?_) rfl rfl (by kernel_rfl) (by kernel_rfl) (by kernel_rfl) (fun _ _ _ h => h) (Or.inl ⟨by rfl, ?_⟩) hHeld ?_
    rotate_left
    next => (intro w hSw; (try dsimp only at hSw); go_simp; try with_reducible rfl)
    try simp only [Act.put, List.setIfInBounds_toArray, List.set_cons_zero, List.set_cons_succ]
    refine wpAnyH_ready (rs := [4]) (by kernel_rfl) (by simp) (AllReadyH.cons (o := _) rfl (fun K hK => ?_) AllReadyH.nil)
    go_simp
    go_at_call 20
    refine (H2.out _ (HG4.out.trans hHeld.2)).mono ?_
    rintro e w' ⟨rfl, hb⟩
    refine hK.out _ _ (held_call hHeld hb) (fun hHeld => ?_)
    clear hK K hb
    try simp only [Act.put, List.setIfInBounds_toArray, List.set_cons_zero, List.set_cons_succ]
    refine take_at (i := 5) (oi := _) (d := some 54) (v := ?_) rfl rfl (by kernel_rfl) (by kernel_rfl) (by kernel_rfl) (fun _ _ _ h => h) (Or.inl ⟨by rfl, ?_⟩) hHeld ?_
    rotate_left
    next => (intro w hSw; (try dsimp only at hSw); go_simp; try with_reducible rfl)
    try simp only [Act.put, List.setIfInBounds_toArray, List.set_cons_zero, List.set_cons_succ]
    refine take_at (i := 6) (oi := _) (d := some 60) (v := ?_) rfl rfl (by kernel_rfl) (by kernel_rfl) (by kernel_rfl) (fun _ _ _ h => h) (Or.inl ⟨by rfl, ?_⟩) hHeld ?_
    rotate_left
    next => (intro w hSw; (try dsimp only at hSw); go_simp; try with_reducible rfl)
    try simp only [Act.put, List.setIfInBounds_toArray, List.set_cons_zero, List.set_cons_succ]
    refine take_at (i := 7) (oi := _) (d := some 61) (v := ?_) rfl rfl (by kernel_rfl) (by kernel_rfl) (by kernel_rfl) (fun _ _ _ h => h) (Or.inl ⟨by rfl, ?_⟩) hHeld ?_
    rotate_left
    next => (intro w hSw; (try dsimp only at hSw); go_simp; try with_reducible rfl)
    try simp only [Act.put, List.setIfInBounds_toArray, List.set_cons_zero, List.set_cons_succ]
    refine take_at (i := 8) (oi := _) (d := some 13) (v := ?_) rfl rfl (by kernel_rfl) (by kernel_rfl) (by kernel_rfl) (fun _ _ _ h => h) (Or.inl ⟨by rfl, ?_⟩) hHeld ?_
    rotate_left
    next => (intro w hSw; (try dsimp only at hSw); go_simp; try with_reducible rfl)
    try simp only [Act.put, List.setIfInBounds_toArray, List.set_cons_zero, List.set_cons_succ]
    refine take_at (i := 9) (oi := _) (d := some 14) (v := ?_) rfl rfl (by kernel_rfl) (by kernel_rfl) (by kernel_rfl) (fun _ _ _ h => h) (Or.inl ⟨by rfl, ?_⟩) hHeld ?_
    rotate_left
    next => (intro w hSw; (try dsimp only at hSw); go_simp; try with_reducible rfl)
    try simp only [Act.put, List.setIfInBounds_toArray, List.set_cons_zero, List.set_cons_succ]
    refine wpAnyH_done (by kernel_rfl) ?_ _
    obtain ⟨w7, rfl⟩ : ∃ x : World, x = w' := ⟨_, rfl⟩
    have hg7 : Gr w w7 := HG4.out.trans hHeld.2
    have hx7 : w7.cell? ⟨w.heap.size, 0, none⟩ = some (.int .i64 l0) ∧ w7.cell? ⟨w.heap.size, 1, none⟩ = some (.int .i64 l1) ∧ w7.cell? ⟨w.heap.size, 2, none⟩ = some (.int .i64 l2) ∧ w7.cell? ⟨w.heap.size, 3, none⟩ = some (.int .i64 l3) ∧ w7.cell? ⟨w.heap.size, 4, none⟩ = some (.int .i64 l4) ∧ w7.cell? ⟨w.heap.size, 5, none⟩ = some (.int .i64 l5) ∧ w7.cell? ⟨w.heap.size, 6, none⟩ = some (.int .i64 h0) ∧ w7.cell? ⟨w.heap.size, 7, none⟩ = some (.int .i64 h1) ∧ w7.cell? ⟨w.heap.size, 8, none⟩ = some (.int .i64 h2) ∧ w7.cell? ⟨w.heap.size, 9, none⟩ = some (.int .i64 h3) ∧ w7.cell? ⟨w.heap.size, 10, none⟩ = some (.int .i64 h4) ∧ w7.cell? ⟨w.heap.size, 11, none⟩ = some (.int .i64 h5) ∧ w7.cell? ⟨w.heap.size, 12, none⟩ = some (.int .i64 st) ∧ w7.cell? ⟨w.heap.size, 13, none⟩ = some (.int .i64 br) := ⟨(Below.cell (p := ⟨w.heap.size, 0, none⟩) hHeld.2 hs4).trans x0, (Below.cell (p := ⟨w.heap.size, 1, none⟩) hHeld.2 hs4).trans x1, (Below.cell (p := ⟨w.heap.size, 2, none⟩) hHeld.2 hs4).trans x2, (Below.cell (p := ⟨w.heap.size, 3, none⟩) hHeld.2 hs4).trans x3, (Below.cell (p := ⟨w.heap.size, 4, none⟩) hHeld.2 hs4).trans x4, (Below.cell (p := ⟨w.heap.size, 5, none⟩) hHeld.2 hs4).trans x5, (Below.cell (p := ⟨w.heap.size, 6, none⟩) hHeld.2 hs4).trans x6, (Below.cell (p := ⟨w.heap.size, 7, none⟩) hHeld.2 hs4).trans x7, (Below.cell (p := ⟨w.heap.size, 8, none⟩) hHeld.2 hs4).trans x8, (Below.cell (p := ⟨w.heap.size, 9, none⟩) hHeld.2 hs4).trans x9, (Below.cell (p := ⟨w.heap.size, 10, none⟩) hHeld.2 hs4).trans x10, (Below.cell (p := ⟨w.heap.size, 11, none⟩) hHeld.2 hs4).trans x11, (Below.cell (p := ⟨w.heap.size, 12, none⟩) hHeld.2 hs4).trans x12, (Below.cell (p := ⟨w.heap.size, 13, none⟩) hHeld.2 hs4).trans x13⟩
    have hs7 : w.heap.size < w7.heap.size := Nat.lt_of_lt_of_le hs4 hHeld.2.size
    have HG7 := Lib.hid hg7
    clear hHeld hg7 x0 x1 x2 x3 x4 x5 x6 x7 x8 x9 x10 x11 x12 x13
    obtain ⟨x0, x1, x2, x3, x4, x5, x6, x7, x8, x9, x10, x11, x12, x13⟩ := hx7
    go_wp2_with fail
    go_at_call 29
    with_reducible refine (HLT.out _ (HG7.out.trans (by repeat (first | with_reducible exact Gr.refl _ | with_reducible refine Gr.alloc ?_ _ | with_reducible refine Gr.drew ?_ | with_reducible refine Gr.trans ?_ (by assumption) | with_reducible refine Gr.setCell ?_ (by (try simp); (try omega)) _)))).mono ?_
    rintro e w8 ⟨A8, c8, rfl, hA8, hg8⟩
    have hz8 := hg8.le
    obtain ⟨hc8, hf8⟩ := hg8.cells
    have HG8 := Lib.hid (HG7.out.trans hg8)
    have HA8 := Lib.hid hA8
    clear hA8
    by_cases hn0 : n = 0
    · have d5 : decide (0 < (n : Int)) = false := decide_eq_false (by omega)
      have d5' : decide (0 < n) = false := decide_eq_false (by omega)
      have hu : ∀ j, j + 1 = n → f j 1 + y ≤ 100000 := fun j hj => by omega
      clear hn0
      go_wp2_with fail
      go_at_call 20
      with_reducible refine (H3.out _ (HG8.out.trans (by repeat (first | with_reducible exact Gr.refl _ | with_reducible refine Gr.alloc ?_ _ | with_reducible refine Gr.drew ?_ | with_reducible refine Gr.trans ?_ (by assumption) | with_reducible refine Gr.setCell ?_ (by (try simp); (try omega)) _))) A8 c8 (HA8.out.keep (by repeat (first | with_reducible exact Gr.refl _ | with_reducible refine Gr.alloc ?_ _ | with_reducible refine Gr.drew ?_ | with_reducible refine Gr.trans ?_ (by assumption) | with_reducible refine Gr.setCell ?_ (by (try simp); (try omega)) _))) hu).mono ?_
      rintro e w9 ⟨rfl, hb9⟩
      go_wp2_with fail
      go_ret
      exact ⟨rfl, HG8.out.trans (by repeat (first | with_reducible exact Gr.refl _ | with_reducible refine Gr.alloc ?_ _ | with_reducible refine Gr.drew ?_ | with_reducible refine Gr.trans ?_ (by assumption) | with_reducible refine Gr.setCell ?_ (by (try simp); (try omega)) _))⟩
    · obtain ⟨m', hm'⟩ : ∃ m' : Nat, n = m' + 1 := ⟨n - 1, by omega⟩
      have d5 : decide (0 < (n : Int)) = true := decide_eq_true (by omega)
      have d5' : decide (0 < n) = true := decide_eq_true (by omega)
      have hwn : IntKind.i64.wrap ((n : Int) - 1) = (m' : Int) := (IntWalk.i64_in _ ⟨by omega, by omega⟩).trans (by omega)
      have hm0 : (0 : Int) ≤ (m' : Int) := by omega
      have hmn : (m' : Int) < (n : Int) := by omega
      obtain ⟨b8, o8, rfl, hb8, z0, z1, -⟩ := HA8.out.eight (show m' < n by omega)
      rw [latF1 f y (show m' < n by omega)] at z1
      clear z0 hn0
      by_cases hu' : f m' 1 + y ≤ 100000
      · have hu : ∀ j, j + 1 = n → f j 1 + y ≤ 100000 := fun j hj => by obtain rfl : j = m' := by omega
                                                                        exact hu'
        have d6 : decide (100000 < f m' 1 + y) = false := decide_eq_false (by omega)
        clear hu' hm'
        go_wp2_with fail
        go_at_call 20
        with_reducible refine (H3.out _ (HG8.out.trans (by repeat (first | with_reducible exact Gr.refl _ | with_reducible refine Gr.alloc ?_ _ | with_reducible refine Gr.drew ?_ | with_reducible refine Gr.trans ?_ (by assumption) | with_reducible refine Gr.setCell ?_ (by (try simp); (try omega)) _))) _ _ (HA8.out.keep (by repeat (first | with_reducible exact Gr.refl _ | with_reducible refine Gr.alloc ?_ _ | with_reducible refine Gr.drew ?_ | with_reducible refine Gr.trans ?_ (by assumption) | with_reducible refine Gr.setCell ?_ (by (try simp); (try omega)) _))) hu).mono ?_
        rintro e w9 ⟨rfl, hb9⟩
        have z2 := (Below.cell (p := ⟨b8, o8 + m' * 8 + 1, none⟩) hb9 hb8).trans z1
        go_wp2_with fail
        go_ret
        exact ⟨rfl, HG8.out.trans (by repeat (first | with_reducible exact Gr.refl _ | with_reducible refine Gr.alloc ?_ _ | with_reducible refine Gr.drew ?_ | with_reducible refine Gr.trans ?_ (by assumption) | with_reducible refine Gr.setCell ?_ (by (try simp); (try omega)) _))⟩
      · have hu : 100000 < f m' 1 + y := by omega
        have d6 : decide (100000 < f m' 1 + y) = true := decide_eq_true hu
        have H5 := Lib.hid (fun W h A' c' hA' => H4.out W h A' c' hA' m' hm'.symm hu)
        clear hu' hm' hu
        go_wp2_with fail
        go_at_call 20
        with_reducible refine (H5.out _ (HG8.out.trans (by repeat (first | with_reducible exact Gr.refl _ | with_reducible refine Gr.alloc ?_ _ | with_reducible refine Gr.drew ?_ | with_reducible refine Gr.trans ?_ (by assumption) | with_reducible refine Gr.setCell ?_ (by (try simp); (try omega)) _))) _ _ (HA8.out.keep (by repeat (first | with_reducible exact Gr.refl _ | with_reducible refine Gr.alloc ?_ _ | with_reducible refine Gr.drew ?_ | with_reducible refine Gr.trans ?_ (by assumption) | with_reducible refine Gr.setCell ?_ (by (try simp); (try omega)) _)))).mono ?_
        rintro e w9 ⟨rfl, hb9⟩
        have z2 := (Below.cell (p := ⟨b8, o8 + m' * 8 + 1, none⟩) hb9 hb8).trans z1
        go_wp2_with fail
        go_ret
        exact ⟨rfl, HG8.out.trans (by repeat (first | with_reducible exact Gr.refl _ | with_reducible refine Gr.alloc ?_ _ | with_reducible refine Gr.drew ?_ | with_reducible refine Gr.trans ?_ (by assumption) | with_reducible refine Gr.setCell ?_ (by (try simp); (try omega)) _))⟩
  · rw [if_neg (fun h => q1 h.1)] at hk2
    have d3 : decide (0 ≤ r) = false := decide_eq_false q1
    have H2 := Lib.hid hk2
    clear hk2
    refine wp_region_held_drew (S := fun wx => (∀ b o, (⟨min (b + 1) wp.heap.size, 0, none⟩ : Addr) = ⟨b + 1, 0, none⟩ → wx.cell? ⟨b, o, none⟩ = wp.cell? ⟨b, o, none⟩) ∧ Gr wp wx) (by kernel_rfl) (held_drew wp) (fun hHeld => ?_)
    refine take_at (i := 0) (oi := _) (d := some 55) (v := ?_) rfl rfl (by kernel_rfl) (by kernel_rfl) (by kernel_rfl) (fun _ _ _ h => h) (Or.inl ⟨by rfl, ?_⟩) hHeld ?_
    rotate_left
    next => (intro w hSw; (try dsimp only at hSw); go_simp; try with_reducible rfl)
    try simp only [Act.put, List.setIfInBounds_toArray, List.set_cons_zero, List.set_cons_succ]
    refine take_at (i := 1) (oi := _) (d := some 56) (v := ?_) rfl rfl (by kernel_rfl) (by kernel_rfl) (by kernel_rfl) (fun _ _ _ h => h) (Or.inl ⟨by rfl, ?_⟩) hHeld ?_
    rotate_left
    next => (intro w hSw; (try dsimp only at hSw); go_simp; try with_reducible rfl)
    try simp only [Act.put, List.setIfInBounds_toArray, List.set_cons_zero, List.set_cons_succ]
    refine take_at (i := 2) (oi := _) (d := some 57) (v := ?_) rfl rfl (by kernel_rfl) (by kernel_rfl) (by kernel_rfl) (fun _ _ _ h => h) (Or.inl ⟨by rfl, ?_⟩) hHeld ?_
    rotate_left
    next => (intro w hSw; (try dsimp only at hSw); go_simp; try with_reducible rfl)
    try simp only [Act.put, List.setIfInBounds_toArray, List.set_cons_zero, List.set_cons_succ]
    refine take_at (i := 3) (oi := _) (d := some 58) (v := ?_) rfl rfl (by kernel_rfl) (by kernel_rfl) (by kernel_rfl) (fun _ _ _ h => h) (Or.inl ⟨by rfl, ?_⟩) hHeld ?_
    rotate_left
    next => (intro w hSw; (try dsimp only at hSw); go_simp; try with_reducible rfl)
    try simp only [Act.put, List.setIfInBounds_toArray, List.set_cons_zero, List.set_cons_succ]
    refine wpAnyH_ready (rs := [4]) (by kernel_rfl) (by simp) (AllReadyH.cons (o := _) rfl (fun K hK => ?_) AllReadyH.nil)
    go_simp
    go_at_call 20
    refine (H2.out _ (HG4.out.trans hHeld.2)).mono ?_
    rintro e w' ⟨rfl, hb⟩
    refine hK.out _ _ (held_call hHeld hb) (fun hHeld => ?_)
    clear hK K hb
    try simp only [Act.put, List.setIfInBounds_toArray, List.set_cons_zero, List.set_cons_succ]
    refine take_at (i := 5) (oi := _) (d := some 54) (v := ?_) rfl rfl (by kernel_rfl) (by kernel_rfl) (by kernel_rfl) (fun _ _ _ h => h) (Or.inl ⟨by rfl, ?_⟩) hHeld ?_
    rotate_left
    next => (intro w hSw; (try dsimp only at hSw); go_simp; try with_reducible rfl)
    try simp only [Act.put, List.setIfInBounds_toArray, List.set_cons_zero, List.set_cons_succ]
    refine take_at (i := 6) (oi := _) (d := some 60) (v := ?_) rfl rfl (by kernel_rfl) (by kernel_rfl) (by kernel_rfl) (fun _ _ _ h => h) (Or.inl ⟨by rfl, ?_⟩) hHeld ?_
    rotate_left
    next => (intro w hSw; (try dsimp only at hSw); go_simp; try with_reducible rfl)
    try simp only [Act.put, List.setIfInBounds_toArray, List.set_cons_zero, List.set_cons_succ]
    refine take_at (i := 7) (oi := _) (d := some 61) (v := ?_) rfl rfl (by kernel_rfl) (by kernel_rfl) (by kernel_rfl) (fun _ _ _ h => h) (Or.inl ⟨by rfl, ?_⟩) hHeld ?_
    rotate_left
    next => (intro w hSw; (try dsimp only at hSw); go_simp; try with_reducible rfl)
    try simp only [Act.put, List.setIfInBounds_toArray, List.set_cons_zero, List.set_cons_succ]
    refine take_at (i := 8) (oi := _) (d := some 13) (v := ?_) rfl rfl (by kernel_rfl) (by kernel_rfl) (by kernel_rfl) (fun _ _ _ h => h) (Or.inl ⟨by rfl, ?_⟩) hHeld ?_
    rotate_left
    next => (intro w hSw; (try dsimp only at hSw); go_simp; try with_reducible rfl)
    try simp only [Act.put, List.setIfInBounds_toArray, List.set_cons_zero, List.set_cons_succ]
    refine take_at (i := 9) (oi := _) (d := some 14) (v := ?_) rfl rfl (by kernel_rfl) (by kernel_rfl) (by kernel_rfl) (fun _ _ _ h => h) (Or.inl ⟨by rfl, ?_⟩) hHeld ?_
    rotate_left
    next => (intro w hSw; (try dsimp only at hSw); go_simp; try with_reducible rfl)
    try simp only [Act.put, List.setIfInBounds_toArray, List.set_cons_zero, List.set_cons_succ]
    refine wpAnyH_done (by kernel_rfl) ?_ _
    obtain ⟨w7, rfl⟩ : ∃ x : World, x = w' := ⟨_, rfl⟩
    have hg7 : Gr w w7 := HG4.out.trans hHeld.2
    have hx7 : w7.cell? ⟨w.heap.size, 0, none⟩ = some (.int .i64 l0) ∧ w7.cell? ⟨w.heap.size, 1, none⟩ = some (.int .i64 l1) ∧ w7.cell? ⟨w.heap.size, 2, none⟩ = some (.int .i64 l2) ∧ w7.cell? ⟨w.heap.size, 3, none⟩ = some (.int .i64 l3) ∧ w7.cell? ⟨w.heap.size, 4, none⟩ = some (.int .i64 l4) ∧ w7.cell? ⟨w.heap.size, 5, none⟩ = some (.int .i64 l5) ∧ w7.cell? ⟨w.heap.size, 6, none⟩ = some (.int .i64 h0) ∧ w7.cell? ⟨w.heap.size, 7, none⟩ = some (.int .i64 h1) ∧ w7.cell? ⟨w.heap.size, 8, none⟩ = some (.int .i64 h2) ∧ w7.cell? ⟨w.heap.size, 9, none⟩ = some (.int .i64 h3) ∧ w7.cell? ⟨w.heap.size, 10, none⟩ = some (.int .i64 h4) ∧ w7.cell? ⟨w.heap.size, 11, none⟩ = some (.int .i64 h5) ∧ w7.cell? ⟨w.heap.size, 12, none⟩ = some (.int .i64 st) ∧ w7.cell? ⟨w.heap.size, 13, none⟩ = some (.int .i64 br) := ⟨(Below.cell (p := ⟨w.heap.size, 0, none⟩) hHeld.2 hs4).trans x0, (Below.cell (p := ⟨w.heap.size, 1, none⟩) hHeld.2 hs4).trans x1, (Below.cell (p := ⟨w.heap.size, 2, none⟩) hHeld.2 hs4).trans x2, (Below.cell (p := ⟨w.heap.size, 3, none⟩) hHeld.2 hs4).trans x3, (Below.cell (p := ⟨w.heap.size, 4, none⟩) hHeld.2 hs4).trans x4, (Below.cell (p := ⟨w.heap.size, 5, none⟩) hHeld.2 hs4).trans x5, (Below.cell (p := ⟨w.heap.size, 6, none⟩) hHeld.2 hs4).trans x6, (Below.cell (p := ⟨w.heap.size, 7, none⟩) hHeld.2 hs4).trans x7, (Below.cell (p := ⟨w.heap.size, 8, none⟩) hHeld.2 hs4).trans x8, (Below.cell (p := ⟨w.heap.size, 9, none⟩) hHeld.2 hs4).trans x9, (Below.cell (p := ⟨w.heap.size, 10, none⟩) hHeld.2 hs4).trans x10, (Below.cell (p := ⟨w.heap.size, 11, none⟩) hHeld.2 hs4).trans x11, (Below.cell (p := ⟨w.heap.size, 12, none⟩) hHeld.2 hs4).trans x12, (Below.cell (p := ⟨w.heap.size, 13, none⟩) hHeld.2 hs4).trans x13⟩
    have hs7 : w.heap.size < w7.heap.size := Nat.lt_of_lt_of_le hs4 hHeld.2.size
    have HG7 := Lib.hid hg7
    clear hHeld hg7 x0 x1 x2 x3 x4 x5 x6 x7 x8 x9 x10 x11 x12 x13
    obtain ⟨x0, x1, x2, x3, x4, x5, x6, x7, x8, x9, x10, x11, x12, x13⟩ := hx7
    go_wp2_with fail
    go_at_call 29
    with_reducible refine (HLT.out _ (HG7.out.trans (by repeat (first | with_reducible exact Gr.refl _ | with_reducible refine Gr.alloc ?_ _ | with_reducible refine Gr.drew ?_ | with_reducible refine Gr.trans ?_ (by assumption) | with_reducible refine Gr.setCell ?_ (by (try simp); (try omega)) _)))).mono ?_
    rintro e w8 ⟨A8, c8, rfl, hA8, hg8⟩
    have hz8 := hg8.le
    obtain ⟨hc8, hf8⟩ := hg8.cells
    have HG8 := Lib.hid (HG7.out.trans hg8)
    have HA8 := Lib.hid hA8
    clear hA8
    by_cases hn0 : n = 0
    · have d5 : decide (0 < (n : Int)) = false := decide_eq_false (by omega)
      have d5' : decide (0 < n) = false := decide_eq_false (by omega)
      have hu : ∀ j, j + 1 = n → f j 1 + y ≤ 100000 := fun j hj => by omega
      clear hn0
      go_wp2_with fail
      go_at_call 20
      with_reducible refine (H3.out _ (HG8.out.trans (by repeat (first | with_reducible exact Gr.refl _ | with_reducible refine Gr.alloc ?_ _ | with_reducible refine Gr.drew ?_ | with_reducible refine Gr.trans ?_ (by assumption) | with_reducible refine Gr.setCell ?_ (by (try simp); (try omega)) _))) A8 c8 (HA8.out.keep (by repeat (first | with_reducible exact Gr.refl _ | with_reducible refine Gr.alloc ?_ _ | with_reducible refine Gr.drew ?_ | with_reducible refine Gr.trans ?_ (by assumption) | with_reducible refine Gr.setCell ?_ (by (try simp); (try omega)) _))) hu).mono ?_
      rintro e w9 ⟨rfl, hb9⟩
      go_wp2_with fail
      go_ret
      exact ⟨rfl, HG8.out.trans (by repeat (first | with_reducible exact Gr.refl _ | with_reducible refine Gr.alloc ?_ _ | with_reducible refine Gr.drew ?_ | with_reducible refine Gr.trans ?_ (by assumption) | with_reducible refine Gr.setCell ?_ (by (try simp); (try omega)) _))⟩
    · obtain ⟨m', hm'⟩ : ∃ m' : Nat, n = m' + 1 := ⟨n - 1, by omega⟩
      have d5 : decide (0 < (n : Int)) = true := decide_eq_true (by omega)
      have d5' : decide (0 < n) = true := decide_eq_true (by omega)
      have hwn : IntKind.i64.wrap ((n : Int) - 1) = (m' : Int) := (IntWalk.i64_in _ ⟨by omega, by omega⟩).trans (by omega)
      have hm0 : (0 : Int) ≤ (m' : Int) := by omega
      have hmn : (m' : Int) < (n : Int) := by omega
      obtain ⟨b8, o8, rfl, hb8, z0, z1, -⟩ := HA8.out.eight (show m' < n by omega)
      rw [latF1 f y (show m' < n by omega)] at z1
      clear z0 hn0
      by_cases hu' : f m' 1 + y ≤ 100000
      · have hu : ∀ j, j + 1 = n → f j 1 + y ≤ 100000 := fun j hj => by obtain rfl : j = m' := by omega
                                                                        exact hu'
        have d6 : decide (100000 < f m' 1 + y) = false := decide_eq_false (by omega)
        clear hu' hm'
        go_wp2_with fail
        go_at_call 20
        with_reducible refine (H3.out _ (HG8.out.trans (by repeat (first | with_reducible exact Gr.refl _ | with_reducible refine Gr.alloc ?_ _ | with_reducible refine Gr.drew ?_ | with_reducible refine Gr.trans ?_ (by assumption) | with_reducible refine Gr.setCell ?_ (by (try simp); (try omega)) _))) _ _ (HA8.out.keep (by repeat (first | with_reducible exact Gr.refl _ | with_reducible refine Gr.alloc ?_ _ | with_reducible refine Gr.drew ?_ | with_reducible refine Gr.trans ?_ (by assumption) | with_reducible refine Gr.setCell ?_ (by (try simp); (try omega)) _))) hu).mono ?_
        rintro e w9 ⟨rfl, hb9⟩
        have z2 := (Below.cell (p := ⟨b8, o8 + m' * 8 + 1, none⟩) hb9 hb8).trans z1
        go_wp2_with fail
        go_ret
        exact ⟨rfl, HG8.out.trans (by repeat (first | with_reducible exact Gr.refl _ | with_reducible refine Gr.alloc ?_ _ | with_reducible refine Gr.drew ?_ | with_reducible refine Gr.trans ?_ (by assumption) | with_reducible refine Gr.setCell ?_ (by (try simp); (try omega)) _))⟩
      · have hu : 100000 < f m' 1 + y := by omega
        have d6 : decide (100000 < f m' 1 + y) = true := decide_eq_true hu
        have H5 := Lib.hid (fun W h A' c' hA' => H4.out W h A' c' hA' m' hm'.symm hu)
        clear hu' hm' hu
        go_wp2_with fail
        go_at_call 20
        with_reducible refine (H5.out _ (HG8.out.trans (by repeat (first | with_reducible exact Gr.refl _ | with_reducible refine Gr.alloc ?_ _ | with_reducible refine Gr.drew ?_ | with_reducible refine Gr.trans ?_ (by assumption) | with_reducible refine Gr.setCell ?_ (by (try simp); (try omega)) _))) _ _ (HA8.out.keep (by repeat (first | with_reducible exact Gr.refl _ | with_reducible refine Gr.alloc ?_ _ | with_reducible refine Gr.drew ?_ | with_reducible refine Gr.trans ?_ (by assumption) | with_reducible refine Gr.setCell ?_ (by (try simp); (try omega)) _)))).mono ?_
        rintro e w9 ⟨rfl, hb9⟩
        have z2 := (Below.cell (p := ⟨b8, o8 + m' * 8 + 1, none⟩) hb9 hb8).trans z1
        go_wp2_with fail
        go_ret
        exact ⟨rfl, HG8.out.trans (by repeat (first | with_reducible exact Gr.refl _ | with_reducible refine Gr.alloc ?_ _ | with_reducible refine Gr.drew ?_ | with_reducible refine Gr.trans ?_ (by assumption) | with_reducible refine Gr.setCell ?_ (by (try simp); (try omega)) _))⟩

theorem vline_law (l0 l1 l2 l3 l4 l5 h0 h1 h2 h3 h4 h5 st br : Int) (at_ y : Int) (A : Option Addr) (n c : Nat) (f : Nat → Nat → Int) (w : World) (hP : Primes w) (hL : Logs w) (hA : RowsAt w 8 A n f) (hcap : n ≤ c) (ha : 0 ≤ at_ ∧ at_ ≤ 255) (hy : 0 ≤ y ∧ y ≤ 65535) :
    Calls Tryd.prog 8 #[.agg #[.int .i64 l0, .int .i64 l1, .int .i64 l2, .int .i64 l3, .int .i64 l4, .int .i64 l5, .int .i64 h0, .int .i64 h1, .int .i64 h2, .int .i64 h3, .int .i64 h4, .int .i64 h5, .int .i64 st, .int .i64 br], .slice A n c, .int .u8 at_, .int .u16 y] w fun e w' => e = .returned (.bool true) ∧ Gr w w' := by
  by_cases hn : n ≤ 40
  · rcases tf (voiceOk ⟨l0, l1, l2, l3, l4, l5⟩ ⟨h0, h1, h2, h3, h4, h5⟩ st br) with q1 | q1
    · rcases tf (lineGood f n) with q2 | q2
      · exact vline_good l0 l1 l2 l3 l4 l5 h0 h1 h2 h3 h4 h5 st br at_ y A n c f w hP hL hA hcap ha hy hn q1 q2
      · exact vline_bad l0 l1 l2 l3 l4 l5 h0 h1 h2 h3 h4 h5 st br at_ y A n c f w hP hL hA hcap ha hy hn (fun W h => line_bad3 l0 l1 l2 l3 l4 l5 h0 h1 h2 h3 h4 h5 st br A n c f W (hP.keep h) (hA.keep h) q1 (by omega) q2)
    · exact vline_bad l0 l1 l2 l3 l4 l5 h0 h1 h2 h3 h4 h5 st br at_ y A n c f w hP hL hA hcap ha hy hn (fun W h => line_bad1 l0 l1 l2 l3 l4 l5 h0 h1 h2 h3 h4 h5 st br A n c W (hP.keep h) q1)
  · exact vline_big l0 l1 l2 l3 l4 l5 h0 h1 h2 h3 h4 h5 st br at_ y A n c f w hP hL hA hcap ha hy (by omega)
end Go.Proofs.YtiogfohjepobkaaDoor
