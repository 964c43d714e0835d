import Derived.Test.YtmealmnjeoehiaaDoorProd1
namespace Go.Proofs.YtmealmnjeoehiaaDoor
open Go.RowKit

set_option maxRecDepth 100000 in
set_option maxHeartbeats 16000000 in
theorem products_ttt (p0 p1 p2 p3 p4 p5 q0 q1 q2 q3 q4 q5 al ah bl bh sl sh dl dh gl gh cl ch : Int) (w : World) (hL : Logs w) (hp : allIn ⟨p0, p1, p2, p3, p4, p5⟩ 576 6 = true) (hq : allIn ⟨q0, q1, q2, q3, q4, q5⟩ 576 6 = true) (a1 : sumLo ⟨p0, p1, p2, p3, p4, p5⟩ 6 = al) (a2 : sumHi ⟨p0, p1, p2, p3, p4, p5⟩ 6 = ah) (b1 : sumLo ⟨q0, q1, q2, q3, q4, q5⟩ 6 = bl) (b2 : sumHi ⟨q0, q1, q2, q3, q4, q5⟩ 6 = bh) (av : validS al ah = true) (bv : validS bl bh = true) (s1 : al + bl = sl) (s2 : ah + bh = sh) (sv : validS sl sh = true) (d1 : al - bh = dl) (d2 : ah - bl = dh) (dv : validS dl dh = true) (g1 : sumLo ⟨p0 - q0, p1 - q1, p2 - q2, p3 - q3, p4 - q4, p5 - q5⟩ 6 = gl) (g2 : sumHi ⟨p0 - q0, p1 - q1, p2 - q2, p3 - q3, p4 - q4, p5 - q5⟩ 6 = gh) (e1 : sumLo ⟨q0 - p0, q1 - p1, q2 - p2, q3 - p3, q4 - p4, q5 - p5⟩ 6 = -gh) (e2 : sumHi ⟨q0 - p0, q1 - p1, q2 - p2, q3 - p3, q4 - p4, q5 - p5⟩ 6 = -gl) (f1 : sumLo ⟨p0 - p0, p1 - p1, p2 - p2, p3 - p3, p4 - p4, p5 - p5⟩ 6 = 0) (f2 : sumHi ⟨p0 - p0, p1 - p1, p2 - p2, p3 - p3, p4 - p4, p5 - p5⟩ 6 = 0) (ms : allIn ⟨p0 + q0, p1 + q1, p2 + q2, p3 + q3, p4 + q4, p5 + q5⟩ 576 6 = true) (c1 : sumLo ⟨p0 + q0, p1 + q1, p2 + q2, p3 + q3, p4 + q4, p5 + q5⟩ 6 = cl) (c2 : sumHi ⟨p0 + q0, p1 + q1, p2 + q2, p3 + q3, p4 + q4, p5 + q5⟩ 6 = ch) (ci : (decide (sl ≤ cl) && decide (ch ≤ sh)) = true) (qs : allIn ⟨p0 - q0, p1 - q1, p2 - q2, p3 - q3, p4 - q4, p5 - q5⟩ 576 6 = true) (di : (decide (dl ≤ gl) && decide (gh ≤ dh)) = true) (ho : oppB ⟨p0, p1, p2, p3, p4, p5⟩ ⟨q0, q1, q2, q3, q4, q5⟩ 6 = true) (gb : -100000000000000 ≤ gl ∧ gl ≤ 100000000000000 ∧ -100000000000000 ≤ gh ∧ gh ≤ 100000000000000) :
    Calls Tryd.prog 9 #[.agg #[.int .i64 p0, .int .i64 p1, .int .i64 p2, .int .i64 p3, .int .i64 p4, .int .i64 p5], .agg #[.int .i64 q0, .int .i64 q1, .int .i64 q2, .int .i64 q3, .int .i64 q4, .int .i64 q5]] w fun e w' => e = .returned (.bool true) ∧ Gr w w' := by
  have HL := Lib.hid hL
  have Hhp := Lib.hid hp
  have Hhq := Lib.hid hq
  have Ha1 := Lib.hid a1
  have Ha2 := Lib.hid a2
  have Hb1 := Lib.hid b1
  have Hb2 := Lib.hid b2
  have Hav := Lib.hid av
  have Hbv := Lib.hid bv
  have Hs1 := Lib.hid s1
  have Hs2 := Lib.hid s2
  have Hsv := Lib.hid sv
  have Hd1 := Lib.hid d1
  have Hd2 := Lib.hid d2
  have Hdv := Lib.hid dv
  have Hg1 := Lib.hid g1
  have Hg2 := Lib.hid g2
  have He1 := Lib.hid e1
  have He2 := Lib.hid e2
  have Hf1 := Lib.hid f1
  have Hf2 := Lib.hid f2
  have Hms := Lib.hid ms
  have Hc1 := Lib.hid c1
  have Hc2 := Lib.hid c2
  have Hci := Lib.hid ci
  have Hqs := Lib.hid qs
  have Hdi := Lib.hid di
  clear hL hp hq a1 a2 b1 b2 av bv s1 s2 sv d1 d2 dv g1 g2 e1 e2 f1 f2 ms c1 c2 ci qs di
  have hp := Hhp.out; have hq := Hhq.out
  have HO := Lib.hid ho
  clear ho
  go_enter Tryd.func9, Tryd.ntmps9
  go_wp2_with (first | (go_at_call 12; with_reducible refine (head_any _ (HL.out.keep (by repeat (first | with_reducible exact Gr.refl _ | with_reducible refine Gr.alloc ?_ _ | with_reducible refine Gr.drew ?_ | with_reducible refine Gr.trans ?_ (by assumption) | with_reducible refine Gr.setCell ?_ (by (try simp); (try omega)) _)))).mono ?_; rintro e w' ⟨rfl, hb⟩; have hz := hb.le; obtain ⟨hc, hf⟩ := hb.cells; (try simp only [World.size_alloc] at hc hf hz); (try simp only [World.size_setCell] at hc hf hz); (try simp only [World.size_drew] at hc hf hz)) | (go_at_call 20; with_reducible refine (pitchValid_any _ _ _ _ _ _ _).mono ?_; rintro e w' ⟨rfl, hb⟩; have hz := hb.le; obtain ⟨hc, hf⟩ := hb.cells; (try simp only [World.size_alloc] at hc hf hz); (try simp only [World.size_setCell] at hc hf hz); (try simp only [World.size_drew] at hc hf hz)) | (go_at_call 23; with_reducible refine (of_is _ (HL.out.keep (by repeat (first | with_reducible exact Gr.refl _ | with_reducible refine Gr.alloc ?_ _ | with_reducible refine Gr.drew ?_ | with_reducible refine Gr.trans ?_ (by assumption) | with_reducible refine Gr.setCell ?_ (by (try simp); (try omega)) _))) Hhp.out Ha1.out Ha2.out).mono ?_; rintro e w' ⟨rfl, hb⟩; have hz := hb.le; obtain ⟨hc, hf⟩ := hb.cells; (try simp only [World.size_alloc] at hc hf hz); (try simp only [World.size_setCell] at hc hf hz); (try simp only [World.size_drew] at hc hf hz)) | (go_at_call 23; with_reducible refine (of_is _ (HL.out.keep (by repeat (first | with_reducible exact Gr.refl _ | with_reducible refine Gr.alloc ?_ _ | with_reducible refine Gr.drew ?_ | with_reducible refine Gr.trans ?_ (by assumption) | with_reducible refine Gr.setCell ?_ (by (try simp); (try omega)) _))) Hhq.out Hb1.out Hb2.out).mono ?_; rintro e w' ⟨rfl, hb⟩; have hz := hb.le; obtain ⟨hc, hf⟩ := hb.cells; (try simp only [World.size_alloc] at hc hf hz); (try simp only [World.size_setCell] at hc hf hz); (try simp only [World.size_drew] at hc hf hz)) | (go_at_call 19; with_reducible refine (add_is _ Hav.out Hbv.out Hsv.out Hs1.out Hs2.out).mono ?_; rintro e w' ⟨rfl, hb⟩; have hz := hb.le; obtain ⟨hc, hf⟩ := hb.cells; (try simp only [World.size_alloc] at hc hf hz); (try simp only [World.size_setCell] at hc hf hz); (try simp only [World.size_drew] at hc hf hz)) | (go_at_call 25; with_reducible refine (sub_is _ Hav.out Hbv.out Hdv.out Hd1.out Hd2.out).mono ?_; rintro e w' ⟨rfl, hb⟩; have hz := hb.le; obtain ⟨hc, hf⟩ := hb.cells; (try simp only [World.size_alloc] at hc hf hz); (try simp only [World.size_setCell] at hc hf hz); (try simp only [World.size_drew] at hc hf hz)))
  have hx0 : ∀ j, j < 6 → (w'.alloc (.cells #[.int .i64 dl, .int .i64 dh] 23)).cell? ⟨w.heap.size, j, none⟩ = some (.int .i64 (V6.get ⟨p0, p1, p2, p3, p4, p5⟩ j)) := by
    intro j hj
    obtain rfl | rfl | rfl | rfl | rfl | rfl : j = 0 ∨ j = 1 ∨ j = 2 ∨ j = 3 ∨ j = 4 ∨ j = 5 := by omega
    all_goals simp [go_sem, V6.get, *]
  have hy0 : ∀ j, j < 6 → (w'.alloc (.cells #[.int .i64 dl, .int .i64 dh] 23)).cell? ⟨w.heap.size + 1, j, none⟩ = some (.int .i64 (V6.get ⟨q0, q1, q2, q3, q4, q5⟩ j)) := by
    intro j hj
    obtain rfl | rfl | rfl | rfl | rfl | rfl : j = 0 ∨ j = 1 ∨ j = 2 ∨ j = 3 ∨ j = 4 ∨ j = 5 := by omega
    all_goals simp [go_sem, V6.get, *]
  generalize hwx : (w'.alloc (.cells #[.int .i64 dl, .int .i64 dh] 23)) = wx at hx0 hy0 ⊢
  have HWX := Lib.hid hwx
  have HX := Lib.hid hx0; have HY := Lib.hid hy0
  clear hx0 hy0 hp hq hwx
  go_loop [14, 15] (fun o i => ∃ k : Nat, k ≤ 6 ∧ o = .bool (oppB ⟨p0, p1, p2, p3, p4, p5⟩ ⟨q0, q1, q2, q3, q4, q5⟩ k) ∧ i = .int .i64 k) (fun _ i => 6 - (intOf i).toNat)
  case atStart => exact ⟨0, by omega, rfl, rfl⟩
  case round =>
    obtain ⟨k, hk, rfl, rfl⟩ := hrel
    by_cases hlt : k < 6
    · have hx := HX.out k hlt
      have hy := HY.out k hlt
      have hop := oppB_succ ⟨p0, p1, p2, p3, p4, p5⟩ ⟨q0, q1, q2, q3, q4, q5⟩ k
      clear HX HY
      generalize V6.get ⟨p0, p1, p2, p3, p4, p5⟩ k = x at hx hop
      generalize V6.get ⟨q0, q1, q2, q3, q4, q5⟩ k = y at hy hop
      generalize oppB ⟨p0, p1, p2, p3, p4, p5⟩ ⟨q0, q1, q2, q3, q4, q5⟩ k = ob at hop ⊢
      have HOP := Lib.hid hop
      clear hop
      cases ob
      all_goals
        go_wp2
        all_goals
          go_round
          case rel =>
            refine ⟨k + 1, by omega, congrArg Value.bool ?_, by go_num⟩
            rw [HOP.out]
            simp [*]
            try omega
          case measure => simp [intOf]; omega
    · obtain rfl : k = 6 := by omega
      rw [HO.out]
      clear HX HY
      obtain rfl := HWX.out
      go_wp2_with (first | (go_at_call 12; with_reducible refine (head_any _ (HL.out.keep (by repeat (first | with_reducible exact Gr.refl _ | with_reducible refine Gr.alloc ?_ _ | with_reducible refine Gr.drew ?_ | with_reducible refine Gr.trans ?_ (by assumption) | with_reducible refine Gr.setCell ?_ (by (try simp); (try omega)) _)))).mono ?_; rintro e w' ⟨rfl, hb⟩; have hz := hb.le; obtain ⟨hc, hf⟩ := hb.cells; (try simp only [World.size_alloc] at hc hf hz); (try simp only [World.size_setCell] at hc hf hz); (try simp only [World.size_drew] at hc hf hz)) | (go_at_call 28; with_reducible refine (gap_is _ (HL.out.keep (by repeat (first | with_reducible exact Gr.refl _ | with_reducible refine Gr.alloc ?_ _ | with_reducible refine Gr.drew ?_ | with_reducible refine Gr.trans ?_ (by assumption) | with_reducible refine Gr.setCell ?_ (by (try simp); (try omega)) _))) Hhp.out Hhq.out Hg1.out Hg2.out).mono ?_; rintro e w' ⟨rfl, hb⟩; have hz := hb.le; obtain ⟨hc, hf⟩ := hb.cells; (try simp only [World.size_alloc] at hc hf hz); (try simp only [World.size_setCell] at hc hf hz); (try simp only [World.size_drew] at hc hf hz)) | (go_at_call 28; with_reducible refine (gap_is _ (HL.out.keep (by repeat (first | with_reducible exact Gr.refl _ | with_reducible refine Gr.alloc ?_ _ | with_reducible refine Gr.drew ?_ | with_reducible refine Gr.trans ?_ (by assumption) | with_reducible refine Gr.setCell ?_ (by (try simp); (try omega)) _))) Hhq.out Hhp.out He1.out He2.out).mono ?_; rintro e w' ⟨rfl, hb⟩; have hz := hb.le; obtain ⟨hc, hf⟩ := hb.cells; (try simp only [World.size_alloc] at hc hf hz); (try simp only [World.size_setCell] at hc hf hz); (try simp only [World.size_drew] at hc hf hz)) | (go_at_call 28; with_reducible refine (gap_is _ (HL.out.keep (by repeat (first | with_reducible exact Gr.refl _ | with_reducible refine Gr.alloc ?_ _ | with_reducible refine Gr.drew ?_ | with_reducible refine Gr.trans ?_ (by assumption) | with_reducible refine Gr.setCell ?_ (by (try simp); (try omega)) _))) Hhp.out Hhp.out Hf1.out Hf2.out).mono ?_; rintro e w' ⟨rfl, hb⟩; have hz := hb.le; obtain ⟨hc, hf⟩ := hb.cells; (try simp only [World.size_alloc] at hc hf hz); (try simp only [World.size_setCell] at hc hf hz); (try simp only [World.size_drew] at hc hf hz)) | (go_at_call 22; with_reducible refine (mul_ok _ _ _ _ _ _ _ _ _ _ _ _ _ Hhp.out Hhq.out Hms.out).mono ?_; rintro e w' ⟨rfl, hb⟩; have hz := hb.le; obtain ⟨hc, hf⟩ := hb.cells; (try simp only [World.size_alloc] at hc hf hz); (try simp only [World.size_setCell] at hc hf hz); (try simp only [World.size_drew] at hc hf hz)) | (go_at_call 23; with_reducible refine (of_is _ (HL.out.keep (by repeat (first | with_reducible exact Gr.refl _ | with_reducible refine Gr.alloc ?_ _ | with_reducible refine Gr.drew ?_ | with_reducible refine Gr.trans ?_ (by assumption) | with_reducible refine Gr.setCell ?_ (by (try simp); (try omega)) _))) Hms.out Hc1.out Hc2.out).mono ?_; rintro e w' ⟨rfl, hb⟩; have hz := hb.le; obtain ⟨hc, hf⟩ := hb.cells; (try simp only [World.size_alloc] at hc hf hz); (try simp only [World.size_setCell] at hc hf hz); (try simp only [World.size_drew] at hc hf hz)) | (go_at_call 18; with_reducible refine (in_is _ Hci.out).mono ?_; rintro e w' ⟨rfl, hb⟩; have hz := hb.le; obtain ⟨hc, hf⟩ := hb.cells; (try simp only [World.size_alloc] at hc hf hz); (try simp only [World.size_setCell] at hc hf hz); (try simp only [World.size_drew] at hc hf hz)) | (go_at_call 37; with_reducible refine (div_ok _ _ _ _ _ _ _ _ _ _ _ _ _ Hhp.out Hhq.out Hqs.out).mono ?_; rintro e w' ⟨rfl, hb⟩; have hz := hb.le; obtain ⟨hc, hf⟩ := hb.cells; (try simp only [World.size_alloc] at hc hf hz); (try simp only [World.size_setCell] at hc hf hz); (try simp only [World.size_drew] at hc hf hz)) | (go_at_call 23; with_reducible refine (of_is _ (HL.out.keep (by repeat (first | with_reducible exact Gr.refl _ | with_reducible refine Gr.alloc ?_ _ | with_reducible refine Gr.drew ?_ | with_reducible refine Gr.trans ?_ (by assumption) | with_reducible refine Gr.setCell ?_ (by (try simp); (try omega)) _))) Hqs.out Hg1.out Hg2.out).mono ?_; rintro e w' ⟨rfl, hb⟩; have hz := hb.le; obtain ⟨hc, hf⟩ := hb.cells; (try simp only [World.size_alloc] at hc hf hz); (try simp only [World.size_setCell] at hc hf hz); (try simp only [World.size_drew] at hc hf hz)) | (go_at_call 18; with_reducible refine (in_is _ Hdi.out).mono ?_; rintro e w' ⟨rfl, hb⟩; have hz := hb.le; obtain ⟨hc, hf⟩ := hb.cells; (try simp only [World.size_alloc] at hc hf hz); (try simp only [World.size_setCell] at hc hf hz); (try simp only [World.size_drew] at hc hf hz)))
      all_goals
        go_ret
        exact ⟨rfl, (by repeat (first | with_reducible exact Gr.refl _ | with_reducible refine Gr.alloc ?_ _ | with_reducible refine Gr.drew ?_ | with_reducible refine Gr.trans ?_ (by assumption) | with_reducible refine Gr.setCell ?_ (by (try simp); (try omega)) _))⟩

set_option maxRecDepth 100000 in
set_option maxHeartbeats 16000000 in
theorem products_ttf (p0 p1 p2 p3 p4 p5 q0 q1 q2 q3 q4 q5 al ah bl bh sl sh dl dh gl gh cl ch : Int) (w : World) (hL : Logs w) (hp : allIn ⟨p0, p1, p2, p3, p4, p5⟩ 576 6 = true) (hq : allIn ⟨q0, q1, q2, q3, q4, q5⟩ 576 6 = true) (a1 : sumLo ⟨p0, p1, p2, p3, p4, p5⟩ 6 = al) (a2 : sumHi ⟨p0, p1, p2, p3, p4, p5⟩ 6 = ah) (b1 : sumLo ⟨q0, q1, q2, q3, q4, q5⟩ 6 = bl) (b2 : sumHi ⟨q0, q1, q2, q3, q4, q5⟩ 6 = bh) (av : validS al ah = true) (bv : validS bl bh = true) (s1 : al + bl = sl) (s2 : ah + bh = sh) (sv : validS sl sh = true) (d1 : al - bh = dl) (d2 : ah - bl = dh) (dv : validS dl dh = true) (g1 : sumLo ⟨p0 - q0, p1 - q1, p2 - q2, p3 - q3, p4 - q4, p5 - q5⟩ 6 = gl) (g2 : sumHi ⟨p0 - q0, p1 - q1, p2 - q2, p3 - q3, p4 - q4, p5 - q5⟩ 6 = gh) (e1 : sumLo ⟨q0 - p0, q1 - p1, q2 - p2, q3 - p3, q4 - p4, q5 - p5⟩ 6 = -gh) (e2 : sumHi ⟨q0 - p0, q1 - p1, q2 - p2, q3 - p3, q4 - p4, q5 - p5⟩ 6 = -gl) (f1 : sumLo ⟨p0 - p0, p1 - p1, p2 - p2, p3 - p3, p4 - p4, p5 - p5⟩ 6 = 0) (f2 : sumHi ⟨p0 - p0, p1 - p1, p2 - p2, p3 - p3, p4 - p4, p5 - p5⟩ 6 = 0) (ms : allIn ⟨p0 + q0, p1 + q1, p2 + q2, p3 + q3, p4 + q4, p5 + q5⟩ 576 6 = true) (c1 : sumLo ⟨p0 + q0, p1 + q1, p2 + q2, p3 + q3, p4 + q4, p5 + q5⟩ 6 = cl) (c2 : sumHi ⟨p0 + q0, p1 + q1, p2 + q2, p3 + q3, p4 + q4, p5 + q5⟩ 6 = ch) (ci : (decide (sl ≤ cl) && decide (ch ≤ sh)) = true) (qs : allIn ⟨p0 - q0, p1 - q1, p2 - q2, p3 - q3, p4 - q4, p5 - q5⟩ 576 6 = false) (ho : oppB ⟨p0, p1, p2, p3, p4, p5⟩ ⟨q0, q1, q2, q3, q4, q5⟩ 6 = true) (gb : -100000000000000 ≤ gl ∧ gl ≤ 100000000000000 ∧ -100000000000000 ≤ gh ∧ gh ≤ 100000000000000) :
    Calls Tryd.prog 9 #[.agg #[.int .i64 p0, .int .i64 p1, .int .i64 p2, .int .i64 p3, .int .i64 p4, .int .i64 p5], .agg #[.int .i64 q0, .int .i64 q1, .int .i64 q2, .int .i64 q3, .int .i64 q4, .int .i64 q5]] w fun e w' => e = .returned (.bool true) ∧ Gr w w' := by
  have HL := Lib.hid hL
  have Hhp := Lib.hid hp
  have Hhq := Lib.hid hq
  have Ha1 := Lib.hid a1
  have Ha2 := Lib.hid a2
  have Hb1 := Lib.hid b1
  have Hb2 := Lib.hid b2
  have Hav := Lib.hid av
  have Hbv := Lib.hid bv
  have Hs1 := Lib.hid s1
  have Hs2 := Lib.hid s2
  have Hsv := Lib.hid sv
  have Hd1 := Lib.hid d1
  have Hd2 := Lib.hid d2
  have Hdv := Lib.hid dv
  have Hg1 := Lib.hid g1
  have Hg2 := Lib.hid g2
  have He1 := Lib.hid e1
  have He2 := Lib.hid e2
  have Hf1 := Lib.hid f1
  have Hf2 := Lib.hid f2
  have Hms := Lib.hid ms
  have Hc1 := Lib.hid c1
  have Hc2 := Lib.hid c2
  have Hci := Lib.hid ci
  have Hqs := Lib.hid qs
  clear hL hp hq a1 a2 b1 b2 av bv s1 s2 sv d1 d2 dv g1 g2 e1 e2 f1 f2 ms c1 c2 ci qs
  have hp := Hhp.out; have hq := Hhq.out
  have HO := Lib.hid ho
  clear ho
  go_enter Tryd.func9, Tryd.ntmps9
  go_wp2_with (first | (go_at_call 12; with_reducible refine (head_any _ (HL.out.keep (by repeat (first | with_reducible exact Gr.refl _ | with_reducible refine Gr.alloc ?_ _ | with_reducible refine Gr.drew ?_ | with_reducible refine Gr.trans ?_ (by assumption) | with_reducible refine Gr.setCell ?_ (by (try simp); (try omega)) _)))).mono ?_; rintro e w' ⟨rfl, hb⟩; have hz := hb.le; obtain ⟨hc, hf⟩ := hb.cells; (try simp only [World.size_alloc] at hc hf hz); (try simp only [World.size_setCell] at hc hf hz); (try simp only [World.size_drew] at hc hf hz)) | (go_at_call 20; with_reducible refine (pitchValid_any _ _ _ _ _ _ _).mono ?_; rintro e w' ⟨rfl, hb⟩; have hz := hb.le; obtain ⟨hc, hf⟩ := hb.cells; (try simp only [World.size_alloc] at hc hf hz); (try simp only [World.size_setCell] at hc hf hz); (try simp only [World.size_drew] at hc hf hz)) | (go_at_call 23; with_reducible refine (of_is _ (HL.out.keep (by repeat (first | with_reducible exact Gr.refl _ | with_reducible refine Gr.alloc ?_ _ | with_reducible refine Gr.drew ?_ | with_reducible refine Gr.trans ?_ (by assumption) | with_reducible refine Gr.setCell ?_ (by (try simp); (try omega)) _))) Hhp.out Ha1.out Ha2.out).mono ?_; rintro e w' ⟨rfl, hb⟩; have hz := hb.le; obtain ⟨hc, hf⟩ := hb.cells; (try simp only [World.size_alloc] at hc hf hz); (try simp only [World.size_setCell] at hc hf hz); (try simp only [World.size_drew] at hc hf hz)) | (go_at_call 23; with_reducible refine (of_is _ (HL.out.keep (by repeat (first | with_reducible exact Gr.refl _ | with_reducible refine Gr.alloc ?_ _ | with_reducible refine Gr.drew ?_ | with_reducible refine Gr.trans ?_ (by assumption) | with_reducible refine Gr.setCell ?_ (by (try simp); (try omega)) _))) Hhq.out Hb1.out Hb2.out).mono ?_; rintro e w' ⟨rfl, hb⟩; have hz := hb.le; obtain ⟨hc, hf⟩ := hb.cells; (try simp only [World.size_alloc] at hc hf hz); (try simp only [World.size_setCell] at hc hf hz); (try simp only [World.size_drew] at hc hf hz)) | (go_at_call 19; with_reducible refine (add_is _ Hav.out Hbv.out Hsv.out Hs1.out Hs2.out).mono ?_; rintro e w' ⟨rfl, hb⟩; have hz := hb.le; obtain ⟨hc, hf⟩ := hb.cells; (try simp only [World.size_alloc] at hc hf hz); (try simp only [World.size_setCell] at hc hf hz); (try simp only [World.size_drew] at hc hf hz)) | (go_at_call 25; with_reducible refine (sub_is _ Hav.out Hbv.out Hdv.out Hd1.out Hd2.out).mono ?_; rintro e w' ⟨rfl, hb⟩; have hz := hb.le; obtain ⟨hc, hf⟩ := hb.cells; (try simp only [World.size_alloc] at hc hf hz); (try simp only [World.size_setCell] at hc hf hz); (try simp only [World.size_drew] at hc hf hz)))
  have hx0 : ∀ j, j < 6 → (w'.alloc (.cells #[.int .i64 dl, .int .i64 dh] 23)).cell? ⟨w.heap.size, j, none⟩ = some (.int .i64 (V6.get ⟨p0, p1, p2, p3, p4, p5⟩ j)) := by
    intro j hj
    obtain rfl | rfl | rfl | rfl | rfl | rfl : j = 0 ∨ j = 1 ∨ j = 2 ∨ j = 3 ∨ j = 4 ∨ j = 5 := by omega
    all_goals simp [go_sem, V6.get, *]
  have hy0 : ∀ j, j < 6 → (w'.alloc (.cells #[.int .i64 dl, .int .i64 dh] 23)).cell? ⟨w.heap.size + 1, j, none⟩ = some (.int .i64 (V6.get ⟨q0, q1, q2, q3, q4, q5⟩ j)) := by
    intro j hj
    obtain rfl | rfl | rfl | rfl | rfl | rfl : j = 0 ∨ j = 1 ∨ j = 2 ∨ j = 3 ∨ j = 4 ∨ j = 5 := by omega
    all_goals simp [go_sem, V6.get, *]
  generalize hwx : (w'.alloc (.cells #[.int .i64 dl, .int .i64 dh] 23)) = wx at hx0 hy0 ⊢
  have HWX := Lib.hid hwx
  have HX := Lib.hid hx0; have HY := Lib.hid hy0
  clear hx0 hy0 hp hq hwx
  go_loop [14, 15] (fun o i => ∃ k : Nat, k ≤ 6 ∧ o = .bool (oppB ⟨p0, p1, p2, p3, p4, p5⟩ ⟨q0, q1, q2, q3, q4, q5⟩ k) ∧ i = .int .i64 k) (fun _ i => 6 - (intOf i).toNat)
  case atStart => exact ⟨0, by omega, rfl, rfl⟩
  case round =>
    obtain ⟨k, hk, rfl, rfl⟩ := hrel
    by_cases hlt : k < 6
    · have hx := HX.out k hlt
      have hy := HY.out k hlt
      have hop := oppB_succ ⟨p0, p1, p2, p3, p4, p5⟩ ⟨q0, q1, q2, q3, q4, q5⟩ k
      clear HX HY
      generalize V6.get ⟨p0, p1, p2, p3, p4, p5⟩ k = x at hx hop
      generalize V6.get ⟨q0, q1, q2, q3, q4, q5⟩ k = y at hy hop
      generalize oppB ⟨p0, p1, p2, p3, p4, p5⟩ ⟨q0, q1, q2, q3, q4, q5⟩ k = ob at hop ⊢
      have HOP := Lib.hid hop
      clear hop
      cases ob
      all_goals
        go_wp2
        all_goals
          go_round
          case rel =>
            refine ⟨k + 1, by omega, congrArg Value.bool ?_, by go_num⟩
            rw [HOP.out]
            simp [*]
            try omega
          case measure => simp [intOf]; omega
    · obtain rfl : k = 6 := by omega
      rw [HO.out]
      clear HX HY
      obtain rfl := HWX.out
      go_wp2_with (first | (go_at_call 12; with_reducible refine (head_any _ (HL.out.keep (by repeat (first | with_reducible exact Gr.refl _ | with_reducible refine Gr.alloc ?_ _ | with_reducible refine Gr.drew ?_ | with_reducible refine Gr.trans ?_ (by assumption) | with_reducible refine Gr.setCell ?_ (by (try simp); (try omega)) _)))).mono ?_; rintro e w' ⟨rfl, hb⟩; have hz := hb.le; obtain ⟨hc, hf⟩ := hb.cells; (try simp only [World.size_alloc] at hc hf hz); (try simp only [World.size_setCell] at hc hf hz); (try simp only [World.size_drew] at hc hf hz)) | (go_at_call 28; with_reducible refine (gap_is _ (HL.out.keep (by repeat (first | with_reducible exact Gr.refl _ | with_reducible refine Gr.alloc ?_ _ | with_reducible refine Gr.drew ?_ | with_reducible refine Gr.trans ?_ (by assumption) | with_reducible refine Gr.setCell ?_ (by (try simp); (try omega)) _))) Hhp.out Hhq.out Hg1.out Hg2.out).mono ?_; rintro e w' ⟨rfl, hb⟩; have hz := hb.le; obtain ⟨hc, hf⟩ := hb.cells; (try simp only [World.size_alloc] at hc hf hz); (try simp only [World.size_setCell] at hc hf hz); (try simp only [World.size_drew] at hc hf hz)) | (go_at_call 28; with_reducible refine (gap_is _ (HL.out.keep (by repeat (first | with_reducible exact Gr.refl _ | with_reducible refine Gr.alloc ?_ _ | with_reducible refine Gr.drew ?_ | with_reducible refine Gr.trans ?_ (by assumption) | with_reducible refine Gr.setCell ?_ (by (try simp); (try omega)) _))) Hhq.out Hhp.out He1.out He2.out).mono ?_; rintro e w' ⟨rfl, hb⟩; have hz := hb.le; obtain ⟨hc, hf⟩ := hb.cells; (try simp only [World.size_alloc] at hc hf hz); (try simp only [World.size_setCell] at hc hf hz); (try simp only [World.size_drew] at hc hf hz)) | (go_at_call 28; with_reducible refine (gap_is _ (HL.out.keep (by repeat (first | with_reducible exact Gr.refl _ | with_reducible refine Gr.alloc ?_ _ | with_reducible refine Gr.drew ?_ | with_reducible refine Gr.trans ?_ (by assumption) | with_reducible refine Gr.setCell ?_ (by (try simp); (try omega)) _))) Hhp.out Hhp.out Hf1.out Hf2.out).mono ?_; rintro e w' ⟨rfl, hb⟩; have hz := hb.le; obtain ⟨hc, hf⟩ := hb.cells; (try simp only [World.size_alloc] at hc hf hz); (try simp only [World.size_setCell] at hc hf hz); (try simp only [World.size_drew] at hc hf hz)) | (go_at_call 22; with_reducible refine (mul_ok _ _ _ _ _ _ _ _ _ _ _ _ _ Hhp.out Hhq.out Hms.out).mono ?_; rintro e w' ⟨rfl, hb⟩; have hz := hb.le; obtain ⟨hc, hf⟩ := hb.cells; (try simp only [World.size_alloc] at hc hf hz); (try simp only [World.size_setCell] at hc hf hz); (try simp only [World.size_drew] at hc hf hz)) | (go_at_call 23; with_reducible refine (of_is _ (HL.out.keep (by repeat (first | with_reducible exact Gr.refl _ | with_reducible refine Gr.alloc ?_ _ | with_reducible refine Gr.drew ?_ | with_reducible refine Gr.trans ?_ (by assumption) | with_reducible refine Gr.setCell ?_ (by (try simp); (try omega)) _))) Hms.out Hc1.out Hc2.out).mono ?_; rintro e w' ⟨rfl, hb⟩; have hz := hb.le; obtain ⟨hc, hf⟩ := hb.cells; (try simp only [World.size_alloc] at hc hf hz); (try simp only [World.size_setCell] at hc hf hz); (try simp only [World.size_drew] at hc hf hz)) | (go_at_call 18; with_reducible refine (in_is _ Hci.out).mono ?_; rintro e w' ⟨rfl, hb⟩; have hz := hb.le; obtain ⟨hc, hf⟩ := hb.cells; (try simp only [World.size_alloc] at hc hf hz); (try simp only [World.size_setCell] at hc hf hz); (try simp only [World.size_drew] at hc hf hz)) | (go_at_call 37; with_reducible refine (div_out _ _ _ _ _ _ _ _ _ _ _ _ _ Hhp.out Hhq.out Hqs.out).mono ?_; rintro e w' ⟨rfl, hb⟩; have hz := hb.le; obtain ⟨hc, hf⟩ := hb.cells; (try simp only [World.size_alloc] at hc hf hz); (try simp only [World.size_setCell] at hc hf hz); (try simp only [World.size_drew] at hc hf hz)))
      all_goals
        go_ret
        exact ⟨rfl, (by repeat (first | with_reducible exact Gr.refl _ | with_reducible refine Gr.alloc ?_ _ | with_reducible refine Gr.drew ?_ | with_reducible refine Gr.trans ?_ (by assumption) | with_reducible refine Gr.setCell ?_ (by (try simp); (try omega)) _))⟩
end Go.Proofs.YtmealmnjeoehiaaDoor
